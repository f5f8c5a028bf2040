/- What the loop of zed.rows holds. -/
import Derived.Test.YtkhcjjdamphbfaaZ1
import Derived.Test.YtkhcjjdamphbfaaN4
namespace Go.Proofs.Ytkhcjjdamphbfaa
open Go.RowKit Go.Shelf

structure ST (w wr : World) (c : Nat) (own : Value) (s t : ByteArray) (k fr to : Nat) : Prop where
  ow : Boxed wr c 48 own
  row : wr.ownsRow (c + 1) 3 1 (.slice (some ⟨c + 1, 0, none⟩) k t.size) k (ints ((rowsL s t).take k))
  ob : Boxed wr (c + 2) 48 (.slice (some ⟨c + 1, 0, none⟩) k t.size)
  fb : Boxed wr (c + 3) 3 (.int .i64 (fr : Nat))
  tb : Boxed wr (c + 4) 3 (.int .i64 (to : Nat))
  be : Below c w wr
  sz : c + 5 ≤ wr.heap.size

theorem ST.below {w wr w' : World} {c : Nat} {own : Value} {s t : ByteArray} {k fr to : Nat} (h : ST w wr c own s t k fr to) (hb : Below wr.heap.size wr w') : ST w w' c own s t k fr to where
  ow := Boxed.below h.ow hb (by have := h.sz; omega)
  row := own_below h.row hb
  ob := Boxed.below h.ob hb (by have := h.sz; omega)
  fb := Boxed.below h.fb hb (by have := h.sz; omega)
  tb := Boxed.below h.tb hb (by have := h.sz; omega)
  be := h.be.trans (hb.mono (by have := h.sz; omega))
  sz := Nat.le_trans h.sz hb.size

theorem own_set {w : World} {c k cap : Nat} {xs : List Value} (h : w.ownsRow (c + 1) 3 1 (.slice (some ⟨c + 1, 0, none⟩) k cap) k xs) (b : Nat) (hb : b ≠ c + 1) (v : Value) : (w.setCell ⟨b, 0, none⟩ v).ownsRow (c + 1) 3 1 (.slice (some ⟨c + 1, 0, none⟩) k cap) k xs :=
  h.kept (grownBy_setCell' w b v) (.inr (by simp [Value.ownBlock]; omega))

theorem ST.set {w wr : World} {c : Nat} {own : Value} {s t : ByteArray} {k fr to : Nat} (h : ST w wr c own s t k fr to) (fr' to' : Nat) :
    ST w ((wr.setCell ⟨c + 3, 0, none⟩ (.int .i64 (fr' : Nat))).setCell ⟨c + 4, 0, none⟩ (.int .i64 (to' : Nat))) c own s t k fr' to' where
  ow := Boxed.other (Boxed.other h.ow (by omega) _) (by omega) _
  row := own_set (own_set h.row _ (by omega) _) _ (by omega) _
  ob := Boxed.other (Boxed.other h.ob (by omega) _) (by omega) _
  fb := Boxed.other (Boxed.set _ h.fb) (by omega) _
  tb := Boxed.set _ (Boxed.other h.tb (by omega) _)
  be := (h.be.setCell (p := ⟨c + 3, 0, none⟩) (show c ≤ c + 3 by omega) _).setCell (p := ⟨c + 4, 0, none⟩) (show c ≤ c + 4 by omega) _
  sz := by simpa using h.sz

theorem ST.app {w wr w5 : World} {c : Nat} {own : Value} {s t : ByteArray} {k fr to : Nat} (h : ST w wr c own s t k fr to) {tmp : Obj} (hg : (wr.alloc tmp).grownBy w5 (some (c + 1)))
    (hr : w5.ownsRow (c + 1) 3 1 (.slice (some ⟨c + 1, 0, none⟩) (k + 1) t.size) (k + 1) (ints ((rowsL s t).take (k + 1)))) :
    Boxed w5 (c + 2) 48 (.slice (some ⟨c + 1, 0, none⟩) k t.size) ∧ ST w (w5.setCell ⟨c + 2, 0, none⟩ (.slice (some ⟨c + 1, 0, none⟩) (k + 1) t.size)) c own s t (k + 1) fr to := by
  have h1 : ∀ {B T : Nat} {v : Value}, Boxed wr B T v → B ≠ c + 1 → Boxed w5 B T v := fun hb hne => (hb.alloc tmp).kept hg (fun e => hne (by cases e; rfl))
  refine ⟨h1 h.ob (by omega), ?_⟩
  exact {
    ow := Boxed.other (h1 h.ow (by omega)) (by omega) _
    row := own_set hr _ (by omega) _
    ob := Boxed.set _ (h1 h.ob (by omega))
    fb := Boxed.other (h1 h.fb (by omega)) (by omega) _
    tb := Boxed.other (h1 h.tb (by omega)) (by omega) _
    be := ((h.be.alloc (by have := h.sz; omega) tmp).grown hg (by have := h.sz; simp; omega) (fun j e => by cases e; omega)).setCell (p := ⟨c + 2, 0, none⟩) (show c ≤ c + 2 by omega) _
    sz := by have h2 := h.sz; have h3 := hg.size; simp at h3 ⊢; omega }

theorem make0 (n : Nat) (hn : n ≤ 1000000) (w : World) : (Instr.makeSlice 48 (.int .i64 0) (.int .i64 (n : Nat))).run Try.prog w = .ok (.slice (some ⟨w.heap.size, 0, none⟩) 0 n) (w.alloc (.cells (madeCells #[.int .i64 0] n) 3)) := by
  obtain ⟨i, hi, h1, h2, h3⟩ := info_parts (P := Try.prog) (show (Try.prog.info? 3).map (fun i => (i.zero, i.size, i.bytes)) = some (some (.int .i64 0), 1, 8) from by kernel_rfl)
  have h := run_make (P := Try.prog) w 48 3 i (.int .i64 0) Try.underlying48 hi h1 .i64 .i64 0 n (by omega) (by omega) (by rw [h3]; omega) (by omega)
  rw [h2, Nat.mul_one] at h
  exact h
end Go.Proofs.Ytkhcjjdamphbfaa
