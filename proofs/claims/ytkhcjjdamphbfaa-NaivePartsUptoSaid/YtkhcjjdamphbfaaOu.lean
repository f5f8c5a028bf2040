/- What is read is of small bulk: so many classes, so many bytes. -/
import Derived.Test.YtkhcjjdamphbfaaOp
namespace Go.Proofs.Ytkhcjjdamphbfaa
open Go.ChangeShapes Go.WideShapes Go.ChangeAt Go.RowKit Go.Deep

theorem bulk_one {H : Type} (d : DataW H) : 1 ≤ Rows.uptoBulk d := by
  cases d with
  | lit l => cases l <;> simp [Rows.uptoBulk]
  | nil => simp [Rows.uptoBulk]
  | ptr d => simp [Rows.uptoBulk]
  | slice elems spare => simp [Rows.uptoBulk]
  | agg parts => simp [Rows.uptoBulk]
  | iface t d => simp [Rows.uptoBulk]
  | map entries => simp [Rows.uptoBulk]
  | held h => simp [Rows.uptoBulk]
theorem bulk_len {H : Type} (l : List (DataW H)) : l.length ≤ Rows.uptoBulkAll l := by
  induction l with
  | nil => simp [Rows.uptoBulkAll]
  | cons x r ih => have := bulk_one x; simp only [Rows.uptoBulkAll, List.length_cons]; omega

section
variable {H : Type} {enc : TypeId × Value → H} {w : World} {base : Nat} {spare : Nat → Bool} {held : Bool}

/-- A slice of classes holds no more than its bulk, and its room. -/
theorem classes_small {fuel : Nat} {ad : Option Addr} {n cap : Nat} {x : DataW H × List MemPlace} (h : DataW.trod enc Try.prog w base spare held fuel 41 [.slice ad n cap] = some x) : n ≤ cap ∧ n ≤ Rows.uptoBulk x.1 := by
  rcases open_slice Try.underlying41 h with ⟨hc, rfl⟩ | ⟨a, len, cp, m, k, D, Pl, hc, hb, hl, hm, hmm, rfl, hx⟩
  · cases hc
    exact ⟨Nat.le_refl _, Nat.zero_le _⟩
  · cases hc
    refine ⟨hl, ?_⟩
    have := bulk_len ((List.range n).map D)
    rw [List.length_map, List.length_range] at this
    simp only [Rows.uptoBulk]
    omega
/-- An argument that is a leaf. -/
theorem open_leafU {v : Value} {d : DataW H} {p : List MemPlace} {b0 : Nat} (hv : Value.okWide Try.prog w .any b0 43 v) (h : DataW.Trod enc Try.prog w base spare held 43 v d p) :
    ∃ ad n cap K L, v = lv ad n cap K ∧ RowC w ad n L w.heap.size ∧ n ≤ cap ∧ n ≤ Rows.uptoBulk d := by
  obtain ⟨cs, rfl, hsz, _⟩ : ∃ cs, v = .agg cs ∧ cs.size = Try.prog.cellsOf 43 ∧ Row.okWide Try.prog w .any b0 43 cs := by
    simpa [Value.okWide, Try.underlying43] using hv
  rw [cells43] at hsz
  obtain ⟨l⟩ := cs
  obtain ⟨c0, c1, rfl⟩ := list_two l hsz
  obtain ⟨fuel, hf⟩ := h
  obtain ⟨y0, y1, k, hx, _, h0, h1⟩ := trod_struct2 Try.underlying43 (by simpa [Value.cells] using hf)
  simp only [cells41, cells3] at h0 h1
  obtain ⟨ad, n, cap, L, hc, hR, -⟩ := open_classes h0
  obtain ⟨x1, e1, _, w1⟩ := DataW.trod_int Try.underlying3 h1
  rw [hc] at h0
  have hs := classes_small h0
  simp at hc e1
  subst hc e1
  refine ⟨ad, n, cap, x1, L, rfl, hR, hs.1, ?_⟩
  obtain rfl : d = .agg [y0.1, y1.1] := (congrArg Prod.fst hx)
  simp only [Rows.uptoBulk, Rows.uptoBulkAll]
  omega
end
end Go.Proofs.Ytkhcjjdamphbfaa
