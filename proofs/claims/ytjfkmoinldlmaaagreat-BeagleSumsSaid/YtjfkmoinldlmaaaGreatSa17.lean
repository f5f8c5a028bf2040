/- Walks of zed.Leaf and of beagleref09.Leaf. -/
import Derived.Test.YtjfkmoinldlmaaaGreatSa13
import Derived.Test.YtjfkmoinldlmaaaGreatSa15
namespace Go.Proofs.YtjfkmoinldlmaaaGreat
open Go.RowKit Go.Shelf

/-- Does the package take this leaf? -/
def zok (L : Nat → Nat → Bool) (n : Nat) (K : Int) : Bool := lettersB L n && (rightB n L K && decide (K = 0))
/-- The places of such a leaf. -/
def zl (L : Nat → Nat → Bool) (n : Nat) (K : Int) (t : ByteArray) : List Int := if zok L n K then zf (txt L n) t else []
theorem txt_le (L : Nat → Nat → Bool) (n : Nat) : (txt L n).size ≤ n := by
  cases h : lettersB L n
  · unfold txt; rw [h]; exact Nat.zero_le _
  · exact Nat.le_of_eq (txt_size L n h)

set_option maxRecDepth 100000 in
set_option maxHeartbeats 4000000 in
theorem zleaf_any (ad : Option Addr) (n cap : Nat) (K : Int) (L : Nat → Nat → Bool) (hn : (n : Int) ≤ 1000) (t : ByteArray) (ht : t.size ≤ 1000) (w : World) (hR : RowC w ad n L w.heap.size) :
    Calls Tryz.prog 83 #[lv ad n cap K, .string t] w fun e w' => ∃ v, e = .returned (.tuple #[v, .bool (zok L n K)]) ∧ w'.ownsRow w.heap.size 3 1 v (zl L n K t).length (ints (zl L n K t)) ∧ Below w.heap.size w w' := by
  have hl := HoldsL.new w ad n cap K
  have HB : Below w.heap.size w (w.alloc (.cells #[.slice ad n cap, .int .i64 K] 52)) := (Below.refl _ _).alloc (Nat.le_refl _) _
  have hR0 := (hR.below HB (Nat.le_refl _)).mono HB.size
  generalize hzo : zok L n K = zo
  generalize hzz : zl L n K t = zz
  go_enter Tryz.func83, Tryz.ntmps83
  go_wp2_with fail
  refine (letters_any ad n cap K L (by omega) _ hR0).mono ?_
  rintro e w1 ⟨rfl, hb1⟩
  have hl1 := hl.below hb1 hl.2.2
  have hR1 := (hR0.below hb1 (Nat.le_refl _)).mono hb1.size
  have HB1 := HB.trans (hb1.mono HB.size)
  clear hl HB hR0 hb1 hR
  obtain ⟨c0, c1, cl⟩ := hl1
  have htx := txt_le L n
  cases hlet : lettersB L n
  · obtain rfl : zo = false := by rw [← hzo]; unfold zok; rw [hlet]; rfl
    obtain rfl : zz = [] := by rw [← hzz]; unfold zl; rw [hzo]; rfl
    generalize txt L n = tx
    clear hzo hzz hlet
    go_wp2_with fail
    try rw [Exit.noGoto_ret]
    go_ret2
    exact ⟨_, rfl, World.ownsRow_nil _ _ _ _, HB1⟩
  · cases hri : rightB n L K
    · obtain rfl : zo = false := by rw [← hzo]; unfold zok; rw [hri, hlet]; rfl
      obtain rfl : zz = [] := by rw [← hzz]; unfold zl; rw [hzo]; rfl
      have HRI := Lib.hid hri
      generalize txt L n = tx at htx
      clear hzo hzz hlet hri
      go_wp2_with (go_at_call 134; refine (right_any ad n cap K L (by omega) _ hR1).mono ?_; rw [HRI.out]; rintro e w2 ⟨rfl, hb2⟩; have c1 : w2.cell? ⟨w.heap.size, 1, none⟩ = some (.int .i64 K) := (hb2.cell (p := ⟨w.heap.size, 1, none⟩) cl).trans c1)
      try rw [Exit.noGoto_ret]
      go_ret2
      exact ⟨_, rfl, World.ownsRow_nil _ _ _ _, HB1.trans (hb2.mono HB1.size)⟩
    · by_cases hk : K = 0
      · obtain rfl : zo = true := by rw [← hzo]; unfold zok; rw [hri, hlet, decide_eq_true hk]; rfl
        obtain rfl : zz = zf (txt L n) t := by rw [← hzz]; unfold zl; rw [hzo]; rfl
        have HRI := Lib.hid hri
        generalize hte : txt L n = tx at htx
        have HTX := Lib.hid hte
        clear hzo hzz hlet hri hte
        subst hk
        go_wp2_with (first | (go_at_call 134; refine (right_any ad n cap 0 L (by omega) _ hR1).mono ?_; rw [HRI.out]; rintro e w2 ⟨rfl, hb2⟩; have c1 : w2.cell? ⟨w.heap.size, 1, none⟩ = some (.int .i64 0) := (hb2.cell (p := ⟨w.heap.size, 1, none⟩) cl).trans c1) | (go_at_call 140; refine (zfind_any tx t (by omega) (by omega) _).mono ?_; rintro e w3 ⟨v3, rfl, ho3, hb3⟩))
        go_ret2
        rw [HTX.out]
        exact ⟨_, rfl, own_le ho3 (Nat.le_trans HB1.size hb2.size), (HB1.trans (hb2.mono HB1.size)).trans (hb3.mono (Nat.le_trans HB1.size hb2.size))⟩
      · obtain rfl : zo = false := by rw [← hzo]; unfold zok; rw [hri, hlet, decide_eq_false hk]; rfl
        obtain rfl : zz = [] := by rw [← hzz]; unfold zl; rw [hzo]; rfl
        have HRI := Lib.hid hri
        generalize txt L n = tx at htx
        clear hzo hzz hlet hri
        go_wp2_with (go_at_call 134; refine (right_any ad n cap K L (by omega) _ hR1).mono ?_; rw [HRI.out]; rintro e w2 ⟨rfl, hb2⟩; have c1 : w2.cell? ⟨w.heap.size, 1, none⟩ = some (.int .i64 K) := (hb2.cell (p := ⟨w.heap.size, 1, none⟩) cl).trans c1)
        try rw [Exit.noGoto_ret]
        go_ret2
        exact ⟨_, rfl, World.ownsRow_nil _ _ _ _, HB1.trans (hb2.mono HB1.size)⟩

end Go.Proofs.YtjfkmoinldlmaaaGreat
