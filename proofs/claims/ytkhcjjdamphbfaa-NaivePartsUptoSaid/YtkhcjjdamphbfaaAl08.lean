/- Walk of beaglelaw08.alive: it returns true. -/
import Derived.Test.YtkhcjjdamphbfaaN7
import Derived.Test.YtkhcjjdamphbfaaL1
namespace Go.Proofs.Ytkhcjjdamphbfaa
open Go.RowKit

def t_ab : ByteArray := ⟨#[97, 98]⟩
def t_b : ByteArray := ⟨#[98]⟩
def t_abbb : ByteArray := ⟨#[97, 98, 98, 98]⟩
def t_abab : ByteArray := ⟨#[97, 98, 97, 98]⟩
theorem text_ab (K : Int) (w : World) : Calls Try.prog 73 #[.string ⟨#[97, 98]⟩, .int .i64 K] w fun e w' => ∃ ad cap, e = .returned (lv ad 2 cap K) ∧ w'.ownsRow w.heap.size 26 4 (.slice ad 2 cap) 2 (clsCells (byteS t_ab) 2) ∧ Below w.heap.size w w' := text_any t_ab (by decide) K w
theorem text_b (K : Int) (w : World) : Calls Try.prog 73 #[.string ⟨#[98]⟩, .int .i64 K] w fun e w' => ∃ ad cap, e = .returned (lv ad 1 cap K) ∧ w'.ownsRow w.heap.size 26 4 (.slice ad 1 cap) 1 (clsCells (byteS t_b) 1) ∧ Below w.heap.size w w' := text_any t_b (by decide) K w
theorem a8_ok2 : okAt t_abbb 2 (byteS t_ab) 1 2 = true := by decide +kernel
theorem a8_mis2 : mis t_abbb (byteS t_ab) (2 : Int).toNat 2 = 1 := by decide +kernel
theorem a8_ok3 : okAt t_abbb 2 (byteS t_ab) 1 3 = false := by decide +kernel
theorem a8_f2 : firstF t_abab 1 (byteS t_b) 0 2 = some 3 := by decide +kernel
theorem a8_f4 : firstF t_abab 1 (byteS t_b) 0 4 = none := by decide +kernel
theorem a8_many : many t_abbb 2 (byteS t_ab) 1 0 = 3 := by decide +kernel
theorem a8_counts : ((plc 0 3).map fun i => ((mis t_abbb (byteS t_ab) i 2 : Nat) : Int)) = [0, 1, 1] := by decide +kernel
theorem a8_find : fnd t_abbb 2 (byteS t_ab) 1 (plc 0 3) = [0, 1, 2] := by decide +kernel
theorem a8_hits : hitsTo (gi [2, 0, 1]) 1 3 = [1, 2] := by decide +kernel
theorem a8_many0 : many t_ab 0 (byteS t_ab) 0 0 = 0 := by decide +kernel
theorem rowI_new (w : World) (l : List Int) : RowI (w.alloc (.cells (ints l).toArray 3)) (some ⟨w.heap.size, 0, none⟩) l.length (gi l) (w.alloc (.cells (ints l).toArray 3)).heap.size :=
  .inr ⟨w.heap.size, 0, rfl, by simp, fun j hj => by
    rw [Nat.zero_add, World.cell?_alloc_new]
    simpa using gi_eq l j hj⟩

theorem places_new (l m : List Int) (hl : l.length ≤ 100000) (hm : m.length ≤ 100000) {ad : Option Addr} {cap base : Nat} (w : World) (h : w.ownsRow base 3 1 (.slice ad l.length cap) l.length (ints l)) :
    Calls Try.prog 56 #[.slice ad l.length cap, .slice (some ⟨w.heap.size, 0, none⟩) m.length m.length] (w.alloc (.cells (ints m).toArray 3)) fun e w' => e = .returned (.bool (decide (l = m))) ∧ Below w.heap.size w w' := by
  have hA : Below w.heap.size w (w.alloc (.cells (ints m).toArray 3)) := (Below.refl _ _).alloc (Nat.le_refl _) _
  have hp := places_any ad l.length cap (gi l) (some ⟨w.heap.size, 0, none⟩) m.length m.length (gi m) (by omega) (by omega) (w.alloc (.cells (ints m).toArray 3)) (((rowI_of_ints h).below hA (Nat.le_refl _)).mono hA.size) (rowI_new w m)
  rw [agI_lists] at hp
  exact hp.mono fun e w' ⟨he, hb⟩ => ⟨he, hA.trans (hb.mono hA.size)⟩

set_option maxRecDepth 100000 in
set_option maxHeartbeats 4000000 in
theorem alive08 (w : World) : Calls Try.prog 53 #[] w fun e w' => e = .returned (.bool true) ∧ Below w.heap.size w w' := by
  go_enter Try.func53, Try.ntmps53
  go_wp2_with fail
  refine (text_ab 1 _).mono ?_
  rintro e w1 ⟨ad, cap, rfl, ho1, hb1⟩
  have hl := HoldsL.new w1 ad 2 cap 1
  have hA : Below w1.heap.size w1 (w1.alloc (.cells #[.slice ad 2 cap, .int .i64 1] 43)) := (Below.refl _ _).alloc (Nat.le_refl _) _
  have hR := ((rowC_of_own ho1).below hA (Nat.le_refl _)).mono hA.size
  have HB := hb1.trans (hA.mono hb1.size)
  clear ho1 hb1 hA
  go_wp2_with fail
  refine (at_any ad 2 cap 1 (byteS t_ab) (by omega) t_abbb (by decide) 2 _ hR).mono ?_
  rw [a8_ok2, if_pos rfl, a8_mis2]
  rintro e w2 ⟨rfl, hb2⟩
  replace HB := HB.trans (hb2.mono HB.size)
  replace hR := (hR.below hb2 (Nat.le_refl _)).mono hb2.size
  replace hl := hl.below hb2 hl.2.2
  clear hb2
  obtain ⟨c0, c1, cl⟩ := id hl
  go_wp2_with fail
  refine (at_any ad 2 cap 1 (byteS t_ab) (by omega) t_abbb (by decide) 3 _ hR).mono ?_
  rw [a8_ok3, if_neg (by decide)]
  rintro e w3 ⟨rfl, hb2⟩
  replace HB := HB.trans (hb2.mono HB.size)
  replace hR := (hR.below hb2 (Nat.le_refl _)).mono hb2.size
  replace hl := hl.below hb2 hl.2.2
  clear hb2 c0 c1 cl
  go_wp2_with fail
  refine (text_b 0 _).mono ?_
  rintro e w4 ⟨ad4, cap4, rfl, ho4, hb2⟩
  replace HB := HB.trans (hb2.mono HB.size)
  replace hR := (hR.below hb2 (Nat.le_refl _)).mono hb2.size
  replace hl := hl.below hb2 hl.2.2
  clear hb2
  go_wp2_with fail
  refine (first_any ad4 1 cap4 0 (byteS t_b) (by omega) t_abab (by decide) 2 2 rfl _ (rowC_of_own ho4)).mono ?_
  rw [a8_f2]
  rintro e w5 ⟨rfl, hb2⟩
  replace HB := HB.trans (hb2.mono HB.size)
  replace hR := (hR.below hb2 (Nat.le_refl _)).mono hb2.size
  replace hl := hl.below hb2 hl.2.2
  clear hb2 ho4
  go_wp2_with fail
  refine (text_b 0 _).mono ?_
  rintro e w6 ⟨ad6, cap6, rfl, ho4, hb2⟩
  replace HB := HB.trans (hb2.mono HB.size)
  replace hR := (hR.below hb2 (Nat.le_refl _)).mono hb2.size
  replace hl := hl.below hb2 hl.2.2
  clear hb2
  go_wp2_with fail
  refine (first_any ad6 1 cap6 0 (byteS t_b) (by omega) t_abab (by decide) 4 4 rfl _ (rowC_of_own ho4)).mono ?_
  rw [a8_f4]
  rintro e w7 ⟨rfl, hb2⟩
  replace HB := HB.trans (hb2.mono HB.size)
  replace hR := (hR.below hb2 (Nat.le_refl _)).mono hb2.size
  replace hl := hl.below hb2 hl.2.2
  clear hb2 ho4
  obtain ⟨c0, c1, cl⟩ := id hl
  go_wp2_with fail
  refine (counts_any ad 2 cap 1 (byteS t_ab) (by omega) t_abbb (by decide) _ hR).mono ?_
  rw [a8_many, a8_counts]
  rintro e w8 ⟨v8, rfl, ho8, hb2⟩
  obtain ⟨ad8, cap8, rfl⟩ := own_slice ho8
  replace HB := HB.trans (hb2.mono HB.size)
  replace hR := (hR.below hb2 (Nat.le_refl _)).mono hb2.size
  replace hl := hl.below hb2 hl.2.2
  clear hb2 c0 c1 cl
  go_wp2_with fail
  refine (places_new [0, 1, 1] [0, 1, 1] (by decide) (by decide) w8 ho8).mono ?_
  rw [decide_eq_true rfl]
  rintro e w9 ⟨rfl, hb2⟩
  replace HB := HB.trans (hb2.mono HB.size)
  replace hR := (hR.below hb2 (Nat.le_refl _)).mono hb2.size
  replace hl := hl.below hb2 hl.2.2
  clear hb2
  clear ho8
  obtain ⟨c0, c1, cl⟩ := id hl
  go_wp2_with fail
  refine (find_any ad 2 cap 1 (byteS t_ab) (by omega) t_abbb (by decide) _ hR).mono ?_
  rw [a8_many, a8_find]
  rintro e w10 ⟨v10, rfl, ho10, hb2⟩
  obtain ⟨ad10, cap10, rfl⟩ := own_slice ho10
  replace HB := HB.trans (hb2.mono HB.size)
  replace hR := (hR.below hb2 (Nat.le_refl _)).mono hb2.size
  replace hl := hl.below hb2 hl.2.2
  clear hb2
  clear c0 c1 cl
  go_wp2_with fail
  refine (places_new [0, 1, 2] [0, 1, 2] (by decide) (by decide) w10 ho10).mono ?_
  rw [decide_eq_true rfl]
  rintro e w11 ⟨rfl, hb2⟩
  replace HB := HB.trans (hb2.mono HB.size)
  replace hR := (hR.below hb2 (Nat.le_refl _)).mono hb2.size
  replace hl := hl.below hb2 hl.2.2
  clear hb2
  clear ho10
  have hA11 : Below w11.heap.size w11 (w11.alloc (.cells #[.int .i64 2, .int .i64 0, .int .i64 1] 3)) := (Below.refl _ _).alloc (Nat.le_refl _) _
  go_wp2_with fail
  refine (hits_any (some ⟨w11.heap.size, 0, none⟩) 3 3 (gi [2, 0, 1]) 1 (by omega) _ (rowI_new w11 [2, 0, 1])).mono ?_
  rw [a8_hits]
  rintro e w12 ⟨v12, rfl, ho12, hb12⟩
  obtain ⟨ad12, cap12, rfl⟩ := own_slice ho12
  have hb2 := hA11.trans (hb12.mono hA11.size)
  replace HB := HB.trans (hb2.mono HB.size)
  replace hR := (hR.below hb2 (Nat.le_refl _)).mono hb2.size
  replace hl := hl.below hb2 hl.2.2
  clear hb2
  clear hb12 hA11
  go_wp2_with fail
  refine (places_new [1, 2] [1, 2] (by decide) (by decide) w12 ho12).mono ?_
  rw [decide_eq_true rfl]
  rintro e w13 ⟨rfl, hb2⟩
  replace HB := HB.trans (hb2.mono HB.size)
  replace hR := (hR.below hb2 (Nat.le_refl _)).mono hb2.size
  replace hl := hl.below hb2 hl.2.2
  clear hb2
  clear ho12
  go_wp2_with fail
  refine (counts_any none 0 0 0 (byteS t_ab) (by omega) t_ab (by decide) _ (.inl rfl)).mono ?_
  rw [a8_many0]
  rintro e w14 ⟨v14, rfl, ho14, hb2⟩
  obtain ⟨ad14, cap14, rfl⟩ := own_slice ho14
  replace HB := HB.trans (hb2.mono HB.size)
  clear hb2
  go_wp2
  go_ret
  exact ⟨rfl, HB⟩
end Go.Proofs.Ytkhcjjdamphbfaa
