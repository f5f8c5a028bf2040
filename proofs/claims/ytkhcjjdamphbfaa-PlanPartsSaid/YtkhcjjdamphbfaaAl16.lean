/- Walk of beaglelaw16.alive: it returns true. -/
import Derived.Test.YtkhcjjdamphbfaaK9
namespace Go.Proofs.Ytkhcjjdamphbfaa
open Go.RowKit

def tab : ByteArray := ⟨#[97, 98]⟩
def tabaca : ByteArray := ⟨#[97, 98, 97, 99, 97]⟩
theorem text_ab16 (K : Int) (w : World) : Calls Try.prog 73 #[.string ⟨#[97, 98]⟩, .int .i64 K] w fun e w' => ∃ ad cap, e = .returned (lv ad 2 cap K) ∧ w'.ownsRow w.heap.size 26 4 (.slice ad 2 cap) 2 (clsCells (byteS tab) 2) ∧ Below w.heap.size w w' :=
  text_any tab (by decide) K w
theorem text_abaca (K : Int) (w : World) : Calls Try.prog 73 #[.string ⟨#[97, 98, 97, 99, 97]⟩, .int .i64 K] w fun e w' => ∃ ad cap, e = .returned (lv ad 5 cap K) ∧ w'.ownsRow w.heap.size 26 4 (.slice ad 5 cap) 5 (clsCells (byteS tabaca) 5) ∧ Below w.heap.size w w' :=
  text_any tabaca (by decide) K w
theorem a16_1 : (if sdB 1 100 4 0 (byteS tab) 2 then costV 1 100 4 (byteS tab) 2 else 0) = 198 ∧ sdB 1 100 4 0 (byteS tab) 2 = true := by decide +kernel
theorem a16_2 : (if sdB 2 100 4 0 (byteS tab) 2 then costV 2 100 4 (byteS tab) 2 else 0) = 408 ∧ sdB 2 100 4 0 (byteS tab) 2 = true := by decide +kernel
theorem a16_3 : (if sdB 3 100 1 0 (byteS tab) 2 then costV 3 100 1 (byteS tab) 2 else 0) = 0 ∧ sdB 3 100 1 0 (byteS tab) 2 = false := by decide +kernel
theorem a16_4 : frq (byteS tabaca) 5 = 1 ∧ rst (byteS tabaca) 5 = 2 := by decide +kernel
theorem a16_5 : bestV 100 4 0 (byteS tab) 2 = 1 := by decide +kernel
theorem a16_6 : bestV 100 4 0 (byteS tab) 0 = 0 := by decide +kernel
theorem a16_7 : admB 3 0 (byteS tab) 2 = true := by decide +kernel
theorem a16_8 : admB 2 1 (byteS tab) 2 = false := by decide +kernel
theorem a16_9 : admB 6 0 (byteS tab) 2 = false := by decide +kernel
theorem a16_10 : sdB 4 1 0 0 (byteS tab) 2 = true := by decide +kernel
theorem a16_11 : sdB 4 2 0 0 (byteS tab) 2 = false := by decide +kernel

set_option maxRecDepth 100000 in
set_option maxHeartbeats 4000000 in
theorem alive16 (w : World) : Calls Try.prog 94 #[] w fun e w' => e = .returned (.bool true) ∧ Below w.heap.size w w' := by
  have f1 := fun ad cap w' h' => cost_any 1 ad 2 cap 0 (byteS tab) (by omega) 100 4 w' h'
  have f2 := fun ad cap w' h' => cost_any 2 ad 2 cap 0 (byteS tab) (by omega) 100 4 w' h'
  have f3 := fun ad cap w' h' => cost_any 3 ad 2 cap 0 (byteS tab) (by omega) 100 1 w' h'
  have f4 := fun ad cap K w' h' => parts_any ad 5 cap K (byteS tabaca) (by omega) w' h'
  have f5 := fun ad cap w' h' => choose_any ad 2 cap 0 (byteS tab) (by omega) 100 4 w' h'
  have f6 := fun w' => choose_any none 0 0 0 (byteS tab) (by omega) 100 4 w' (.inl rfl)
  have f7 := fun ad cap w' h' => admits_any 3 ad 2 cap 0 (byteS tab) (by omega) w' h'
  have f8 := fun ad cap w' h' => admits_any 2 ad 2 cap 1 (byteS tab) (by omega) w' h'
  have f9 := fun ad cap w' h' => admits_any 6 ad 2 cap 0 (byteS tab) (by omega) w' h'
  have f10 := fun ad cap w' h' => szd_any 4 ad 2 cap 0 (byteS tab) (by omega) 1 0 w' h'
  have f11 := fun ad cap w' h' => szd_any 4 ad 2 cap 0 (byteS tab) (by omega) 2 0 w' h'
  rw [a16_1.1, a16_1.2] at f1
  rw [a16_2.1, a16_2.2] at f2
  rw [a16_3.1, a16_3.2] at f3
  rw [a16_4.1, a16_4.2] at f4
  have f4 : ∀ ad cap K w', RowC w' ad 5 (byteS tabaca) w'.heap.size → Calls Try.prog 95 #[lv ad 5 cap K] w' fun e w2 => e = .returned (.tuple #[.int .i64 1, .int .i64 2]) ∧ Below w'.heap.size w' w2 := f4
  rw [a16_5] at f5
  rw [a16_6] at f6
  rw [a16_7] at f7
  rw [a16_8] at f8
  rw [a16_9] at f9
  rw [a16_10] at f10
  rw [a16_11] at f11
  have F1 := Lib.hid f1
  have F2 := Lib.hid f2
  have F3 := Lib.hid f3
  have F4 := Lib.hid f4
  have F5 := Lib.hid f5
  have F6 := Lib.hid f6
  have F7 := Lib.hid f7
  have F8 := Lib.hid f8
  have F9 := Lib.hid f9
  have F10 := Lib.hid f10
  have F11 := Lib.hid f11
  clear f1 f2 f3 f4 f5 f6 f7 f8 f9 f10 f11
  go_enter Try.func94, Try.ntmps94
  go_wp2_with fail
  refine (text_ab16 0 _).mono ?_
  rintro e w1 ⟨ad, cap, rfl, ho1, hb1⟩
  have hl := HoldsL.new w1 ad 2 cap 0
  have HB : Below w.heap.size w (w1.alloc (.cells #[.slice ad 2 cap, .int .i64 0] 43)) := hb1.alloc hb1.size _
  have hR0 := rowC_of_own ho1
  have hA : Below w1.heap.size w1 (w1.alloc (.cells #[.slice ad 2 cap, .int .i64 0] 43)) := (Below.refl _ _).alloc (Nat.le_refl _) _
  have hR := (hR0.below hA (Nat.le_refl _)).mono hA.size
  go_wp2_with fail
  obtain ⟨B, hB⟩ : ∃ B, B = w1.heap.size := ⟨_, rfl⟩
  rw [← hB] at hl ⊢
  generalize (w1.alloc (.cells #[.slice ad 2 cap, .int .i64 0] 43)) = W1 at hl HB hR ⊢
  clear hA hB hR0 ho1 hb1
  obtain ⟨c0, c1, cl⟩ := id hl
  refine (F1.out _ _ _ hR).mono ?_
  rintro e w2 ⟨rfl, hb2⟩
  replace HB := HB.trans (hb2.mono HB.size)
  replace hR := (hR.below hb2 (Nat.le_refl _)).mono hb2.size
  replace hl := hl.below hb2 hl.2.2
  clear hb2 c0 c1 cl
  obtain ⟨c0, c1, cl⟩ := id hl
  go_wp2_with fail
  refine (F2.out _ _ _ hR).mono ?_
  rintro e w3 ⟨rfl, hb3⟩
  replace HB := HB.trans (hb3.mono HB.size)
  replace hR := (hR.below hb3 (Nat.le_refl _)).mono hb3.size
  replace hl := hl.below hb3 hl.2.2
  clear hb3 c0 c1 cl
  obtain ⟨c0, c1, cl⟩ := id hl
  go_wp2_with fail
  refine (F3.out _ _ _ hR).mono ?_
  rintro e w4 ⟨rfl, hb4⟩
  replace HB := HB.trans (hb4.mono HB.size)
  replace hR := (hR.below hb4 (Nat.le_refl _)).mono hb4.size
  replace hl := hl.below hb4 hl.2.2
  clear hb4 c0 c1 cl
  obtain ⟨c0, c1, cl⟩ := id hl
  go_wp2_with fail
  refine (text_abaca 0 _).mono ?_
  rintro e w5 ⟨ad5, cap5, rfl, ho5, hb5⟩
  have hR5 := rowC_of_own ho5
  replace HB := HB.trans (hb5.mono HB.size)
  replace hR := (hR.below hb5 (Nat.le_refl _)).mono hb5.size
  replace hl := hl.below hb5 hl.2.2
  clear hb5 c0 c1 cl
  obtain ⟨c0, c1, cl⟩ := id hl
  go_wp2_with fail
  refine (F4.out _ _ _ _ hR5).mono ?_
  rintro e w6 ⟨rfl, hb6⟩
  replace HB := HB.trans (hb6.mono HB.size)
  replace hR := (hR.below hb6 (Nat.le_refl _)).mono hb6.size
  replace hl := hl.below hb6 hl.2.2
  clear hb6 c0 c1 cl
  obtain ⟨c0, c1, cl⟩ := id hl
  clear hR5 ho5
  go_wp2_with fail
  refine (F5.out _ _ _ hR).mono ?_
  rintro e w7 ⟨rfl, hb7⟩
  replace HB := HB.trans (hb7.mono HB.size)
  replace hR := (hR.below hb7 (Nat.le_refl _)).mono hb7.size
  replace hl := hl.below hb7 hl.2.2
  clear hb7 c0 c1 cl
  obtain ⟨c0, c1, cl⟩ := id hl
  go_wp2_with fail
  refine (F6.out _).mono ?_
  rintro e w8 ⟨rfl, hb8⟩
  replace HB := HB.trans (hb8.mono HB.size)
  replace hR := (hR.below hb8 (Nat.le_refl _)).mono hb8.size
  replace hl := hl.below hb8 hl.2.2
  clear hb8 c0 c1 cl
  obtain ⟨c0, c1, cl⟩ := id hl
  go_wp2_with fail
  refine (F7.out _ _ _ hR).mono ?_
  rintro e w9 ⟨rfl, hb9⟩
  replace HB := HB.trans (hb9.mono HB.size)
  replace hR := (hR.below hb9 (Nat.le_refl _)).mono hb9.size
  replace hl := hl.below hb9 hl.2.2
  clear hb9 c0 c1 cl
  obtain ⟨c0, c1, cl⟩ := id hl
  go_wp2_with fail
  refine (text_ab16 1 _).mono ?_
  rintro e w10 ⟨ad10, cap10, rfl, ho10, hb10⟩
  have hR10 := rowC_of_own ho10
  replace HB := HB.trans (hb10.mono HB.size)
  replace hR := (hR.below hb10 (Nat.le_refl _)).mono hb10.size
  replace hl := hl.below hb10 hl.2.2
  clear hb10 c0 c1 cl
  obtain ⟨c0, c1, cl⟩ := id hl
  go_wp2_with fail
  refine (F8.out _ _ _ hR10).mono ?_
  rintro e w11 ⟨rfl, hb11⟩
  replace HB := HB.trans (hb11.mono HB.size)
  replace hR := (hR.below hb11 (Nat.le_refl _)).mono hb11.size
  replace hl := hl.below hb11 hl.2.2
  clear hb11 c0 c1 cl
  obtain ⟨c0, c1, cl⟩ := id hl
  clear hR10 ho10
  go_wp2_with fail
  refine (F9.out _ _ _ hR).mono ?_
  rintro e w12 ⟨rfl, hb12⟩
  replace HB := HB.trans (hb12.mono HB.size)
  replace hR := (hR.below hb12 (Nat.le_refl _)).mono hb12.size
  replace hl := hl.below hb12 hl.2.2
  clear hb12 c0 c1 cl
  obtain ⟨c0, c1, cl⟩ := id hl
  go_wp2_with fail
  refine (F10.out _ _ _ hR).mono ?_
  rintro e w13 ⟨rfl, hb13⟩
  replace HB := HB.trans (hb13.mono HB.size)
  replace hR := (hR.below hb13 (Nat.le_refl _)).mono hb13.size
  replace hl := hl.below hb13 hl.2.2
  clear hb13 c0 c1 cl
  obtain ⟨c0, c1, cl⟩ := id hl
  go_wp2_with fail
  refine (F11.out _ _ _ hR).mono ?_
  rintro e w14 ⟨rfl, hb14⟩
  replace HB := HB.trans (hb14.mono HB.size)
  replace hR := (hR.below hb14 (Nat.le_refl _)).mono hb14.size
  replace hl := hl.below hb14 hl.2.2
  clear hb14 c0 c1 cl
  obtain ⟨c0, c1, cl⟩ := id hl
  go_wp2_with fail
  go_ret
  exact ⟨rfl, HB⟩
end Go.Proofs.Ytkhcjjdamphbfaa
