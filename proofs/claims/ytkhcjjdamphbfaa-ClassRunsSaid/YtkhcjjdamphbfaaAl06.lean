/- Walk of beaglelaw06.alive: it returns true. -/
import Derived.Test.YtkhcjjdamphbfaaR5
namespace Go.Proofs.Ytkhcjjdamphbfaa
open Go.RowKit

def sABCX : ByteArray := ⟨#[97, 98, 99, 120]⟩
def sX : ByteArray := ⟨#[120]⟩
/-- a, b, c, x. -/
def aS : Nat → Bool := strSet sABCX 4
/-- x alone. -/
def xS : Nat → Bool := strSet sX 1

theorem aS_98 : aS 98 = true := by decide
theorem aS_100 : aS 100 = false := by decide
theorem cnt_aS : cnt aS = 4 := by decide +kernel
theorem cnt_full : cnt (fun _ => true) = 256 := by decide +kernel
theorem one_xS : one xS = true := by decide +kernel
theorem sgl_xS : sgl xS = 120 := by decide +kernel
theorem one_aS : one aS = false := by decide +kernel
theorem runs_aS : runs aS = [(97, 99), (120, 120)] := by decide +kernel
theorem eq_or : clsEq (fun n => rangeS 97 99 n || xS n) aS = true := by decide +kernel
theorem eq_not : clsEq aS aS = true := clsEq_refl aS
theorem eq_none : clsEq (rangeS 98 97) noByte = true := by decide +kernel

theorem of_abcx (w : World) : Calls Try.prog 34 #[.string ⟨#[97, 98, 99, 120]⟩] w fun e w' => e = .returned (cv aS) ∧ Below w.heap.size w w' := of_any sABCX (by decide) w
theorem of_x (w : World) : Calls Try.prog 34 #[.string ⟨#[120]⟩] w fun e w' => e = .returned (cv xS) ∧ Below w.heap.size w w' := of_any sX (by decide) w

set_option maxHeartbeats 4000000 in
set_option maxRecDepth 100000 in
theorem alive06 (w : World) : Calls Try.prog 33 #[] w fun e w' => e = .returned (.bool true) ∧ Below w.heap.size w w' := by
  go_enter Try.func33, Try.ntmps33
  go_wp2_with fail
  refine (of_abcx _).mono ?_
  rintro e w1 ⟨rfl, hb1⟩
  go_wp2_with fail
  refine (of_x _).mono ?_
  rintro e w2 ⟨rfl, hb2⟩
  have hcl := (HoldsC.new w1 aS).below hb2 (by simp)
  have hbw : Below w.heap.size w w2 := hb1.trans (((Below.refl _ w1).alloc (Nat.le_refl _) _).trans (hb2.mono (by simp)) |>.mono hb1.size)
  obtain ⟨B, hB⟩ : ∃ B, B = w1.heap.size := ⟨_, rfl⟩
  rw [← hB] at hcl ⊢
  clear hB hb1 hb2
  have o1 := one_xS
  have o2 := sgl_xS
  have o3 := one_aS
  go_wp2_with fail
  refine (single_any xS _).mono ?_
  rintro e w3 ⟨rfl, hb⟩
  replace hcl := hcl.below hb hcl.2.2
  replace hbw := hbw.trans (hb.mono hbw.size)
  clear hb
  go_wp2_with fail
  refine (single_any aS _).mono ?_
  rintro e w4 ⟨rfl, hb⟩
  replace hcl := hcl.below hb hcl.2.2
  replace hbw := hbw.trans (hb.mono hbw.size)
  clear hb
  go_wp2_with fail
  refine (runs_any aS _).mono ?_
  rintro e w5 ⟨v, rfl, ho, hb⟩
  replace hcl := hcl.below hb hcl.2.2
  replace hbw := hbw.trans (hb.mono hbw.size)
  clear hb
  rw [runs_aS] at ho
  obtain ⟨g, cap, rfl, hg, hgl⟩ := own_form ho (by decide)
  have hr : w5.cell? ⟨g, 0, none⟩ = some (.int .u8 97) ∧ w5.cell? ⟨g, 1, none⟩ = some (.int .u8 99) ∧ w5.cell? ⟨g, 2, none⟩ = some (.int .u8 120) ∧ w5.cell? ⟨g, 3, none⟩ = some (.int .u8 120) :=
    ⟨ho.cellAt 0 (by decide), ho.cellAt 1 (by decide), ho.cellAt 2 (by decide), ho.cellAt 3 (by decide)⟩
  clear ho
  have p1 := aS_98
  have p2 := aS_100
  have p3 := cnt_aS
  have p4 := cnt_full
  have p5 := eq_or
  have p6 := eq_not
  have p7 := eq_none
  have hBl : B < w5.heap.size := hcl.2.2
  go_wp2_with fail
  dsimp only [List.append]
  go_region_held3 (fun w' => Old w5 w') (first | exact Old.start _ | exact Old.calld (Old.refl _) (by assumption) | exact Old.call (by assumption) (by assumption)) (first | (go_at_call 46; refine (has_any _ _ (by omega) (by omega) _).mono ?_; rintro e w' ⟨rfl, hb'⟩) | (go_at_call 48; refine (size_any _ _).mono ?_; rintro e w' ⟨rfl, hb'⟩) | (go_at_call 38; refine (full_any _).mono ?_; rintro e w' ⟨rfl, hb'⟩) | (go_at_call 36; refine (range_any _ _ (by omega) (by omega) (by omega) (by omega) _).mono ?_; rintro e w' ⟨rfl, hb'⟩) | (go_at_call 34; refine (of_x _).mono ?_; rintro e w' ⟨rfl, hb'⟩) | (go_at_call 42; refine (or_any _ _ _).mono ?_; rintro e w' ⟨rfl, hb'⟩) | (go_at_call 40; refine (not_any _ _).mono ?_; rintro e w' ⟨rfl, hb'⟩))
  go_wp2
  go_ret
  exact ⟨rfl, hbw.trans ((show Old w5 _ by assumption).2.2.2.mono hbw.size)⟩
end Go.Proofs.Ytkhcjjdamphbfaa
