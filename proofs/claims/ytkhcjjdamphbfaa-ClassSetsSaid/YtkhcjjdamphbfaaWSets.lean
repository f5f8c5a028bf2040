/- Walk of the law ClassSets. -/
import Derived.Test.YtkhcjjdamphbfaaAl06
namespace Go.Proofs.Ytkhcjjdamphbfaa
open Go.RowKit


theorem eq_refl' (S : Nat → Bool) : clsEq S S = true := clsEq_refl S

set_option maxHeartbeats 4000000 in
set_option maxRecDepth 100000 in
theorem classSets_walk (S T : Nat → Bool) (w : World) : Calls Try.prog 4 #[cv S, cv T] w fun e w' => e = .returned (.bool true) ∧ Below w.heap.size w w' := by
  go_enter Try.func4, Try.ntmps4
  go_wp2_with fail
  obtain ⟨Wa, hWa⟩ : ∃ Wa : World, w.alloc (.cells #[.int .u64 (wd S 0 : Nat), .int .u64 (wd S 1 : Nat), .int .u64 (wd S 2 : Nat), .int .u64 (wd S 3 : Nat)] 26) = Wa := ⟨_, rfl⟩
  have hBa : Below w.heap.size w Wa := by subst hWa; exact (Below.refl _ _).alloc (Nat.le_refl _) _
  have hsa : Wa.heap.size = w.heap.size + 1 := by subst hWa; simp
  have hS : HoldsC Wa w.heap.size S := by subst hWa; exact HoldsC.new w S
  obtain ⟨W0, hW0⟩ : ∃ W0 : World, (Wa.alloc (.cells #[.int .u64 (wd T 0 : Nat), .int .u64 (wd T 1 : Nat), .int .u64 (wd T 2 : Nat), .int .u64 (wd T 3 : Nat)] 26)) = W0 := ⟨_, rfl⟩
  have hS0 : HoldsC W0 w.heap.size S := by subst hW0; exact hS.alloc _
  have hT0 : HoldsC W0 (w.heap.size + 1) T := by subst hW0; rw [← hsa]; exact HoldsC.new Wa T
  have HB : Below w.heap.size w W0 := by subst hW0; exact hBa.trans ((Below.refl _ _).alloc (by omega) _)
  rw [hWa, hW0]
  clear hWa hW0 hsa hBa hS
  have l1 := hS0.2.2
  have l2 := hT0.2.2
  have p1 := eq_refl' (fun n => !S n)
  have p2 := eq_refl' (fun n => S n || T n)
  go_region_held3 (fun w' => Old W0 w') (first | exact Old.start _ | exact Old.calld (Old.refl _) (by assumption) | exact Old.call (by assumption) (by assumption)) (first | (go_at_call 33; refine (alive06 _).mono ?_; rintro e w' ⟨rfl, hb'⟩) | (go_at_call 40; refine (not_any _ _).mono ?_; rintro e w' ⟨rfl, hb'⟩) | (go_at_call 41; refine (rnot_any _ _).mono ?_; rintro e w' ⟨rfl, hb'⟩) | (go_at_call 42; refine (or_any _ _ _).mono ?_; rintro e w' ⟨rfl, hb'⟩) | (go_at_call 43; refine (ror_any _ _ _).mono ?_; rintro e w' ⟨rfl, hb'⟩))
  go_wp2
  go_ret
  exact ⟨rfl, HB.trans ((show Old W0 _ by assumption).2.2.2.mono HB.size)⟩
end Go.Proofs.Ytkhcjjdamphbfaa
