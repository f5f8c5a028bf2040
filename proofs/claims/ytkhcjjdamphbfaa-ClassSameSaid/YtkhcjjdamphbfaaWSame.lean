/- Walk of the law ClassSame. -/
import Derived.Test.YtkhcjjdamphbfaaAl06
import Derived.WalkSmall
namespace Go.Proofs.Ytkhcjjdamphbfaa
open Go.RowKit

/-- Do two sets agree below k? -/
def ag (S T : Nat → Bool) : Nat → Bool
  | 0 => true
  | k + 1 => ag S T k && (S k == T k)
theorem ag_iff (S T : Nat → Bool) (k : Nat) : ag S T k = true ↔ ∀ n, n < k → S n = T n := by
  induction k with
  | zero => simp [ag]
  | succ k ih =>
    simp only [ag, Bool.and_eq_true, beq_iff_eq, ih]
    constructor
    · rintro ⟨h1, h2⟩ n hn
      by_cases he : n = k
      · subst he; exact h2
      · exact h1 n (by omega)
    · intro h
      exact ⟨fun n hn => h n (by omega), h k (by omega)⟩
theorem ag_eq (S T : Nat → Bool) : ag S T 256 = clsEq S T := by rw [Bool.eq_iff_iff, ag_iff, clsEq_iff]

set_option maxHeartbeats 4000000 in
set_option maxRecDepth 100000 in
theorem classSame_walk (S T : Nat → Bool) (w : World) : Calls Try.prog 7 #[cv S, cv T] w fun e w' => e = .returned (.bool true) ∧ Below w.heap.size w w' := by
  go_enter Try.func7, Try.ntmps7
  go_wp2_with fail
  obtain ⟨Wa, hWa⟩ : ∃ Wa : World, w.alloc (.cells #[.int .u64 (wd S 0 : Nat), .int .u64 (wd S 1 : Nat), .int .u64 (wd S 2 : Nat), .int .u64 (wd S 3 : Nat)] 26) = Wa := ⟨_, rfl⟩
  have hBa : Below w.heap.size w Wa := by subst hWa; exact (Below.refl _ _).alloc (Nat.le_refl _) _
  have hsa : Wa.heap.size = w.heap.size + 1 := by subst hWa; simp
  have hS : HoldsC Wa w.heap.size S := by subst hWa; exact HoldsC.new w S
  obtain ⟨W0, hW0⟩ : ∃ W0 : World, (Wa.alloc (.cells #[.int .u64 (wd T 0 : Nat), .int .u64 (wd T 1 : Nat), .int .u64 (wd T 2 : Nat), .int .u64 (wd T 3 : Nat)] 26)) = W0 := ⟨_, rfl⟩
  have hS0 : HoldsC W0 w.heap.size S := by subst hW0; exact hS.alloc _
  have hT0 : HoldsC W0 (w.heap.size + 1) T := by subst hW0; rw [← hsa]; exact HoldsC.new Wa T
  have HB : Below w.heap.size w W0 := by subst hW0; exact hBa.trans ((Below.refl _ _).alloc (by omega) _)
  rw [hWa, hW0]
  clear hWa hW0 hsa hBa hS
  go_loopw [5, 7] (fun s i wr => ∃ k : Nat, k ≤ 256 ∧ i = .int .i64 k ∧ s = .bool (ag S T k) ∧ Old W0 wr) (fun _ i _ => 256 - (intOf i).toNat)
  case atStart => exact ⟨0, by omega, rfl, rfl, Old.refl _⟩
  case round =>
    obtain ⟨k, hk, rfl, rfl, hO⟩ := hrel
    have hS1 := hS0.below hO.2.2.2 hS0.2.2
    have hT1 := hT0.below hO.2.2.2 hT0.2.2
    have HB1 := HB.trans (hO.2.2.2.mono HB.size)
    have l1 := hS1.2.2
    have l2 := hT1.2.2
    have HO := Lib.hid hO
    clear hO
    by_cases hlt : k < 256
    · have hw8 : IntKind.u8.wrap (k : Int) = k := IntWalk.u8_in _ (by omega)
      have hn : ag S T (k + 1) = (ag S T k && (S k == T k)) := rfl
      cases hag : ag S T k
      · rw [hag, Bool.false_and] at hn
        go_wp2_with fail
        first
          | (go_quiet (fail))
          | fail
        all_goals go_wp2
        all_goals refine ⟨⟨k + 1, by omega, by go_num, by rw [hn], Old.trans HO.out (Old.of (below_drewN (Below.refl _ _) _))⟩, by simp [intOf]; omega⟩
      · rw [hag, Bool.true_and] at hn
        go_wp2_with fail
        go_region_held3 (fun w' => Old wr w') (first | with_reducible exact Old.start _ | with_reducible exact Old.calld (Old.refl _) (by assumption) | with_reducible exact Old.call (by assumption) (by assumption)) (first | (go_at_call 46; refine (has_any _ _ (by omega) (by omega) _).mono ?_; rintro e w' ⟨rfl, hb'⟩))
        go_wp2
        refine ⟨⟨k + 1, by omega, by go_num, by rw [hn], Old.trans HO.out (by assumption)⟩, by simp [intOf]; omega⟩
    · obtain rfl : k = 256 := by omega
      rw [ag_eq]
      go_wp2_with (go_at_call 33; refine (alive06 _).mono ?_; rintro e w1 ⟨rfl, hb1⟩; have hS2 := hS1.below hb1 hS1.2.2; have hT2 := hT1.below hb1 hT1.2.2)
      go_ret
      exact ⟨rfl, HB1.trans (hb1.mono HB1.size)⟩
end Go.Proofs.Ytkhcjjdamphbfaa
