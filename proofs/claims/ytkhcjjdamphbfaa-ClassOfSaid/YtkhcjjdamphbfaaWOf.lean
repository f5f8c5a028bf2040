/- Walk of the law ClassOf. -/
import Derived.Test.YtkhcjjdamphbfaaAl06
namespace Go.Proofs.Ytkhcjjdamphbfaa
open Go.RowKit

set_option maxHeartbeats 4000000 in
set_option maxRecDepth 100000 in
theorem classOf_walk (s : ByteArray) (hs : s.size ≤ 140737488351232) (a b : Int) (la : 0 ≤ a) (ua : a ≤ 255) (lb : 0 ≤ b) (ub : b ≤ 255) (w : World) :
    Calls Try.prog 3 #[.string s, .agg #[.int .u8 a, .int .u8 b]] w fun e w' => e = .returned (.bool true) ∧ Below w.heap.size w w' := by
  have hrefl : ∀ S, clsEq S S = true := clsEq_refl
  have hB : Below w.heap.size w (w.alloc (.cells #[.int .u8 a, .int .u8 b] 22)) := (Below.refl _ _).alloc (Nat.le_refl _) _
  by_cases hbig : 1000 < s.size
  · go_enter Try.func3, Try.ntmps3
    go_wp2_with (go_at_call 33; refine (alive06 _).mono ?_; rintro e w1 ⟨rfl, hb1⟩)
    go_ret
    exact ⟨rfl, hB.trans (hb1.mono hB.size)⟩
  · have hsm : ((s.size : Nat) : Int) ≤ 1000 := by omega
    go_enter Try.func3, Try.ntmps3
    go_wp2_with fail
    obtain ⟨W0, hW0⟩ : ∃ W0 : World, w.alloc (.cells #[.int .u8 a, .int .u8 b] 22) = W0 := ⟨_, rfl⟩
    have c0 : W0.cell? ⟨w.heap.size, 0, none⟩ = some (.int .u8 a) := by subst hW0; simp
    have c1 : W0.cell? ⟨w.heap.size, 1, none⟩ = some (.int .u8 b) := by subst hW0; simp
    have hl : w.heap.size < W0.heap.size := by subst hW0; simp
    rw [hW0] at hB ⊢
    clear hW0
    go_region_held3 (fun w' => Old W0 w') (first | exact Old.start _ | exact Old.calld (Old.refl _) (by assumption) | exact Old.call (by assumption) (by assumption)) (first | (go_at_call 33; refine (alive06 _).mono ?_; rintro e w' ⟨rfl, hb'⟩) | (go_at_call 34; refine (of_any _ hs _).mono ?_; rintro e w' ⟨rfl, hb'⟩) | (go_at_call 35; refine (rof_any _ hs _).mono ?_; rintro e w' ⟨rfl, hb'⟩) | (go_at_call 36; refine (range_any _ _ (by omega) (by omega) (by omega) (by omega) _).mono ?_; rintro e w' ⟨rfl, hb'⟩) | (go_at_call 37; refine (rrange_any _ _ (by omega) (by omega) (by omega) (by omega) _).mono ?_; rintro e w' ⟨rfl, hb'⟩) | (go_at_call 38; refine (full_any _).mono ?_; rintro e w' ⟨rfl, hb'⟩) | (go_at_call 39; refine (rfull_any _).mono ?_; rintro e w' ⟨rfl, hb'⟩))
    go_wp2
    go_ret
    exact ⟨rfl, hB.trans ((show Old W0 _ by assumption).2.2.2.mono hB.size)⟩
end Go.Proofs.Ytkhcjjdamphbfaa
