/- Walk of the law ClassAsks. -/
import Derived.Test.YtkhcjjdamphbfaaAl06
namespace Go.Proofs.Ytkhcjjdamphbfaa
open Go.RowKit

set_option maxHeartbeats 4000000 in
set_option maxRecDepth 100000 in
theorem classAsks_walk (S : Nat → Bool) (b : Int) (lb : 0 ≤ b) (ub : b ≤ 255) (w : World) :
    Calls Try.prog 5 #[cv S, .int .u8 b] w fun e w' => e = .returned (.bool true) ∧ Below w.heap.size w w' := by
  have hB : Below w.heap.size w (w.alloc (.cells #[.int .u64 (wd S 0 : Nat), .int .u64 (wd S 1 : Nat), .int .u64 (wd S 2 : Nat), .int .u64 (wd S 3 : Nat)] 26)) := (Below.refl _ _).alloc (Nat.le_refl _) _
  have hc := HoldsC.new w S
  go_enter Try.func5, Try.ntmps5
  go_wp2_with fail
  refine (single_any S _).mono ?_
  rintro e w1 ⟨rfl, hb⟩
  replace hc := hc.below hb hc.2.2
  replace hB := hB.trans (hb.mono hB.size)
  clear hb
  go_wp2_with fail
  refine (rsingle_any S _).mono ?_
  rintro e w2 ⟨rfl, hb⟩
  replace hc := hc.below hb hc.2.2
  replace hB := hB.trans (hb.mono hB.size)
  clear hb
  have hl := hc.2.2
  go_wp2_with fail
  go_region_held3 (fun w' => Old w2 w') (first | exact Old.start _ | exact Old.calld (Old.refl _) (by assumption) | exact Old.call (by assumption) (by assumption)) (first | (go_at_call 33; refine (alive06 _).mono ?_; rintro e w' ⟨rfl, hb'⟩) | (go_at_call 46; refine (has_any _ _ (by omega) (by omega) _).mono ?_; rintro e w' ⟨rfl, hb'⟩) | (go_at_call 47; refine (rhas_any _ _ (by omega) (by omega) _).mono ?_; rintro e w' ⟨rfl, hb'⟩) | (go_at_call 48; refine (size_any _ _).mono ?_; rintro e w' ⟨rfl, hb'⟩) | (go_at_call 49; refine (rsize_any _ _).mono ?_; rintro e w' ⟨rfl, hb'⟩))
  go_wp2
  go_ret
  exact ⟨rfl, hB.trans ((show Old w2 _ by assumption).2.2.2.mono hB.size)⟩
end Go.Proofs.Ytkhcjjdamphbfaa
