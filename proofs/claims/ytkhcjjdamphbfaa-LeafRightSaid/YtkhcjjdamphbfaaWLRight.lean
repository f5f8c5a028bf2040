/- Walk of the law LeafRight. -/
import Derived.Test.YtkhcjjdamphbfaaAl07
namespace Go.Proofs.Ytkhcjjdamphbfaa
open Go.RowKit

set_option maxRecDepth 100000 in
set_option maxHeartbeats 4000000 in
theorem leafRight_walk (ad : Option Addr) (n cap : Nat) (K : Int) (L : Nat → Nat → Bool) (hn : (n : Int) ≤ 4611686018427387904) (w : World) (hR : RowC w ad n L w.heap.size) :
    Calls Try.prog 14 #[lv ad n cap K] w fun e w' => e = .returned (.bool true) ∧ Below w.heap.size w w' := by
  have hl := HoldsL.new w ad n cap K
  have HB : Below w.heap.size w (w.alloc (.cells #[.slice ad n cap, .int .i64 K] 43)) := (Below.refl _ _).alloc (Nat.le_refl _) _
  have hR0 := (hR.below HB (Nat.le_refl _)).mono HB.size
  by_cases hf : n ≤ 100
  · go_enter Try.func14, Try.ntmps14
    go_wp2_with (go_at_call 66; refine (few07_any ad n cap K hn _).mono ?_; rw [decide_eq_true hf]; rintro e w1 ⟨rfl, hb1⟩)
    have hl1 := hl.below hb1 hl.2.2
    have hR1 := (hR0.below hb1 (Nat.le_refl _)).mono hb1.size
    have HB1 := HB.trans (hb1.mono HB.size)
    clear hl HB hR0 hb1 hR
    obtain ⟨c0, c1, cl⟩ := hl1
    go_region_held3 (fun w' => Old w1 w') (first | with_reducible exact Old.start _ | with_reducible exact Old.calld (Old.refl _) (by assumption) | with_reducible exact Old.call (by assumption) (by assumption)) (first | (go_at_call 67; refine (alive07 _).mono ?_; rintro e w' ⟨rfl, hb'⟩) | (go_at_call 68; refine (right_any ad n cap K L hn _ ((hR1.below (show Old w1 _ by with_reducible assumption).2.2.2 (Nat.le_refl _)).mono (show Old w1 _ by with_reducible assumption).2.2.1)).mono ?_; rintro e w' ⟨rfl, hb'⟩) | (go_at_call 65; refine (rright_any ad n cap K L hn _ ((hR1.below (show Old w1 _ by with_reducible assumption).2.2.2 (Nat.le_refl _)).mono (show Old w1 _ by with_reducible assumption).2.2.1)).mono ?_; rintro e w' ⟨rfl, hb'⟩) | (go_at_call 69; refine (plain_any ad n cap K L hn _ ((hR1.below (show Old w1 _ by with_reducible assumption).2.2.2 (Nat.le_refl _)).mono (show Old w1 _ by with_reducible assumption).2.2.1)).mono ?_; rintro e w' ⟨rfl, hb'⟩) | (go_at_call 70; refine (rplain_any ad n cap K L hn _ ((hR1.below (show Old w1 _ by with_reducible assumption).2.2.2 (Nat.le_refl _)).mono (show Old w1 _ by with_reducible assumption).2.2.1)).mono ?_; rintro e w' ⟨rfl, hb'⟩) | (go_at_call 71; refine (bound_any ad n cap K L (by omega) _ ((hR1.below (show Old w1 _ by with_reducible assumption).2.2.2 (Nat.le_refl _)).mono (show Old w1 _ by with_reducible assumption).2.2.1)).mono ?_; rintro e w' ⟨rfl, hb'⟩) | (go_at_call 72; refine (rbound_any ad n cap K L (by omega) _ ((hR1.below (show Old w1 _ by with_reducible assumption).2.2.2 (Nat.le_refl _)).mono (show Old w1 _ by with_reducible assumption).2.2.1)).mono ?_; rintro e w' ⟨rfl, hb'⟩))
    go_wp2
    go_ret
    exact ⟨rfl, HB1.trans ((show Old w1 _ by assumption).2.2.2.mono HB1.size)⟩
  · go_enter Try.func14, Try.ntmps14
    go_wp2_with (first | (go_at_call 66; refine (few07_any ad n cap K hn _).mono ?_; rw [decide_eq_false hf]; rintro e w1 ⟨rfl, hb1⟩) | (go_at_call 67; refine (alive07 _).mono ?_; rintro e w2 ⟨rfl, hb2⟩))
    go_ret
    exact ⟨rfl, HB.trans ((hb1.trans (hb2.mono hb1.size)).mono HB.size)⟩
end Go.Proofs.Ytkhcjjdamphbfaa
