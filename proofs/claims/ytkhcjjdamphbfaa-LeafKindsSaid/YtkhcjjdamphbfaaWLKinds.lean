/- Walk of the law LeafKinds. -/
import Derived.Test.YtkhcjjdamphbfaaAl07
namespace Go.Proofs.Ytkhcjjdamphbfaa
open Go.RowKit

set_option maxRecDepth 100000 in
set_option maxHeartbeats 4000000 in
theorem leafKinds_walk (ad : Option Addr) (n cap : Nat) (K : Int) (L : Nat → Nat → Bool) (hn : (n : Int) ≤ 4611686018427387904) (S : Nat → Bool) (w : World) (hR : RowC w ad n L w.heap.size) :
    Calls Try.prog 17 #[lv ad n cap K, cv S] w fun e w' => e = .returned (.bool true) ∧ Below w.heap.size w w' := by
  have HB : Below w.heap.size w ((w.alloc (.cells #[.slice ad n cap, .int .i64 K] 43)).alloc (.cells #[.int .u64 (wd S 0 : Nat), .int .u64 (wd S 1 : Nat), .int .u64 (wd S 2 : Nat), .int .u64 (wd S 3 : Nat)] 26)) := ((Below.refl _ _).alloc (Nat.le_refl _) _).alloc (by simp) _
  have hl : HoldsL ((w.alloc (.cells #[.slice ad n cap, .int .i64 K] 43)).alloc (.cells #[.int .u64 (wd S 0 : Nat), .int .u64 (wd S 1 : Nat), .int .u64 (wd S 2 : Nat), .int .u64 (wd S 3 : Nat)] 26)) w.heap.size ad n cap K := (HoldsL.new w ad n cap K).below ((Below.refl _ _).alloc (Nat.le_refl _) _) (by simp)
  have hS := HoldsC.new (w.alloc (.cells #[.slice ad n cap, .int .i64 K] 43)) S
  rw [World.size_alloc] at hS
  have hR0 := (hR.below HB (Nat.le_refl _)).mono HB.size
  by_cases hf : n ≤ 100
  · go_enter Try.func17, Try.ntmps17
    go_wp2_with (go_at_call 66; refine (few07_any ad n cap K hn _).mono ?_; rw [decide_eq_true hf]; rintro e w1 ⟨rfl, hb1⟩)
    have hl1 := hl.below hb1 hl.2.2
    have hS1 := hS.below hb1 hS.2.2
    have hR1 := (hR0.below hb1 (Nat.le_refl _)).mono hb1.size
    have HB1 := HB.trans (hb1.mono HB.size)
    clear hl HB hR0 hb1 hR hS
    obtain ⟨c0, c1, cl⟩ := hl1
    obtain ⟨⟨x0, x1, x2, x3⟩, -, cs⟩ := hS1
    have hkl := kindsTo_length L n
    have hwl : (whereTo S L n).length ≤ n := by rw [whereTo_length]; exact cntN_le _ _
    have hkc := agC_refl (gc (kindsTo L n)) (kindsTo L n).length
    go_region_held3 (fun w' => Old w1 w') (first | with_reducible exact Old.start _ | with_reducible exact Old.calld (Old.refl _) (by assumption) | with_reducible exact Old.call (by assumption) (by assumption)) (first | (go_at_call 67; refine (alive07 _).mono ?_; rintro e w' ⟨rfl, hb'⟩) | (go_at_call 80; refine (kinds_any ad n cap K L (by omega) _ ((hR1.below (show Old w1 _ by with_reducible assumption).2.2.2 (Nat.le_refl _)).mono (show Old w1 _ by with_reducible assumption).2.2.1)).mono ?_; rintro e w' ⟨v1, rfl, ho1, hb1⟩; obtain ⟨ad1, cp1, rfl⟩ := own_slice ho1) | (go_at_call 81; refine (rkinds_any ad n cap K L (by omega) _ ((hR1.below (show Old w1 _ by with_reducible assumption).2.2.2 (Nat.le_refl _)).mono (show Old w1 _ by with_reducible assumption).2.2.1)).mono ?_; rintro e w' ⟨v2, rfl, ho2, hb2⟩; obtain ⟨ad2, cp2, rfl⟩ := own_slice ho2) | (go_at_call 79; refine (classes_any _ _ _ (gc (kindsTo L n)) _ _ _ (gc (kindsTo L n)) (by omega) (by omega) _ (by first | exact rowC_of_list ho1 | exact rowC_of_list (own_below ho1 hb2)) (by first | exact rowC_of_list ho2 | exact rowC_of_list (own_below ho2 hb1))).mono ?_; rw [hkc, decide_eq_true rfl]; rintro e w' ⟨rfl, hb'⟩) | (go_at_call 82; refine (where_any ad n cap K L S (by omega) _ ((hR1.below (show Old w1 _ by with_reducible assumption).2.2.2 (Nat.le_refl _)).mono (show Old w1 _ by with_reducible assumption).2.2.1)).mono ?_; rintro e w' ⟨v3, rfl, ho3, hb3⟩; obtain ⟨ad3, cp3, rfl⟩ := own_slice ho3) | (go_at_call 83; refine (rwhere_any ad n cap K L S (by omega) _ ((hR1.below (show Old w1 _ by with_reducible assumption).2.2.2 (Nat.le_refl _)).mono (show Old w1 _ by with_reducible assumption).2.2.1)).mono ?_; rintro e w' ⟨v4, rfl, ho4, hb4⟩; obtain ⟨ad4, cp4, rfl⟩ := own_slice ho4) | (go_at_call 56; refine (placesL (whereTo S L n) (whereTo S L n) (by omega) (by omega) _ (by first | exact ho3 | exact own_below ho3 hb4) (by first | exact ho4 | exact own_below ho4 hb3)).mono ?_; rw [decide_eq_true rfl]; rintro e w' ⟨rfl, hb'⟩))
    all_goals go_wp2
    all_goals go_ret
    all_goals exact ⟨rfl, HB1.trans ((show Old w1 _ by assumption).2.2.2.mono HB1.size)⟩
  · go_enter Try.func17, Try.ntmps17
    go_wp2_with (first | (go_at_call 66; refine (few07_any ad n cap K hn _).mono ?_; rw [decide_eq_false hf]; rintro e w1 ⟨rfl, hb1⟩) | (go_at_call 67; refine (alive07 _).mono ?_; rintro e w2 ⟨rfl, hb2⟩))
    go_ret
    exact ⟨rfl, HB.trans ((hb1.trans (hb2.mono hb1.size)).mono HB.size)⟩
end Go.Proofs.Ytkhcjjdamphbfaa
