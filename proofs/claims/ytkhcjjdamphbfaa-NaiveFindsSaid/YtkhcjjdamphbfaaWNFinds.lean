/- Walk of the law NaiveFinds. -/
import Derived.Test.YtkhcjjdamphbfaaAl08
import Derived.Test.YtkhcjjdamphbfaaNp
namespace Go.Proofs.Ytkhcjjdamphbfaa
open Go.RowKit

set_option maxRecDepth 100000 in
set_option maxHeartbeats 4000000 in
theorem naiveFinds_walk (ad : Option Addr) (n cap : Nat) (K : Int) (L : Nat → Nat → Bool) (hn : (n : Int) ≤ 4611686018427387904) (t : ByteArray) (ht : t.size ≤ 140737488351232) (i : Int) (_ : -9223372036854775808 ≤ i) (_ : i ≤ 9223372036854775807) (w : World) (hR : RowC w ad n L w.heap.size) :
    Calls Try.prog 10 #[lv ad n cap K, .string t, .int .i64 i] w fun e w' => e = .returned (.bool true) ∧ Below w.heap.size w w' := by
  have hl := HoldsL.new w ad n cap K
  have HB : Below w.heap.size w (w.alloc (.cells #[.slice ad n cap, .int .i64 K] 43)) := (Below.refl _ _).alloc (Nat.le_refl _) _
  have hR0 := (hR.below HB (Nat.le_refl _)).mono HB.size
  have hfew := few08_any ad n cap K hn t ht
  cases hf : (decide (n ≤ 100) && decide (t.size ≤ 300))
  · rw [hf] at hfew
    have HF := Lib.hid hfew
    clear hfew
    go_enter Try.func10, Try.ntmps10
    go_wp2_with (first | (go_at_call 52; refine (HF.out _).mono ?_; rintro e w1 ⟨rfl, hb1⟩) | (go_at_call 53; refine (alive08 _).mono ?_; rintro e w2 ⟨rfl, hb2⟩))
    go_ret
    exact ⟨rfl, HB.trans ((hb1.trans (hb2.mono hb1.size)).mono HB.size)⟩
  · rw [hf] at hfew
    have HF := Lib.hid hfew
    clear hfew
    simp only [Bool.and_eq_true, decide_eq_true_eq] at hf
    obtain ⟨hf1, hf2⟩ := hf
    have hn' : (n : Int) ≤ 1000 := by omega
    have ht' : t.size ≤ 1000 := by omega
    have hlen : (findL t n L K).length ≤ 100000 := by have := findL_length t n L K; omega
    have hce := find_eq t n L K
    have hc1 := fun w' h' => find_any ad n cap K L hn' t ht' w' h'
    rw [← hce] at hc1
    have hc2 := fun w' h' => rfind_any ad n cap K L hn' t ht' w' h'
    obtain ⟨s, hs⟩ : ∃ s : Nat, max 0 i = (s : Int) := ⟨(max 0 i).toNat, by omega⟩
    have ha1 := fun w' h' => first_any ad n cap K L hn' t ht' i s hs w' h'
    have ha2 := fun w' h' => rfirst_any ad n cap K L hn' t ht' i w' h'
    rw [first_ref t n L K i s hs] at ha2
    generalize firstF t n L K s = r0 at ha1 ha2
    generalize r0.getD 0 = r1 at ha1 ha2
    generalize r0.isSome = r2 at ha1 ha2
    generalize findL t n L K = C at hlen hc1 hc2
    have HC1 := Lib.hid hc1
    have HC2 := Lib.hid hc2
    clear hc1 hc2 hce hs
    have HA1 := Lib.hid ha1
    have HA2 := Lib.hid ha2
    clear ha1 ha2
    go_enter Try.func10, Try.ntmps10
    go_wp2_with (go_at_call 52; refine (HF.out _).mono ?_; rintro e w1 ⟨rfl, hb1⟩; obtain ⟨c0, c1, cl⟩ := hl.below hb1 hl.2.2)
    have hl1 := hl.below hb1 hl.2.2
    have hR1 := (hR0.below hb1 (Nat.le_refl _)).mono hb1.size
    have HB1 := HB.trans (hb1.mono HB.size)
    clear hl HB hR0 hb1 hR c0 c1
    refine (HA1.out _ hR1).mono ?_
    rintro e w2 ⟨rfl, hb2⟩
    have hl2 := hl1.below hb2 cl
    have hR2 := (hR1.below hb2 (Nat.le_refl _)).mono hb2.size
    have HB2 := HB1.trans (hb2.mono HB1.size)
    clear hl1 hR1 HB1 hb2 cl
    obtain ⟨c0, c1, cl⟩ := id hl2
    go_wp2_with fail
    refine (HA2.out _ hR2).mono ?_
    rintro e w3 ⟨rfl, hb3⟩
    have hl3 := hl2.below hb3 cl
    have hR3 := (hR2.below hb3 (Nat.le_refl _)).mono hb3.size
    have HB3 := HB2.trans (hb3.mono HB2.size)
    clear hl2 hR2 HB2 hb3 cl c0 c1
    obtain ⟨c0, c1, cl⟩ := hl3
    go_wp2_with fail
    go_region_held3 (fun w' => Old w3 w') (first | with_reducible exact Old.start _ | with_reducible exact Old.calld (Old.refl _) (by assumption) | with_reducible exact Old.call (by assumption) (by assumption)) (first | (go_at_call 53; refine (alive08 _).mono ?_; rintro e w' ⟨rfl, hb'⟩) | (go_at_call 61; refine (HC1.out _ ((hR3.below (show Old w3 _ by with_reducible assumption).2.2.2 (Nat.le_refl _)).mono (show Old w3 _ by with_reducible assumption).2.2.1)).mono ?_; rintro e w' ⟨v1, rfl, ho1, hb1⟩; obtain ⟨ad1, cp1, rfl⟩ := own_slice ho1) | (go_at_call 62; refine (HC2.out _ ((hR3.below (show Old w3 _ by with_reducible assumption).2.2.2 (Nat.le_refl _)).mono (show Old w3 _ by with_reducible assumption).2.2.1)).mono ?_; rintro e w' ⟨v2, rfl, ho2, hb2⟩; obtain ⟨ad2, cp2, rfl⟩ := own_slice ho2) | (go_at_call 56; refine (placesL C C hlen hlen _ (by first | exact ho1 | exact own_below ho1 hb2) (by first | exact ho2 | exact own_below ho2 hb1)).mono ?_; rw [decide_eq_true rfl]; rintro e w' ⟨rfl, hb'⟩))
    all_goals go_wp2
    all_goals go_ret
    all_goals exact ⟨rfl, HB3.trans ((show Old w3 _ by assumption).2.2.2.mono HB3.size)⟩
end Go.Proofs.Ytkhcjjdamphbfaa
