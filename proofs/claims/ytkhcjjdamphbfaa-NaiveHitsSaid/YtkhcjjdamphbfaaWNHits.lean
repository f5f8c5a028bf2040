/- Walk of the law NaiveHits. -/
import Derived.Test.YtkhcjjdamphbfaaAl08
namespace Go.Proofs.Ytkhcjjdamphbfaa
open Go.RowKit

set_option maxRecDepth 100000 in
set_option maxHeartbeats 4000000 in
theorem naiveHits_walk (ad : Option Addr) (n cap : Nat) (A : Nat → Int) (hn : (n : Int) ≤ 4611686018427387904) (k : Int) (_ : -9223372036854775808 ≤ k) (_ : k ≤ 9223372036854775807) (w : World) (hR : RowI w ad n A w.heap.size) :
    Calls Try.prog 11 #[.slice ad n cap, .int .i64 k] w fun e w' => e = .returned (.bool true) ∧ Below w.heap.size w w' := by
  by_cases hf : (n : Int) ≤ 1000
  · have hlen := hitsTo_length A k n
    have h1 := fun w' h' => hits_any ad n cap A k (by omega) w' h'
    have h2 := fun w' h' => rhits_any ad n cap A k (by omega) w' h'
    generalize hitsTo A k n = C at hlen h1 h2
    have H1 := Lib.hid h1
    have H2 := Lib.hid h2
    clear h1 h2
    go_enter Try.func11, Try.ntmps11
    go_wp2_with (first | (go_at_call 53; refine (alive08 _).mono ?_; rintro e w1 ⟨rfl, hb1⟩; have hR1 := (hR.below hb1 (Nat.le_refl _)).mono hb1.size) | (go_at_call 63; refine (H1.out _ hR1).mono ?_; rintro e w2 ⟨v2, rfl, ho2, hb2⟩; obtain ⟨ad2, cp2, rfl⟩ := own_slice ho2; have hR2 := (hR1.below hb2 (Nat.le_refl _)).mono hb2.size) | (go_at_call 64; refine (H2.out _ hR2).mono ?_; rintro e w3 ⟨v3, rfl, ho3, hb3⟩; obtain ⟨ad3, cp3, rfl⟩ := own_slice ho3) | (go_at_call 56; refine (placesL C C (by omega) (by omega) _ (own_below ho2 hb3) ho3).mono ?_; rw [decide_eq_true rfl]; rintro e w4 ⟨rfl, hb4⟩))
    go_ret
    exact ⟨rfl, hb1.trans (((hb2.trans (hb3.mono hb2.size)).trans (hb4.mono (Nat.le_trans hb2.size hb3.size))).mono hb1.size)⟩
  · have hgt : (1000 : Int) < n := by omega
    go_enter Try.func11, Try.ntmps11
    go_wp2_with (go_at_call 53; refine (alive08 _).mono ?_; rintro e w1 ⟨rfl, hb1⟩)
    go_ret
    exact ⟨rfl, hb1⟩
end Go.Proofs.Ytkhcjjdamphbfaa
