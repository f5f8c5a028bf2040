/- What a way costs, as the document says: walk of beagleref16.Cost. -/
import Derived.Test.YtkhcjjdamphbfaaK7
namespace Go.Proofs.Ytkhcjjdamphbfaa
open Go.RowKit

set_option maxRecDepth 100000 in
set_option maxHeartbeats 8000000 in
theorem rcost_any (way : Int) (ad : Option Addr) (n cap : Nat) (K : Int) (L : Nat → Nat → Bool) (hn : (n : Int) ≤ 1000) (nn size : Int) (w : World) (hR : RowC w ad n L w.heap.size) :
    Calls Try.prog 102 #[.int .i64 way, lv ad n cap K, .int .i64 nn, .int .i64 size] w fun e w' => e = .returned (.tuple #[.int .i64 (if sdB way nn size K L n then costV way nn size L n else 0), .bool (sdB way nn size K L n)]) ∧ Below w.heap.size w w' := by
  have hl := HoldsL.new w ad n cap K
  have HB : Below w.heap.size w (w.alloc (.cells #[.slice ad n cap, .int .i64 K] 43)) := (Below.refl _ _).alloc (Nat.le_refl _) _
  have hR0 := hR.below HB (Nat.le_refl _)
  have hz0 : (w.alloc (.cells #[.slice ad n cap, .int .i64 K] 43)).heap.size = w.heap.size + 1 := by simp
  have hs := fun w' h' => rszd_any way ad n cap K L hn nn size w' h'
  cases hsd : sdB way nn size K L n
  · rw [if_neg (by decide)]
    rw [hsd] at hs
    have HS := Lib.hid hs
    clear hs hsd
    go_enter Try.func102, Try.ntmps102
    go_wp2_with (first | (go_at_call 100; refine (HS.out _ (hR0.mono HB.size)).mono ?_; rintro e w1 ⟨rfl, hb1⟩))
    go_ret2
    exact ⟨rfl, HB.trans (hb1.mono HB.size)⟩
  · rw [if_pos rfl]
    have hrg := sd_rng hsd
    rw [hsd] at hs
    have HS := Lib.hid hs
    clear hs hsd
    obtain ⟨R, hRV⟩ : ∃ R, R = costV way nn size L n := ⟨_, rfl⟩
    rw [← hRV]
    unfold costV at hRV
    obtain ⟨N, hN⟩ : ∃ N, min nn 100000 = N := ⟨_, rfl⟩
    rw [hN] at hRV
    have HCV := Lib.hid hRV
    clear hRV
    obtain ⟨⟨g1, g2⟩, g3, g4⟩ := hrg
    have hrg : (1 ≤ (n : Int) ∧ (n : Int) ≤ 64) ∧ 1 ≤ way ∧ way ≤ 5 := by omega
    have HNN := Lib.hid hN
    clear hN
    go_enter Try.func102, Try.ntmps102
    go_wp2_with fail
    refine (HS.out _ (hR0.mono HB.size)).mono ?_
    rintro e w1 ⟨rfl, hb1⟩
    have hl1 := hl.below hb1 (by omega)
    have hR1 := hR0.below hb1 (by omega)
    have HB1 := HB.trans (hb1.mono (by omega))
    have hz1 : w.heap.size + 1 ≤ w1.heap.size := by have := hb1.size; omega
    have hN := HNN.out
    have hCV2 := HCV.out
    clear hl hR0 hz0 hb1 HB HS HNN HCV hR
    by_cases h100 : 100000 < nn
    · obtain rfl : N = 100000 := by rw [← hN]; exact Int.min_eq_right (by omega)
      obtain ⟨c0, c1, cl⟩ := id hl1
      by_cases hnN : (n : Int) ≤ 100000
      · have HN' := Lib.hid hN
        clear hN
        go_wp2_with fail
        refine (rlog_any size _).mono ?_
        rintro e w3 ⟨rfl, hb3⟩
        have hl3 := hl1.below hb3 (by omega)
        have hR3 := hR1.below hb3 (by omega)
        have HB3 := HB1.trans (hb3.mono (by omega))
        have hz3 : w.heap.size + 1 ≤ w3.heap.size := by have := hb3.size; omega
        clear hl1 hR1 HB1 hb3 hz1 c0 c1 cl
        go_wp2_with fail
        refine (rcount_any (n : Int) 100000 size (by omega) hnN (by omega) (by omega) _).mono ?_
        rintro e w4 ⟨rfl, hb4⟩
        have hl4 := hl3.below hb4 (by omega)
        have hR4 := hR3.below hb4 (by omega)
        have HB4 := HB3.trans (hb4.mono (by omega))
        have hz4 : w.heap.size + 1 ≤ w4.heap.size := by have := hb4.size; omega
        clear hl3 hR3 HB3 hb4 hz3
        obtain ⟨c0, c1, cl⟩ := id hl4
        obtain ⟨⟨x1, x2⟩, x3⟩ := cntV_in (m := n) (N := 100000) (size := size) (by omega) hnN (by omega)
        obtain ⟨x4, x5⟩ := xV_in (m := n) (N := 100000) (size := size) (by omega) hnN (by omega)
        have hxV : xV n 100000 size = cntV n 100000 size * size * ((lgV size : Nat) + 1) := rfl
        have hlv := lgV_le size
        rw [hxV] at x4 x5
        obtain ⟨x, hx⟩ : ∃ x, x = xV n 100000 size := ⟨_, rfl⟩
        rw [← hx] at hxV
        have hw1 : IntKind.i64.wrap (cntV n 100000 size * size) = cntV n 100000 size * size := by rw [IntKind.wrap_i64]; omega
        have hw2 : IntKind.i64.wrap (cntV n 100000 size * size * ((lgV size : Nat) + 1)) = x := by rw [IntKind.wrap_i64, hxV]; omega
        rw [← hxV] at x4 x5
        rw [← hx] at hCV2
        have HXV := Lib.hid hxV
        clear hxV hx
        generalize cntV n 100000 size = cc at *
        go_wp2_with fail
        clear c0 c1 cl hw1 hw2 HXV x1 x2 x3
        refine (rparts_any ad n cap K L hn _ (hR4.mono (by omega))).mono ?_
        rintro e w6 ⟨rfl, hb6⟩
        have hl6 := hl4.below hb6 (by omega)
        have hR6 := hR4.below hb6 (by omega)
        have HB6 := HB4.trans (hb6.mono (by omega))
        have hz6 : w.heap.size + 1 ≤ w6.heap.size := by have := hb6.size; omega
        have hfl := frq_le L n
        have hrl := rst_le L n
        clear hl4 hR4 HB4 hb6 hz4
        rw [if_pos hnN] at hCV2
        have h15 := hrg.2
        have hways : way = 1 ∨ way = 2 ∨ way = 3 ∨ way = 4 ∨ way = 5 := by omega
        have HC := Lib.hid hCV2
        clear hCV2
        obtain ⟨c0, c1, cl⟩ := id hl6
        have hkl := kindsTo_length L n
        have hf0 : (0 : Int) ≤ (frq L n : Nat) := by omega
        have hr0 : (0 : Int) ≤ (rst L n : Nat) := by omega
        have hf1 : ((frq L n : Nat) : Int) ≤ 1000 := by omega
        have hr1 : ((rst L n : Nat) : Int) ≤ 2000 := by omega
        have hn0 : (0 : Int) ≤ n := by omega
        have p1 := mul_in hn0 hn (show 0 ≤ 100000 - (n : Int) + 1 by omega) (show 100000 - (n : Int) + 1 ≤ 100001 by omega)
        have p5 := mul_in hf0 hf1 (show 0 ≤ x + 100000 by omega) (show x + 100000 ≤ 100000100000 by omega)
        have q5 := mul_in (show (0 : Int) ≤ 100000 by omega) (show (100000 : Int) ≤ 100000 by omega) hr0 hr1
        rcases hways with rfl | rfl | rfl | rfl | rfl
        · have hw : IntKind.i64.wrap ((n : Int) * (100000 - n + 1)) = (n : Int) * (100000 - n + 1) := by rw [IntKind.wrap_i64]; omega
          go_wp2
          go_ret2
          rw [HC.out]
          exact ⟨rfl, HB6⟩
        · go_wp2
          go_ret2
          rw [HC.out]
          exact ⟨rfl, HB6⟩
        · go_wp2
          go_ret2
          rw [HC.out]
          exact ⟨rfl, HB6⟩
        · have hk := fun w' h' => rkinds_any ad n cap K L (by omega) w' h'
          generalize hkk : kindsTo L n = kk at hk hkl HC
          have HK := Lib.hid hk
          clear hk hkk
          obtain ⟨k, hke⟩ : ∃ k, k = kk.length := ⟨_, rfl⟩
          rw [← hke] at hkl HK HC
          have p4 := mul_in (show (0 : Int) ≤ (k : Nat) by omega) (show ((k : Nat) : Int) ≤ 1000 by omega) (show 0 ≤ x + 100000 by omega) (show x + 100000 ≤ 100000100000 by omega)
          have hw : IntKind.i64.wrap ((k : Int) * (x + 100000)) = (k : Int) * (x + 100000) := by rw [IntKind.wrap_i64]; omega
          have hw4 : IntKind.i64.wrap ((k : Int) * (x + 100000) + 100000) = (k : Int) * (x + 100000) + 100000 := by rw [IntKind.wrap_i64]; omega
          have hw0 : IntKind.i64.wrap (x + 100000) = x + 100000 := by rw [IntKind.wrap_i64]; omega
          have hcm : csW 4 n 100000 x (k : Nat) (frq L n : Nat) (rst L n : Nat) = (k : Int) * (x + 100000) + 100000 := by unfold csW cs4; rw [if_neg (by decide), if_neg (by decide), if_neg (by decide), if_pos rfl, Int.mul_comm]
          have HCM := Lib.hid hcm
          clear hke hcm
          go_wp2_with (first | (go_at_call 81; refine (HK.out _ (hR6.mono (by omega))).mono ?_; rintro e w7 ⟨v7, rfl, ho7, hb7⟩; obtain ⟨adw, cpw, rfl⟩ := own_slice ho7))
          go_ret2
          rw [HC.out, HCM.out]
          exact ⟨rfl, HB6.trans (hb7.mono (by omega))⟩
        · have hw : IntKind.i64.wrap ((frq L n : Nat) * (x + 100000)) = (frq L n : Nat) * (x + 100000) := by rw [IntKind.wrap_i64]; omega
          have hw2 : IntKind.i64.wrap (100000 * ((rst L n : Nat) : Int)) = 100000 * ((rst L n : Nat) : Int) := by rw [IntKind.wrap_i64]; omega
          have hw3 : IntKind.i64.wrap ((frq L n : Nat) * (x + 100000) + 100000 * ((rst L n : Nat) : Int)) = (frq L n : Nat) * (x + 100000) + 100000 * ((rst L n : Nat) : Int) := by rw [IntKind.wrap_i64]; omega
          have hw4 : IntKind.i64.wrap ((frq L n : Nat) * (x + 100000) + 100000 * ((rst L n : Nat) : Int) + 100000) = (frq L n : Nat) * (x + 100000) + 100000 * ((rst L n : Nat) : Int) + 100000 := by rw [IntKind.wrap_i64]; omega
          have hcm : csW 5 n 100000 x ((kindsTo L n).length : Nat) (frq L n : Nat) (rst L n : Nat) = (frq L n : Nat) * (x + 100000) + 100000 * ((rst L n : Nat) : Int) + 100000 := by unfold csW cs5; rw [if_neg (by decide), if_neg (by decide), if_neg (by decide), if_neg (by decide), Int.mul_comm (x + 100000)]
          have HCM := Lib.hid hcm
          clear hcm
          go_wp2
          go_ret2
          rw [HC.out, HCM.out]
          exact ⟨rfl, HB6⟩
      · omega
    · obtain rfl : N = nn := by rw [← hN]; exact Int.min_eq_left (by omega)
      obtain ⟨c0, c1, cl⟩ := id hl1
      by_cases hnN : (n : Int) ≤ N
      · have HN' := Lib.hid hN
        clear hN
        go_wp2_with fail
        refine (rlog_any size _).mono ?_
        rintro e w3 ⟨rfl, hb3⟩
        have hl3 := hl1.below hb3 (by omega)
        have hR3 := hR1.below hb3 (by omega)
        have HB3 := HB1.trans (hb3.mono (by omega))
        have hz3 : w.heap.size + 1 ≤ w3.heap.size := by have := hb3.size; omega
        clear hl1 hR1 HB1 hb3 hz1 c0 c1 cl
        go_wp2_with fail
        refine (rcount_any (n : Int) N size (by omega) hnN (by omega) (by omega) _).mono ?_
        rintro e w4 ⟨rfl, hb4⟩
        have hl4 := hl3.below hb4 (by omega)
        have hR4 := hR3.below hb4 (by omega)
        have HB4 := HB3.trans (hb4.mono (by omega))
        have hz4 : w.heap.size + 1 ≤ w4.heap.size := by have := hb4.size; omega
        clear hl3 hR3 HB3 hb4 hz3
        obtain ⟨c0, c1, cl⟩ := id hl4
        obtain ⟨⟨x1, x2⟩, x3⟩ := cntV_in (m := n) (N := N) (size := size) (by omega) hnN (by omega)
        obtain ⟨x4, x5⟩ := xV_in (m := n) (N := N) (size := size) (by omega) hnN (by omega)
        have hxV : xV n N size = cntV n N size * size * ((lgV size : Nat) + 1) := rfl
        have hlv := lgV_le size
        rw [hxV] at x4 x5
        obtain ⟨x, hx⟩ : ∃ x, x = xV n N size := ⟨_, rfl⟩
        rw [← hx] at hxV
        have hw1 : IntKind.i64.wrap (cntV n N size * size) = cntV n N size * size := by rw [IntKind.wrap_i64]; omega
        have hw2 : IntKind.i64.wrap (cntV n N size * size * ((lgV size : Nat) + 1)) = x := by rw [IntKind.wrap_i64, hxV]; omega
        rw [← hxV] at x4 x5
        rw [← hx] at hCV2
        have HXV := Lib.hid hxV
        clear hxV hx
        generalize cntV n N size = cc at *
        go_wp2_with fail
        clear c0 c1 cl hw1 hw2 HXV x1 x2 x3
        refine (rparts_any ad n cap K L hn _ (hR4.mono (by omega))).mono ?_
        rintro e w6 ⟨rfl, hb6⟩
        have hl6 := hl4.below hb6 (by omega)
        have hR6 := hR4.below hb6 (by omega)
        have HB6 := HB4.trans (hb6.mono (by omega))
        have hz6 : w.heap.size + 1 ≤ w6.heap.size := by have := hb6.size; omega
        have hfl := frq_le L n
        have hrl := rst_le L n
        clear hl4 hR4 HB4 hb6 hz4
        rw [if_pos hnN] at hCV2
        have h15 := hrg.2
        have hways : way = 1 ∨ way = 2 ∨ way = 3 ∨ way = 4 ∨ way = 5 := by omega
        have HC := Lib.hid hCV2
        clear hCV2
        obtain ⟨c0, c1, cl⟩ := id hl6
        have hkl := kindsTo_length L n
        have hf0 : (0 : Int) ≤ (frq L n : Nat) := by omega
        have hr0 : (0 : Int) ≤ (rst L n : Nat) := by omega
        have hf1 : ((frq L n : Nat) : Int) ≤ 1000 := by omega
        have hr1 : ((rst L n : Nat) : Int) ≤ 2000 := by omega
        have hn0 : (0 : Int) ≤ n := by omega
        have p1 := mul_in hn0 hn (show 0 ≤ N - (n : Int) + 1 by omega) (show N - (n : Int) + 1 ≤ 100001 by omega)
        have p5 := mul_in hf0 hf1 (show 0 ≤ x + N by omega) (show x + N ≤ 100000100000 by omega)
        have q5 := mul_in (show (0 : Int) ≤ N by omega) (show (N : Int) ≤ 100000 by omega) hr0 hr1
        rcases hways with rfl | rfl | rfl | rfl | rfl
        · have hw : IntKind.i64.wrap ((n : Int) * (N - n + 1)) = (n : Int) * (N - n + 1) := by rw [IntKind.wrap_i64]; omega
          go_wp2
          go_ret2
          rw [HC.out]
          exact ⟨rfl, HB6⟩
        · go_wp2
          go_ret2
          rw [HC.out]
          exact ⟨rfl, HB6⟩
        · go_wp2
          go_ret2
          rw [HC.out]
          exact ⟨rfl, HB6⟩
        · have hk := fun w' h' => rkinds_any ad n cap K L (by omega) w' h'
          generalize hkk : kindsTo L n = kk at hk hkl HC
          have HK := Lib.hid hk
          clear hk hkk
          obtain ⟨k, hke⟩ : ∃ k, k = kk.length := ⟨_, rfl⟩
          rw [← hke] at hkl HK HC
          have p4 := mul_in (show (0 : Int) ≤ (k : Nat) by omega) (show ((k : Nat) : Int) ≤ 1000 by omega) (show 0 ≤ x + N by omega) (show x + N ≤ 100000100000 by omega)
          have hw : IntKind.i64.wrap ((k : Int) * (x + N)) = (k : Int) * (x + N) := by rw [IntKind.wrap_i64]; omega
          have hw4 : IntKind.i64.wrap ((k : Int) * (x + N) + N) = (k : Int) * (x + N) + N := by rw [IntKind.wrap_i64]; omega
          have hw0 : IntKind.i64.wrap (x + N) = x + N := by rw [IntKind.wrap_i64]; omega
          have hcm : csW 4 n N x (k : Nat) (frq L n : Nat) (rst L n : Nat) = (k : Int) * (x + N) + N := by unfold csW cs4; rw [if_neg (by decide), if_neg (by decide), if_neg (by decide), if_pos rfl, Int.mul_comm]
          have HCM := Lib.hid hcm
          clear hke hcm
          go_wp2_with (first | (go_at_call 81; refine (HK.out _ (hR6.mono (by omega))).mono ?_; rintro e w7 ⟨v7, rfl, ho7, hb7⟩; obtain ⟨adw, cpw, rfl⟩ := own_slice ho7))
          go_ret2
          rw [HC.out, HCM.out]
          exact ⟨rfl, HB6.trans (hb7.mono (by omega))⟩
        · have hw : IntKind.i64.wrap ((frq L n : Nat) * (x + N)) = (frq L n : Nat) * (x + N) := by rw [IntKind.wrap_i64]; omega
          have hw2 : IntKind.i64.wrap (N * ((rst L n : Nat) : Int)) = N * ((rst L n : Nat) : Int) := by rw [IntKind.wrap_i64]; omega
          have hw3 : IntKind.i64.wrap ((frq L n : Nat) * (x + N) + N * ((rst L n : Nat) : Int)) = (frq L n : Nat) * (x + N) + N * ((rst L n : Nat) : Int) := by rw [IntKind.wrap_i64]; omega
          have hw4 : IntKind.i64.wrap ((frq L n : Nat) * (x + N) + N * ((rst L n : Nat) : Int) + N) = (frq L n : Nat) * (x + N) + N * ((rst L n : Nat) : Int) + N := by rw [IntKind.wrap_i64]; omega
          have hcm : csW 5 n N x ((kindsTo L n).length : Nat) (frq L n : Nat) (rst L n : Nat) = (frq L n : Nat) * (x + N) + N * ((rst L n : Nat) : Int) + N := by unfold csW cs5; rw [if_neg (by decide), if_neg (by decide), if_neg (by decide), if_neg (by decide), Int.mul_comm (x + N)]
          have HCM := Lib.hid hcm
          clear hcm
          go_wp2
          go_ret2
          rw [HC.out, HCM.out]
          exact ⟨rfl, HB6⟩
      · rw [if_neg hnN] at hCV2
        have HC := Lib.hid hCV2
        clear hCV2
        go_wp2
        go_ret2
        rw [HC.out]
        exact ⟨rfl, HB1⟩
end Go.Proofs.Ytkhcjjdamphbfaa
