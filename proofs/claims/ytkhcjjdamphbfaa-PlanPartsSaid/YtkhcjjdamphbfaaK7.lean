/- What a way costs: walk of plan.Cost. -/
import Derived.Test.YtkhcjjdamphbfaaK6
namespace Go.Proofs.Ytkhcjjdamphbfaa
open Go.RowKit

theorem Boxed.low {W W' : World} {B n : Nat} {t : TypeId} {v : Value} (h : Boxed W B t v) (hb : Below n W W') (hn : B < n) : Boxed W' B t v := (hb.block B hn).trans h
theorem HoldsL.grw {w w' : World} {B b n cap : Nat} {ad : Option Addr} {K : Int} (h : HoldsL w B ad n cap K) (hg : w.grownBy w' (some b)) (hne : B ≠ b) : HoldsL w' B ad n cap K := by
  have hk := hg.block B h.2.2 (fun e => hne (by cases e; rfl))
  obtain ⟨h0, h1, h2⟩ := h
  refine ⟨?_, ?_, Nat.lt_of_lt_of_le h2 hg.size⟩
  · rw [← h0]; unfold World.cell?; rw [hk]
  · rw [← h1]; unfold World.cell?; rw [hk]
/-- What all transforms take. -/
def xV (m N size : Int) : Int := cntV m N size * size * ((lgV size : Nat) + 1)
theorem cntV_in {m N size : Int} (hm : 1 ≤ m) (hN : m ≤ N) (hN2 : N ≤ 100000) : (0 ≤ cntV m N size * size ∧ cntV m N size * size ≤ 700000 * 4096) ∧ 0 ≤ cntV m N size := by
  unfold cntV
  cases hs : szB m size
  · rw [if_neg (by decide), Int.zero_mul]; omega
  · rw [if_pos rfl]
    unfold szB at hs
    rw [Bool.and_eq_true, decide_eq_true_eq] at hs
    obtain ⟨a, b⟩ := lg_size hs.1
    have c := hs.2
    have q0 : 0 ≤ (N - m) / (size - m + 1) := Int.ediv_nonneg (by omega) (by omega)
    have q1 : (N - m) / (size - m + 1) ≤ 100000 := Int.le_trans (Int.ediv_le_self _ (by omega)) (by omega)
    generalize (N - m) / (size - m + 1) = q at q0 q1
    have := mul_in (show 0 ≤ 3 + 6 * (q + 1) by omega) (show 3 + 6 * (q + 1) ≤ 700000 by omega) (show 0 ≤ size by omega) b
    exact ⟨this, by omega⟩
theorem xV_in {m N size : Int} (hm : 1 ≤ m) (hN : m ≤ N) (hN2 : N ≤ 100000) : 0 ≤ xV m N size ∧ xV m N size ≤ 100000000000 := by
  obtain ⟨⟨h1, h2⟩, -⟩ := cntV_in (size := size) hm hN hN2
  have hl := lgV_le size
  unfold xV
  have := mul_in h1 h2 (show (0 : Int) ≤ (lgV size : Nat) + 1 by omega) (show ((lgV size : Nat) : Int) + 1 ≤ 13 by omega)
  omega
/-- What a way costs, of m elements, N bytes, x for the transforms, k kinds, f of them frequent, the others at r places. -/
def csW (way m N x k f r : Int) : Int := if way = 1 then cs1 m N else if way = 2 then cs2 m N else if way = 3 then cs3 x N else if way = 4 then cs4 x N k else cs5 x N f r
/-- What a way costs a leaf. -/
def costV (way nn size : Int) (L : Nat → Nat → Bool) (n : Nat) : Int :=
  if (n : Int) ≤ min nn 100000 then csW way n (min nn 100000) (xV n (min nn 100000) size) ((kindsTo L n).length : Nat) (frq L n : Nat) (rst L n : Nat) else 0
theorem adm_rng {way K : Int} {L : Nat → Nat → Bool} {n : Nat} (h : admB way K L n = true) : (1 ≤ n ∧ n ≤ 64) ∧ 1 ≤ way ∧ way ≤ 5 := by
  unfold admB at h
  rw [Bool.and_eq_true] at h
  have hr := h.1
  unfold rightB at hr
  simp only [Bool.and_eq_true, decide_eq_true_eq] at hr
  refine ⟨⟨hr.1, hr.2.1⟩, ?_⟩
  have h2 := h.2
  by_cases e1 : way = 1 ∨ way = 4
  · omega
  · rw [if_neg e1] at h2
    by_cases e2 : way = 2
    · omega
    · rw [if_neg e2] at h2
      by_cases e3 : way = 3
      · omega
      · rw [if_neg e3, Bool.and_eq_true, decide_eq_true_eq] at h2
        omega
theorem sd_rng {way nn size K : Int} {L : Nat → Nat → Bool} {n : Nat} (h : sdB way nn size K L n = true) : (1 ≤ n ∧ n ≤ 64) ∧ 1 ≤ way ∧ way ≤ 5 := by
  unfold sdB at h
  rw [Bool.and_eq_true] at h
  exact adm_rng h.1

set_option maxRecDepth 100000 in
set_option maxHeartbeats 8000000 in
theorem cost_any (way : Int) (ad : Option Addr) (n cap : Nat) (K : Int) (L : Nat → Nat → Bool) (hn : (n : Int) ≤ 1000) (nn size : Int) (w : World) (hR : RowC w ad n L w.heap.size) :
    Calls Try.prog 101 #[.int .i64 way, lv ad n cap K, .int .i64 nn, .int .i64 size] w fun e w' => e = .returned (.tuple #[.int .i64 (if sdB way nn size K L n then costV way nn size L n else 0), .bool (sdB way nn size K L n)]) ∧ Below w.heap.size w w' := by
  have hl := HoldsL.new w ad n cap K
  have hl0 := hl.below (((Below.refl _ _).alloc (Nat.le_refl _) (.cells #[.int .i64 nn] 3)) : Below _ _ ((w.alloc (.cells #[.slice ad n cap, .int .i64 K] 43)).alloc (.cells #[.int .i64 nn] 3))) hl.2.2
  have hN0 := Boxed.new (w.alloc (.cells #[.slice ad n cap, .int .i64 K] 43)) 3 (.int .i64 nn)
  have HB : Below w.heap.size w ((w.alloc (.cells #[.slice ad n cap, .int .i64 K] 43)).alloc (.cells #[.int .i64 nn] 3)) := ((Below.refl _ _).alloc (Nat.le_refl _) _).alloc (by simp) _
  have hR0 := hR.below HB (Nat.le_refl _)
  have hz0 : ((w.alloc (.cells #[.slice ad n cap, .int .i64 K] 43)).alloc (.cells #[.int .i64 nn] 3)).heap.size = w.heap.size + 2 := by simp
  rw [World.size_alloc] at hN0
  have hs := fun w' h' => szd_any way ad n cap K L hn nn size w' h'
  cases hsd : sdB way nn size K L n
  · rw [if_neg (by decide)]
    rw [hsd] at hs
    have HS := Lib.hid hs
    clear hs hsd
    go_enter Try.func101, Try.ntmps101
    go_wp2_with (first | (go_at_call 99; refine (HS.out _ (hR0.mono HB.size)).mono ?_; rintro e w1 ⟨rfl, hb1⟩))
    go_ret2
    exact ⟨rfl, HB.trans (hb1.mono HB.size)⟩
  · rw [if_pos rfl]
    have hrg := sd_rng hsd
    rw [hsd] at hs
    have HS := Lib.hid hs
    clear hs hsd
    obtain ⟨R, hRV⟩ : ∃ R, R = costV way nn size L n := ⟨_, rfl⟩
    rw [← hRV]
    unfold costV at hRV
    obtain ⟨N, hN⟩ : ∃ N, min nn 100000 = N := ⟨_, rfl⟩
    rw [hN] at hRV
    have HCV := Lib.hid hRV
    clear hRV
    obtain ⟨⟨g1, g2⟩, g3, g4⟩ := hrg
    have hrg : (1 ≤ (n : Int) ∧ (n : Int) ≤ 64) ∧ 1 ≤ way ∧ way ≤ 5 := by omega
    have HNN := Lib.hid hN
    clear hN
    go_enter Try.func101, Try.ntmps101
    go_wp2_with fail
    refine (HS.out _ (hR0.mono HB.size)).mono ?_
    rintro e w1 ⟨rfl, hb1⟩
    have hl1 := hl0.below hb1 (by omega)
    have hN1 := Boxed.low hN0 hb1 (by omega)
    have hR1 := hR0.below hb1 (by omega)
    have hRw := hR1
    have HB1 := HB.trans (hb1.mono (by omega))
    have hz1 : w.heap.size + 2 ≤ w1.heap.size := by have := hb1.size; omega
    have hN := HNN.out
    have hCV2 := HCV.out
    clear hl hl0 hN0 hR0 hz0 hb1 HB HS HNN HCV hR
    by_cases h100 : 100000 < nn
    · obtain rfl : N = 100000 := by rw [← hN]; exact Int.min_eq_right (by omega)
      have n0 := Boxed.cell hN1
      have n1 := Boxed.frozen hN1
      obtain ⟨c0, c1, cl⟩ := id hl1
      have hle1 : w.heap.size + 1 < w1.heap.size := by omega
      have hMA : Below w1.heap.size (w1.setCell ⟨w.heap.size + 1, 0, none⟩ (.int .i64 100000)) ((w1.setCell ⟨w.heap.size + 1, 0, none⟩ (.int .i64 100000)).alloc (.cells #[.int .i64 n] 3)) := (Below.refl _ _).alloc (by simp) _
      have hgb : w1.grownBy (w1.setCell ⟨w.heap.size + 1, 0, none⟩ (.int .i64 100000)) (some (w.heap.size + 1)) := grownBy_setCell' w1 (w.heap.size + 1) (.int .i64 100000)
      have hB1 : Below w.heap.size w1 (w1.setCell ⟨w.heap.size + 1, 0, none⟩ (.int .i64 100000)) := grown_below hgb (by omega) (fun k hk => by cases hk; omega)
      have hls := HoldsL.grw hl1 hgb (by omega)
      have hNs := Boxed.set (.int .i64 100000) hN1
      have hRs := hRw.below hB1 (by omega)
      have HBs := HB1.trans hB1
      have hm0 : Boxed ((w1.setCell ⟨w.heap.size + 1, 0, none⟩ (.int .i64 100000)).alloc (.cells #[.int .i64 n] 3)) w1.heap.size 3 (.int .i64 n) := by
        have := Boxed.new (w1.setCell ⟨w.heap.size + 1, 0, none⟩ (.int .i64 100000)) 3 (.int .i64 n)
        rwa [World.size_setCell] at this
      have hlA := hls.below hMA (by omega)
      have hNA := Boxed.low hNs hMA (by omega)
      have hRA := hRs.below hMA (by omega)
      have HBA := HBs.trans (hMA.mono (by omega))
      have hzA : ((w1.setCell ⟨w.heap.size + 1, 0, none⟩ (.int .i64 100000)).alloc (.cells #[.int .i64 n] 3)).heap.size = w1.heap.size + 1 := by simp
      clear hgb hB1 hl1 hN1 hR1 HB1 hRw hMA hls hNs hRs HBs
      obtain ⟨bm, hbm⟩ : ∃ bm, bm = w1.heap.size := ⟨_, rfl⟩
      have HBM := Lib.hid hbm
      clear hbm
      by_cases hnN : (n : Int) ≤ 100000
      · go_wp2_with fail
        have hbm := HBM.out
        rw [← hbm] at hm0 hzA ⊢
        have q1 : w.heap.size + 1 < bm := by omega
        have HN' := Lib.hid hN
        generalize ((w1.setCell ⟨w.heap.size + 1, 0, none⟩ (.int .i64 100000)).alloc (.cells #[.int .i64 n] 3)) = W2 at hlA hNA hRA HBA hzA hm0 ⊢
        clear hbm HBM hle1 hz1 n0 n1 c0 c1 cl hN
        refine (log_any size _).mono ?_
        rintro e w3 ⟨rfl, hb3⟩
        have hl3 := hlA.below hb3 (by omega)
        have hN3 := Boxed.low hNA hb3 (by omega)
        have hm3 := Boxed.low hm0 hb3 (by omega)
        have hR3 := hRA.below hb3 (by omega)
        have HB3 := HBA.trans (hb3.mono (by omega))
        have hz3 : bm < w3.heap.size := by have := hb3.size; omega
        clear hlA hNA hm0 hRA HBA hb3 hzA
        obtain ⟨c0, c1, cl⟩ := id hl3
        have n0 := Boxed.cell hN3
        have m0 := Boxed.cell hm3
        go_wp2_with fail
        refine (count_any (n : Int) 100000 size (by omega) hnN (by omega) (by omega) _).mono ?_
        rintro e w4 ⟨rfl, hb4⟩
        have hl4 := hl3.below hb4 (by omega)
        have hN4 := Boxed.low hN3 hb4 (by omega)
        have hm4 := Boxed.low hm3 hb4 (by omega)
        have hR4 := hR3.below hb4 (by omega)
        have HB4 := HB3.trans (hb4.mono (by omega))
        have hz4 : bm < w4.heap.size := by have := hb4.size; omega
        clear hl3 hN3 hm3 hR3 HB3 hb4 hz3 c0 c1 cl n0 m0
        obtain ⟨c0, c1, cl⟩ := id hl4
        obtain ⟨⟨x1, x2⟩, x3⟩ := cntV_in (m := n) (N := 100000) (size := size) (by omega) hnN (by omega)
        obtain ⟨x4, x5⟩ := xV_in (m := n) (N := 100000) (size := size) (by omega) hnN (by omega)
        have hxV : xV n 100000 size = cntV n 100000 size * size * ((lgV size : Nat) + 1) := rfl
        have hlv := lgV_le size
        rw [hxV] at x4 x5
        obtain ⟨x, hx⟩ : ∃ x, x = xV n 100000 size := ⟨_, rfl⟩
        rw [← hx] at hxV
        have hw1 : IntKind.i64.wrap (cntV n 100000 size * size) = cntV n 100000 size * size := by rw [IntKind.wrap_i64]; omega
        have hw2 : IntKind.i64.wrap (cntV n 100000 size * size * ((lgV size : Nat) + 1)) = x := by rw [IntKind.wrap_i64, hxV]; omega
        rw [← hxV] at x4 x5
        rw [← hx] at hCV2
        have HXV := Lib.hid hxV
        clear hxV hx
        have hx0 := Boxed.new w4 3 (.int .i64 x)
        have hXA : Below w4.heap.size w4 (w4.alloc (.cells #[.int .i64 x] 3)) := (Below.refl _ _).alloc (Nat.le_refl _) _
        have hl5 := hl4.below hXA (by omega)
        have hN5' := Boxed.low hN4 hXA (by omega)
        have hm5 := Boxed.low hm4 hXA (by omega)
        have hR5 := hR4.below hXA (by omega)
        have HB5 := HB4.trans (hXA.mono (by omega))
        have hz5 : (w4.alloc (.cells #[.int .i64 x] 3)).heap.size = w4.heap.size + 1 := by simp
        obtain ⟨bx, hbx⟩ : ∃ bx, bx = w4.heap.size := ⟨_, rfl⟩
        have HBX := Lib.hid hbx
        clear hbx hXA hl4 hN4 hm4 hR4 HB4
        generalize cntV n 100000 size = cc at *
        go_wp2_with fail
        have hbx := HBX.out
        rw [← hbx] at hx0 hz4 hz5 ⊢
        generalize (w4.alloc (.cells #[.int .i64 x] 3)) = W5 at hl5 hN5' hm5 hR5 HB5 hz5 hx0 ⊢
        clear hbx HBX c0 c1 cl hw1 hw2 HXV x1 x2 x3
        obtain ⟨c0, c1, cl⟩ := id hl5
        refine (parts_any ad n cap K L hn _ (hR5.mono HB5.size)).mono ?_
        rintro e w6 ⟨rfl, hb6⟩
        have hl6 := hl5.below hb6 (by omega)
        have hN6 := Boxed.low hN5' hb6 (by omega)
        have hm6 := Boxed.low hm5 hb6 (by omega)
        have hx6 := Boxed.low hx0 hb6 (by omega)
        have hR6 := hR5.below hb6 (by omega)
        have HB6 := HB5.trans (hb6.mono HB5.size)
        have hz6 : bx < w6.heap.size := by have := hb6.size; omega
        have hfl := frq_le L n
        have hrl := rst_le L n
        clear hl5 hN5' hm5 hR5 HB5 hb6 hz5 hx0 c0 c1 cl
        have hmm := @run_makeMap Try.prog
        have hW7 : ∃ W7, W7 = ((w6.alloc (.cells #[.int .i64 (frq L n : Nat)] 3)).alloc (.cells #[.int .i64 (rst L n : Nat)] 3)).alloc (.map #[] 0) := ⟨_, rfl⟩
        have hA7 : Below w6.heap.size w6 (((w6.alloc (.cells #[.int .i64 (frq L n : Nat)] 3)).alloc (.cells #[.int .i64 (rst L n : Nat)] 3)).alloc (.map #[] 0)) := (((Below.refl _ _).alloc (Nat.le_refl _) _).alloc (by simp) _).alloc (by simp; omega) _
        have hl7 := hl6.below hA7 (by omega)
        have hN7 := Boxed.low hN6 hA7 (by omega)
        have hm7 := Boxed.low hm6 hA7 (by omega)
        have hx7 := Boxed.low hx6 hA7 (by omega)
        have hR7 := hR6.below hA7 (by omega)
        have HB7 := HB6.trans (hA7.mono (by omega))
        have hf7 := ((Boxed.new w6 3 (.int .i64 (frq L n : Nat))).alloc (.cells #[.int .i64 (rst L n : Nat)] 3)).alloc (.map #[] 0)
        have hr7 := (Boxed.new (w6.alloc (.cells #[.int .i64 (frq L n : Nat)] 3)) 3 (.int .i64 (rst L n : Nat))).alloc (.map #[] 0)
        have hM0 := MapF.made ((w6.alloc (.cells #[.int .i64 (frq L n : Nat)] 3)).alloc (.cells #[.int .i64 (rst L n : Nat)] 3))
        have hz7 : (((w6.alloc (.cells #[.int .i64 (frq L n : Nat)] 3)).alloc (.cells #[.int .i64 (rst L n : Nat)] 3)).alloc (.map #[] 0)).heap.size = w6.heap.size + 3 := by simp
        rw [World.size_alloc] at hr7
        rw [World.size_alloc, World.size_alloc] at hM0
        clear hW7 hA7 hl6 hN6 hm6 hx6 hR6 HB6
        rw [if_pos hnN] at hCV2
        have h15 := hrg.2
        have hways : way = 1 ∨ way = 2 ∨ way = 3 ∨ way = 4 ∨ way = 5 := by omega
        have HC := Lib.hid hCV2
        clear hCV2
        rcases hways with rfl | rfl | rfl | rfl | rfl
        · go_wp2_with (first | (refine wpList_putF _ rfl _ _ _ (.inr rfl) rfl hM0 (by unfold maxLen; omega) 1 (by omega) (by omega) (.func (.func 118) #[] #[.pointer (some ⟨bm, 0, none⟩), .pointer (some ⟨w.heap.size + 1, 0, none⟩)]) rfl rfl ?_; intro v1 hM1 hg1) | (refine wpList_putF _ rfl _ _ _ (.inr rfl) rfl hM1 (by unfold maxLen; omega) 2 (by omega) (by omega) (.func (.func 119) #[] #[.pointer (some ⟨w.heap.size + 1, 0, none⟩), .pointer (some ⟨bm, 0, none⟩)]) rfl rfl ?_; intro v2 hM2 hg2) | (refine wpList_putF _ rfl _ _ _ (.inr rfl) rfl hM2 (by unfold maxLen; omega) 3 (by omega) (by omega) (.func (.func 120) #[] #[.pointer (some ⟨bx, 0, none⟩), .pointer (some ⟨w.heap.size + 1, 0, none⟩)]) rfl rfl ?_; intro v3 hM3 hg3) | (refine wpList_putF _ rfl _ _ _ (.inr rfl) rfl hM3 (by unfold maxLen; omega) 4 (by omega) (by omega) (.func (.func 121) #[] #[.pointer (some ⟨bx, 0, none⟩), .pointer (some ⟨w.heap.size + 1, 0, none⟩), .pointer (some ⟨w.heap.size, 0, none⟩)]) rfl rfl ?_; intro v4 hM4 hg4) | (refine wpList_putF _ rfl _ _ _ (.inr rfl) rfl hM4 (by unfold maxLen; omega) 5 (by omega) (by omega) (.func (.func 122) #[] #[.pointer (some ⟨bx, 0, none⟩), .pointer (some ⟨w.heap.size + 1, 0, none⟩), .pointer (some ⟨w6.heap.size, 0, none⟩), .pointer (some ⟨w6.heap.size + 1, 0, none⟩)]) rfl rfl ?_; intro v5 hM5 hg5; have hG := hg1.trans (hg2.trans (hg3.trans (hg4.trans hg5))); have lk := hM5.look 1 (by omega) (by omega); simp only [Int.reduceEq, reduceIte] at lk; have hN8 := Boxed.kept hN7 hG (by simp; omega); have hm8 := Boxed.kept hm7 hG (by simp; omega); have hx8 := Boxed.kept hx7 hG (by simp; omega); have hf8 := Boxed.kept hf7 hG (by simp <;> omega); have hr8 := Boxed.kept hr7 hG (by simp <;> omega); have hl8 := HoldsL.grw hl7 hG (by omega); have hB8 := grown_below (base := w6.heap.size) hG (by simp; omega) (fun j hj => by cases hj; omega); have z8 := hG.size; rw [hz7] at z8) | (go_at_call 118; refine (cost1_any bm (w.heap.size + 1) n 100000 (by omega) (by omega) (by omega) (by omega) _ (Boxed.cell hm8) (Boxed.cell hN8)).mono ?_; rintro e w9 ⟨rfl, hb9⟩))
          go_ret2
          rw [HC.out]
          exact ⟨rfl, HB7.trans ((hB8.mono (by omega)).trans (hb9.mono (by omega)))⟩
        · go_wp2_with (first | (refine wpList_putF _ rfl _ _ _ (.inr rfl) rfl hM0 (by unfold maxLen; omega) 1 (by omega) (by omega) (.func (.func 118) #[] #[.pointer (some ⟨bm, 0, none⟩), .pointer (some ⟨w.heap.size + 1, 0, none⟩)]) rfl rfl ?_; intro v1 hM1 hg1) | (refine wpList_putF _ rfl _ _ _ (.inr rfl) rfl hM1 (by unfold maxLen; omega) 2 (by omega) (by omega) (.func (.func 119) #[] #[.pointer (some ⟨w.heap.size + 1, 0, none⟩), .pointer (some ⟨bm, 0, none⟩)]) rfl rfl ?_; intro v2 hM2 hg2) | (refine wpList_putF _ rfl _ _ _ (.inr rfl) rfl hM2 (by unfold maxLen; omega) 3 (by omega) (by omega) (.func (.func 120) #[] #[.pointer (some ⟨bx, 0, none⟩), .pointer (some ⟨w.heap.size + 1, 0, none⟩)]) rfl rfl ?_; intro v3 hM3 hg3) | (refine wpList_putF _ rfl _ _ _ (.inr rfl) rfl hM3 (by unfold maxLen; omega) 4 (by omega) (by omega) (.func (.func 121) #[] #[.pointer (some ⟨bx, 0, none⟩), .pointer (some ⟨w.heap.size + 1, 0, none⟩), .pointer (some ⟨w.heap.size, 0, none⟩)]) rfl rfl ?_; intro v4 hM4 hg4) | (refine wpList_putF _ rfl _ _ _ (.inr rfl) rfl hM4 (by unfold maxLen; omega) 5 (by omega) (by omega) (.func (.func 122) #[] #[.pointer (some ⟨bx, 0, none⟩), .pointer (some ⟨w.heap.size + 1, 0, none⟩), .pointer (some ⟨w6.heap.size, 0, none⟩), .pointer (some ⟨w6.heap.size + 1, 0, none⟩)]) rfl rfl ?_; intro v5 hM5 hg5; have hG := hg1.trans (hg2.trans (hg3.trans (hg4.trans hg5))); have lk := hM5.look 2 (by omega) (by omega); simp only [Int.reduceEq, reduceIte] at lk; have hN8 := Boxed.kept hN7 hG (by simp; omega); have hm8 := Boxed.kept hm7 hG (by simp; omega); have hx8 := Boxed.kept hx7 hG (by simp; omega); have hf8 := Boxed.kept hf7 hG (by simp <;> omega); have hr8 := Boxed.kept hr7 hG (by simp <;> omega); have hl8 := HoldsL.grw hl7 hG (by omega); have hB8 := grown_below (base := w6.heap.size) hG (by simp; omega) (fun j hj => by cases hj; omega); have z8 := hG.size; rw [hz7] at z8) | (go_at_call 119; refine (cost2_any bm (w.heap.size + 1) n 100000 (by omega) (by omega) (by omega) (by omega) _ (Boxed.cell hm8) (Boxed.cell hN8)).mono ?_; rintro e w9 ⟨rfl, hb9⟩))
          go_ret2
          rw [HC.out]
          exact ⟨rfl, HB7.trans ((hB8.mono (by omega)).trans (hb9.mono (by omega)))⟩
        · go_wp2_with (first | (refine wpList_putF _ rfl _ _ _ (.inr rfl) rfl hM0 (by unfold maxLen; omega) 1 (by omega) (by omega) (.func (.func 118) #[] #[.pointer (some ⟨bm, 0, none⟩), .pointer (some ⟨w.heap.size + 1, 0, none⟩)]) rfl rfl ?_; intro v1 hM1 hg1) | (refine wpList_putF _ rfl _ _ _ (.inr rfl) rfl hM1 (by unfold maxLen; omega) 2 (by omega) (by omega) (.func (.func 119) #[] #[.pointer (some ⟨w.heap.size + 1, 0, none⟩), .pointer (some ⟨bm, 0, none⟩)]) rfl rfl ?_; intro v2 hM2 hg2) | (refine wpList_putF _ rfl _ _ _ (.inr rfl) rfl hM2 (by unfold maxLen; omega) 3 (by omega) (by omega) (.func (.func 120) #[] #[.pointer (some ⟨bx, 0, none⟩), .pointer (some ⟨w.heap.size + 1, 0, none⟩)]) rfl rfl ?_; intro v3 hM3 hg3) | (refine wpList_putF _ rfl _ _ _ (.inr rfl) rfl hM3 (by unfold maxLen; omega) 4 (by omega) (by omega) (.func (.func 121) #[] #[.pointer (some ⟨bx, 0, none⟩), .pointer (some ⟨w.heap.size + 1, 0, none⟩), .pointer (some ⟨w.heap.size, 0, none⟩)]) rfl rfl ?_; intro v4 hM4 hg4) | (refine wpList_putF _ rfl _ _ _ (.inr rfl) rfl hM4 (by unfold maxLen; omega) 5 (by omega) (by omega) (.func (.func 122) #[] #[.pointer (some ⟨bx, 0, none⟩), .pointer (some ⟨w.heap.size + 1, 0, none⟩), .pointer (some ⟨w6.heap.size, 0, none⟩), .pointer (some ⟨w6.heap.size + 1, 0, none⟩)]) rfl rfl ?_; intro v5 hM5 hg5; have hG := hg1.trans (hg2.trans (hg3.trans (hg4.trans hg5))); have lk := hM5.look 3 (by omega) (by omega); simp only [Int.reduceEq, reduceIte] at lk; have hN8 := Boxed.kept hN7 hG (by simp; omega); have hm8 := Boxed.kept hm7 hG (by simp; omega); have hx8 := Boxed.kept hx7 hG (by simp; omega); have hf8 := Boxed.kept hf7 hG (by simp <;> omega); have hr8 := Boxed.kept hr7 hG (by simp <;> omega); have hl8 := HoldsL.grw hl7 hG (by omega); have hB8 := grown_below (base := w6.heap.size) hG (by simp; omega) (fun j hj => by cases hj; omega); have z8 := hG.size; rw [hz7] at z8) | (go_at_call 120; refine (cost3_any bx (w.heap.size + 1) x 100000 (by omega) (by omega) (by omega) (by omega) _ (Boxed.cell hx8) (Boxed.cell hN8)).mono ?_; rintro e w9 ⟨rfl, hb9⟩))
          go_ret2
          rw [HC.out]
          exact ⟨rfl, HB7.trans ((hB8.mono (by omega)).trans (hb9.mono (by omega)))⟩
        · go_wp2_with (first | (refine wpList_putF _ rfl _ _ _ (.inr rfl) rfl hM0 (by unfold maxLen; omega) 1 (by omega) (by omega) (.func (.func 118) #[] #[.pointer (some ⟨bm, 0, none⟩), .pointer (some ⟨w.heap.size + 1, 0, none⟩)]) rfl rfl ?_; intro v1 hM1 hg1) | (refine wpList_putF _ rfl _ _ _ (.inr rfl) rfl hM1 (by unfold maxLen; omega) 2 (by omega) (by omega) (.func (.func 119) #[] #[.pointer (some ⟨w.heap.size + 1, 0, none⟩), .pointer (some ⟨bm, 0, none⟩)]) rfl rfl ?_; intro v2 hM2 hg2) | (refine wpList_putF _ rfl _ _ _ (.inr rfl) rfl hM2 (by unfold maxLen; omega) 3 (by omega) (by omega) (.func (.func 120) #[] #[.pointer (some ⟨bx, 0, none⟩), .pointer (some ⟨w.heap.size + 1, 0, none⟩)]) rfl rfl ?_; intro v3 hM3 hg3) | (refine wpList_putF _ rfl _ _ _ (.inr rfl) rfl hM3 (by unfold maxLen; omega) 4 (by omega) (by omega) (.func (.func 121) #[] #[.pointer (some ⟨bx, 0, none⟩), .pointer (some ⟨w.heap.size + 1, 0, none⟩), .pointer (some ⟨w.heap.size, 0, none⟩)]) rfl rfl ?_; intro v4 hM4 hg4) | (refine wpList_putF _ rfl _ _ _ (.inr rfl) rfl hM4 (by unfold maxLen; omega) 5 (by omega) (by omega) (.func (.func 122) #[] #[.pointer (some ⟨bx, 0, none⟩), .pointer (some ⟨w.heap.size + 1, 0, none⟩), .pointer (some ⟨w6.heap.size, 0, none⟩), .pointer (some ⟨w6.heap.size + 1, 0, none⟩)]) rfl rfl ?_; intro v5 hM5 hg5; have hG := hg1.trans (hg2.trans (hg3.trans (hg4.trans hg5))); have lk := hM5.look 4 (by omega) (by omega); simp only [Int.reduceEq, reduceIte] at lk; have hN8 := Boxed.kept hN7 hG (by simp; omega); have hm8 := Boxed.kept hm7 hG (by simp; omega); have hx8 := Boxed.kept hx7 hG (by simp; omega); have hf8 := Boxed.kept hf7 hG (by simp <;> omega); have hr8 := Boxed.kept hr7 hG (by simp <;> omega); have hl8 := HoldsL.grw hl7 hG (by omega); have hB8 := grown_below (base := w6.heap.size) hG (by simp; omega) (fun j hj => by cases hj; omega); have z8 := hG.size; rw [hz7] at z8) | (go_at_call 121; refine (cost4_any bx (w.heap.size + 1) w.heap.size x 100000 (by omega) (by omega) (by omega) (by omega) ad n cap K L hn _ ((hR7.below hB8 (by omega)).mono (by omega)) hl8 (Boxed.cell hx8) (Boxed.cell hN8) (by omega) (by omega)).mono ?_; rintro e w9 ⟨rfl, hb9⟩))
          go_ret2
          rw [HC.out]
          exact ⟨rfl, HB7.trans ((hB8.mono (by omega)).trans (hb9.mono (by omega)))⟩
        · go_wp2_with (first | (refine wpList_putF _ rfl _ _ _ (.inr rfl) rfl hM0 (by unfold maxLen; omega) 1 (by omega) (by omega) (.func (.func 118) #[] #[.pointer (some ⟨bm, 0, none⟩), .pointer (some ⟨w.heap.size + 1, 0, none⟩)]) rfl rfl ?_; intro v1 hM1 hg1) | (refine wpList_putF _ rfl _ _ _ (.inr rfl) rfl hM1 (by unfold maxLen; omega) 2 (by omega) (by omega) (.func (.func 119) #[] #[.pointer (some ⟨w.heap.size + 1, 0, none⟩), .pointer (some ⟨bm, 0, none⟩)]) rfl rfl ?_; intro v2 hM2 hg2) | (refine wpList_putF _ rfl _ _ _ (.inr rfl) rfl hM2 (by unfold maxLen; omega) 3 (by omega) (by omega) (.func (.func 120) #[] #[.pointer (some ⟨bx, 0, none⟩), .pointer (some ⟨w.heap.size + 1, 0, none⟩)]) rfl rfl ?_; intro v3 hM3 hg3) | (refine wpList_putF _ rfl _ _ _ (.inr rfl) rfl hM3 (by unfold maxLen; omega) 4 (by omega) (by omega) (.func (.func 121) #[] #[.pointer (some ⟨bx, 0, none⟩), .pointer (some ⟨w.heap.size + 1, 0, none⟩), .pointer (some ⟨w.heap.size, 0, none⟩)]) rfl rfl ?_; intro v4 hM4 hg4) | (refine wpList_putF _ rfl _ _ _ (.inr rfl) rfl hM4 (by unfold maxLen; omega) 5 (by omega) (by omega) (.func (.func 122) #[] #[.pointer (some ⟨bx, 0, none⟩), .pointer (some ⟨w.heap.size + 1, 0, none⟩), .pointer (some ⟨w6.heap.size, 0, none⟩), .pointer (some ⟨w6.heap.size + 1, 0, none⟩)]) rfl rfl ?_; intro v5 hM5 hg5; have hG := hg1.trans (hg2.trans (hg3.trans (hg4.trans hg5))); have lk := hM5.look 5 (by omega) (by omega); simp only [Int.reduceEq, reduceIte] at lk; have hN8 := Boxed.kept hN7 hG (by simp; omega); have hm8 := Boxed.kept hm7 hG (by simp; omega); have hx8 := Boxed.kept hx7 hG (by simp; omega); have hf8 := Boxed.kept hf7 hG (by simp <;> omega); have hr8 := Boxed.kept hr7 hG (by simp <;> omega); have hl8 := HoldsL.grw hl7 hG (by omega); have hB8 := grown_below (base := w6.heap.size) hG (by simp; omega) (fun j hj => by cases hj; omega); have z8 := hG.size; rw [hz7] at z8) | (go_at_call 122; refine (cost5_any bx (w.heap.size + 1) w6.heap.size (w6.heap.size + 1) x 100000 (frq L n : Nat) (rst L n : Nat) (by omega) (by omega) (by omega) (by omega) (by omega) (by omega) (by omega) (by omega) _ (Boxed.cell hx8) (Boxed.cell hN8) (Boxed.cell hf8) (Boxed.cell hr8)).mono ?_; rintro e w9 ⟨rfl, hb9⟩))
          go_ret2
          rw [HC.out]
          exact ⟨rfl, HB7.trans ((hB8.mono (by omega)).trans (hb9.mono (by omega)))⟩
      · omega
    · obtain rfl : N = nn := by rw [← hN]; exact Int.min_eq_left (by omega)
      have n0 := Boxed.cell hN1
      have n1 := Boxed.frozen hN1
      obtain ⟨c0, c1, cl⟩ := id hl1
      have hle1 : w.heap.size + 1 < w1.heap.size := by omega
      have hMA : Below w1.heap.size (w1.setCell ⟨w.heap.size + 1, 0, none⟩ (.int .i64 N)) ((w1.setCell ⟨w.heap.size + 1, 0, none⟩ (.int .i64 N)).alloc (.cells #[.int .i64 n] 3)) := (Below.refl _ _).alloc (by simp) _
      have hgb : w1.grownBy (w1.setCell ⟨w.heap.size + 1, 0, none⟩ (.int .i64 N)) (some (w.heap.size + 1)) := grownBy_setCell' w1 (w.heap.size + 1) (.int .i64 N)
      have hB1 : Below w.heap.size w1 (w1.setCell ⟨w.heap.size + 1, 0, none⟩ (.int .i64 N)) := grown_below hgb (by omega) (fun k hk => by cases hk; omega)
      have hls := HoldsL.grw hl1 hgb (by omega)
      have hNs := Boxed.set (.int .i64 N) hN1
      have hRs := hRw.below hB1 (by omega)
      have HBs := HB1.trans hB1
      have hm0 : Boxed ((w1.setCell ⟨w.heap.size + 1, 0, none⟩ (.int .i64 N)).alloc (.cells #[.int .i64 n] 3)) w1.heap.size 3 (.int .i64 n) := by
        have := Boxed.new (w1.setCell ⟨w.heap.size + 1, 0, none⟩ (.int .i64 N)) 3 (.int .i64 n)
        rwa [World.size_setCell] at this
      have hlA := hls.below hMA (by omega)
      have hNA := Boxed.low hNs hMA (by omega)
      have hRA := hRs.below hMA (by omega)
      have HBA := HBs.trans (hMA.mono (by omega))
      have hzA : ((w1.setCell ⟨w.heap.size + 1, 0, none⟩ (.int .i64 N)).alloc (.cells #[.int .i64 n] 3)).heap.size = w1.heap.size + 1 := by simp
      clear hgb hB1 hl1 hN1 hR1 HB1 hRw hMA hls hNs hRs HBs
      obtain ⟨bm, hbm⟩ : ∃ bm, bm = w1.heap.size := ⟨_, rfl⟩
      have HBM := Lib.hid hbm
      clear hbm
      by_cases hnN : (n : Int) ≤ N
      · go_wp2_with fail
        have hbm := HBM.out
        rw [← hbm] at hm0 hzA ⊢
        have q1 : w.heap.size + 1 < bm := by omega
        have HN' := Lib.hid hN
        generalize ((w1.setCell ⟨w.heap.size + 1, 0, none⟩ (.int .i64 N)).alloc (.cells #[.int .i64 n] 3)) = W2 at hlA hNA hRA HBA hzA hm0 ⊢
        clear hbm HBM hle1 hz1 n0 n1 c0 c1 cl hN
        refine (log_any size _).mono ?_
        rintro e w3 ⟨rfl, hb3⟩
        have hl3 := hlA.below hb3 (by omega)
        have hN3 := Boxed.low hNA hb3 (by omega)
        have hm3 := Boxed.low hm0 hb3 (by omega)
        have hR3 := hRA.below hb3 (by omega)
        have HB3 := HBA.trans (hb3.mono (by omega))
        have hz3 : bm < w3.heap.size := by have := hb3.size; omega
        clear hlA hNA hm0 hRA HBA hb3 hzA
        obtain ⟨c0, c1, cl⟩ := id hl3
        have n0 := Boxed.cell hN3
        have m0 := Boxed.cell hm3
        go_wp2_with fail
        refine (count_any (n : Int) N size (by omega) hnN (by omega) (by omega) _).mono ?_
        rintro e w4 ⟨rfl, hb4⟩
        have hl4 := hl3.below hb4 (by omega)
        have hN4 := Boxed.low hN3 hb4 (by omega)
        have hm4 := Boxed.low hm3 hb4 (by omega)
        have hR4 := hR3.below hb4 (by omega)
        have HB4 := HB3.trans (hb4.mono (by omega))
        have hz4 : bm < w4.heap.size := by have := hb4.size; omega
        clear hl3 hN3 hm3 hR3 HB3 hb4 hz3 c0 c1 cl n0 m0
        obtain ⟨c0, c1, cl⟩ := id hl4
        obtain ⟨⟨x1, x2⟩, x3⟩ := cntV_in (m := n) (N := N) (size := size) (by omega) hnN (by omega)
        obtain ⟨x4, x5⟩ := xV_in (m := n) (N := N) (size := size) (by omega) hnN (by omega)
        have hxV : xV n N size = cntV n N size * size * ((lgV size : Nat) + 1) := rfl
        have hlv := lgV_le size
        rw [hxV] at x4 x5
        obtain ⟨x, hx⟩ : ∃ x, x = xV n N size := ⟨_, rfl⟩
        rw [← hx] at hxV
        have hw1 : IntKind.i64.wrap (cntV n N size * size) = cntV n N size * size := by rw [IntKind.wrap_i64]; omega
        have hw2 : IntKind.i64.wrap (cntV n N size * size * ((lgV size : Nat) + 1)) = x := by rw [IntKind.wrap_i64, hxV]; omega
        rw [← hxV] at x4 x5
        rw [← hx] at hCV2
        have HXV := Lib.hid hxV
        clear hxV hx
        have hx0 := Boxed.new w4 3 (.int .i64 x)
        have hXA : Below w4.heap.size w4 (w4.alloc (.cells #[.int .i64 x] 3)) := (Below.refl _ _).alloc (Nat.le_refl _) _
        have hl5 := hl4.below hXA (by omega)
        have hN5' := Boxed.low hN4 hXA (by omega)
        have hm5 := Boxed.low hm4 hXA (by omega)
        have hR5 := hR4.below hXA (by omega)
        have HB5 := HB4.trans (hXA.mono (by omega))
        have hz5 : (w4.alloc (.cells #[.int .i64 x] 3)).heap.size = w4.heap.size + 1 := by simp
        obtain ⟨bx, hbx⟩ : ∃ bx, bx = w4.heap.size := ⟨_, rfl⟩
        have HBX := Lib.hid hbx
        clear hbx hXA hl4 hN4 hm4 hR4 HB4
        generalize cntV n N size = cc at *
        go_wp2_with fail
        have hbx := HBX.out
        rw [← hbx] at hx0 hz4 hz5 ⊢
        generalize (w4.alloc (.cells #[.int .i64 x] 3)) = W5 at hl5 hN5' hm5 hR5 HB5 hz5 hx0 ⊢
        clear hbx HBX c0 c1 cl hw1 hw2 HXV x1 x2 x3
        obtain ⟨c0, c1, cl⟩ := id hl5
        refine (parts_any ad n cap K L hn _ (hR5.mono HB5.size)).mono ?_
        rintro e w6 ⟨rfl, hb6⟩
        have hl6 := hl5.below hb6 (by omega)
        have hN6 := Boxed.low hN5' hb6 (by omega)
        have hm6 := Boxed.low hm5 hb6 (by omega)
        have hx6 := Boxed.low hx0 hb6 (by omega)
        have hR6 := hR5.below hb6 (by omega)
        have HB6 := HB5.trans (hb6.mono HB5.size)
        have hz6 : bx < w6.heap.size := by have := hb6.size; omega
        have hfl := frq_le L n
        have hrl := rst_le L n
        clear hl5 hN5' hm5 hR5 HB5 hb6 hz5 hx0 c0 c1 cl
        have hmm := @run_makeMap Try.prog
        have hW7 : ∃ W7, W7 = ((w6.alloc (.cells #[.int .i64 (frq L n : Nat)] 3)).alloc (.cells #[.int .i64 (rst L n : Nat)] 3)).alloc (.map #[] 0) := ⟨_, rfl⟩
        have hA7 : Below w6.heap.size w6 (((w6.alloc (.cells #[.int .i64 (frq L n : Nat)] 3)).alloc (.cells #[.int .i64 (rst L n : Nat)] 3)).alloc (.map #[] 0)) := (((Below.refl _ _).alloc (Nat.le_refl _) _).alloc (by simp) _).alloc (by simp; omega) _
        have hl7 := hl6.below hA7 (by omega)
        have hN7 := Boxed.low hN6 hA7 (by omega)
        have hm7 := Boxed.low hm6 hA7 (by omega)
        have hx7 := Boxed.low hx6 hA7 (by omega)
        have hR7 := hR6.below hA7 (by omega)
        have HB7 := HB6.trans (hA7.mono (by omega))
        have hf7 := ((Boxed.new w6 3 (.int .i64 (frq L n : Nat))).alloc (.cells #[.int .i64 (rst L n : Nat)] 3)).alloc (.map #[] 0)
        have hr7 := (Boxed.new (w6.alloc (.cells #[.int .i64 (frq L n : Nat)] 3)) 3 (.int .i64 (rst L n : Nat))).alloc (.map #[] 0)
        have hM0 := MapF.made ((w6.alloc (.cells #[.int .i64 (frq L n : Nat)] 3)).alloc (.cells #[.int .i64 (rst L n : Nat)] 3))
        have hz7 : (((w6.alloc (.cells #[.int .i64 (frq L n : Nat)] 3)).alloc (.cells #[.int .i64 (rst L n : Nat)] 3)).alloc (.map #[] 0)).heap.size = w6.heap.size + 3 := by simp
        rw [World.size_alloc] at hr7
        rw [World.size_alloc, World.size_alloc] at hM0
        clear hW7 hA7 hl6 hN6 hm6 hx6 hR6 HB6
        rw [if_pos hnN] at hCV2
        have h15 := hrg.2
        have hways : way = 1 ∨ way = 2 ∨ way = 3 ∨ way = 4 ∨ way = 5 := by omega
        have HC := Lib.hid hCV2
        clear hCV2
        rcases hways with rfl | rfl | rfl | rfl | rfl
        · go_wp2_with (first | (refine wpList_putF _ rfl _ _ _ (.inr rfl) rfl hM0 (by unfold maxLen; omega) 1 (by omega) (by omega) (.func (.func 118) #[] #[.pointer (some ⟨bm, 0, none⟩), .pointer (some ⟨w.heap.size + 1, 0, none⟩)]) rfl rfl ?_; intro v1 hM1 hg1) | (refine wpList_putF _ rfl _ _ _ (.inr rfl) rfl hM1 (by unfold maxLen; omega) 2 (by omega) (by omega) (.func (.func 119) #[] #[.pointer (some ⟨w.heap.size + 1, 0, none⟩), .pointer (some ⟨bm, 0, none⟩)]) rfl rfl ?_; intro v2 hM2 hg2) | (refine wpList_putF _ rfl _ _ _ (.inr rfl) rfl hM2 (by unfold maxLen; omega) 3 (by omega) (by omega) (.func (.func 120) #[] #[.pointer (some ⟨bx, 0, none⟩), .pointer (some ⟨w.heap.size + 1, 0, none⟩)]) rfl rfl ?_; intro v3 hM3 hg3) | (refine wpList_putF _ rfl _ _ _ (.inr rfl) rfl hM3 (by unfold maxLen; omega) 4 (by omega) (by omega) (.func (.func 121) #[] #[.pointer (some ⟨bx, 0, none⟩), .pointer (some ⟨w.heap.size + 1, 0, none⟩), .pointer (some ⟨w.heap.size, 0, none⟩)]) rfl rfl ?_; intro v4 hM4 hg4) | (refine wpList_putF _ rfl _ _ _ (.inr rfl) rfl hM4 (by unfold maxLen; omega) 5 (by omega) (by omega) (.func (.func 122) #[] #[.pointer (some ⟨bx, 0, none⟩), .pointer (some ⟨w.heap.size + 1, 0, none⟩), .pointer (some ⟨w6.heap.size, 0, none⟩), .pointer (some ⟨w6.heap.size + 1, 0, none⟩)]) rfl rfl ?_; intro v5 hM5 hg5; have hG := hg1.trans (hg2.trans (hg3.trans (hg4.trans hg5))); have lk := hM5.look 1 (by omega) (by omega); simp only [Int.reduceEq, reduceIte] at lk; have hN8 := Boxed.kept hN7 hG (by simp; omega); have hm8 := Boxed.kept hm7 hG (by simp; omega); have hx8 := Boxed.kept hx7 hG (by simp; omega); have hf8 := Boxed.kept hf7 hG (by simp <;> omega); have hr8 := Boxed.kept hr7 hG (by simp <;> omega); have hl8 := HoldsL.grw hl7 hG (by omega); have hB8 := grown_below (base := w6.heap.size) hG (by simp; omega) (fun j hj => by cases hj; omega); have z8 := hG.size; rw [hz7] at z8) | (go_at_call 118; refine (cost1_any bm (w.heap.size + 1) n N (by omega) (by omega) (by omega) (by omega) _ (Boxed.cell hm8) (Boxed.cell hN8)).mono ?_; rintro e w9 ⟨rfl, hb9⟩))
          go_ret2
          rw [HC.out]
          exact ⟨rfl, HB7.trans ((hB8.mono (by omega)).trans (hb9.mono (by omega)))⟩
        · go_wp2_with (first | (refine wpList_putF _ rfl _ _ _ (.inr rfl) rfl hM0 (by unfold maxLen; omega) 1 (by omega) (by omega) (.func (.func 118) #[] #[.pointer (some ⟨bm, 0, none⟩), .pointer (some ⟨w.heap.size + 1, 0, none⟩)]) rfl rfl ?_; intro v1 hM1 hg1) | (refine wpList_putF _ rfl _ _ _ (.inr rfl) rfl hM1 (by unfold maxLen; omega) 2 (by omega) (by omega) (.func (.func 119) #[] #[.pointer (some ⟨w.heap.size + 1, 0, none⟩), .pointer (some ⟨bm, 0, none⟩)]) rfl rfl ?_; intro v2 hM2 hg2) | (refine wpList_putF _ rfl _ _ _ (.inr rfl) rfl hM2 (by unfold maxLen; omega) 3 (by omega) (by omega) (.func (.func 120) #[] #[.pointer (some ⟨bx, 0, none⟩), .pointer (some ⟨w.heap.size + 1, 0, none⟩)]) rfl rfl ?_; intro v3 hM3 hg3) | (refine wpList_putF _ rfl _ _ _ (.inr rfl) rfl hM3 (by unfold maxLen; omega) 4 (by omega) (by omega) (.func (.func 121) #[] #[.pointer (some ⟨bx, 0, none⟩), .pointer (some ⟨w.heap.size + 1, 0, none⟩), .pointer (some ⟨w.heap.size, 0, none⟩)]) rfl rfl ?_; intro v4 hM4 hg4) | (refine wpList_putF _ rfl _ _ _ (.inr rfl) rfl hM4 (by unfold maxLen; omega) 5 (by omega) (by omega) (.func (.func 122) #[] #[.pointer (some ⟨bx, 0, none⟩), .pointer (some ⟨w.heap.size + 1, 0, none⟩), .pointer (some ⟨w6.heap.size, 0, none⟩), .pointer (some ⟨w6.heap.size + 1, 0, none⟩)]) rfl rfl ?_; intro v5 hM5 hg5; have hG := hg1.trans (hg2.trans (hg3.trans (hg4.trans hg5))); have lk := hM5.look 2 (by omega) (by omega); simp only [Int.reduceEq, reduceIte] at lk; have hN8 := Boxed.kept hN7 hG (by simp; omega); have hm8 := Boxed.kept hm7 hG (by simp; omega); have hx8 := Boxed.kept hx7 hG (by simp; omega); have hf8 := Boxed.kept hf7 hG (by simp <;> omega); have hr8 := Boxed.kept hr7 hG (by simp <;> omega); have hl8 := HoldsL.grw hl7 hG (by omega); have hB8 := grown_below (base := w6.heap.size) hG (by simp; omega) (fun j hj => by cases hj; omega); have z8 := hG.size; rw [hz7] at z8) | (go_at_call 119; refine (cost2_any bm (w.heap.size + 1) n N (by omega) (by omega) (by omega) (by omega) _ (Boxed.cell hm8) (Boxed.cell hN8)).mono ?_; rintro e w9 ⟨rfl, hb9⟩))
          go_ret2
          rw [HC.out]
          exact ⟨rfl, HB7.trans ((hB8.mono (by omega)).trans (hb9.mono (by omega)))⟩
        · go_wp2_with (first | (refine wpList_putF _ rfl _ _ _ (.inr rfl) rfl hM0 (by unfold maxLen; omega) 1 (by omega) (by omega) (.func (.func 118) #[] #[.pointer (some ⟨bm, 0, none⟩), .pointer (some ⟨w.heap.size + 1, 0, none⟩)]) rfl rfl ?_; intro v1 hM1 hg1) | (refine wpList_putF _ rfl _ _ _ (.inr rfl) rfl hM1 (by unfold maxLen; omega) 2 (by omega) (by omega) (.func (.func 119) #[] #[.pointer (some ⟨w.heap.size + 1, 0, none⟩), .pointer (some ⟨bm, 0, none⟩)]) rfl rfl ?_; intro v2 hM2 hg2) | (refine wpList_putF _ rfl _ _ _ (.inr rfl) rfl hM2 (by unfold maxLen; omega) 3 (by omega) (by omega) (.func (.func 120) #[] #[.pointer (some ⟨bx, 0, none⟩), .pointer (some ⟨w.heap.size + 1, 0, none⟩)]) rfl rfl ?_; intro v3 hM3 hg3) | (refine wpList_putF _ rfl _ _ _ (.inr rfl) rfl hM3 (by unfold maxLen; omega) 4 (by omega) (by omega) (.func (.func 121) #[] #[.pointer (some ⟨bx, 0, none⟩), .pointer (some ⟨w.heap.size + 1, 0, none⟩), .pointer (some ⟨w.heap.size, 0, none⟩)]) rfl rfl ?_; intro v4 hM4 hg4) | (refine wpList_putF _ rfl _ _ _ (.inr rfl) rfl hM4 (by unfold maxLen; omega) 5 (by omega) (by omega) (.func (.func 122) #[] #[.pointer (some ⟨bx, 0, none⟩), .pointer (some ⟨w.heap.size + 1, 0, none⟩), .pointer (some ⟨w6.heap.size, 0, none⟩), .pointer (some ⟨w6.heap.size + 1, 0, none⟩)]) rfl rfl ?_; intro v5 hM5 hg5; have hG := hg1.trans (hg2.trans (hg3.trans (hg4.trans hg5))); have lk := hM5.look 3 (by omega) (by omega); simp only [Int.reduceEq, reduceIte] at lk; have hN8 := Boxed.kept hN7 hG (by simp; omega); have hm8 := Boxed.kept hm7 hG (by simp; omega); have hx8 := Boxed.kept hx7 hG (by simp; omega); have hf8 := Boxed.kept hf7 hG (by simp <;> omega); have hr8 := Boxed.kept hr7 hG (by simp <;> omega); have hl8 := HoldsL.grw hl7 hG (by omega); have hB8 := grown_below (base := w6.heap.size) hG (by simp; omega) (fun j hj => by cases hj; omega); have z8 := hG.size; rw [hz7] at z8) | (go_at_call 120; refine (cost3_any bx (w.heap.size + 1) x N (by omega) (by omega) (by omega) (by omega) _ (Boxed.cell hx8) (Boxed.cell hN8)).mono ?_; rintro e w9 ⟨rfl, hb9⟩))
          go_ret2
          rw [HC.out]
          exact ⟨rfl, HB7.trans ((hB8.mono (by omega)).trans (hb9.mono (by omega)))⟩
        · go_wp2_with (first | (refine wpList_putF _ rfl _ _ _ (.inr rfl) rfl hM0 (by unfold maxLen; omega) 1 (by omega) (by omega) (.func (.func 118) #[] #[.pointer (some ⟨bm, 0, none⟩), .pointer (some ⟨w.heap.size + 1, 0, none⟩)]) rfl rfl ?_; intro v1 hM1 hg1) | (refine wpList_putF _ rfl _ _ _ (.inr rfl) rfl hM1 (by unfold maxLen; omega) 2 (by omega) (by omega) (.func (.func 119) #[] #[.pointer (some ⟨w.heap.size + 1, 0, none⟩), .pointer (some ⟨bm, 0, none⟩)]) rfl rfl ?_; intro v2 hM2 hg2) | (refine wpList_putF _ rfl _ _ _ (.inr rfl) rfl hM2 (by unfold maxLen; omega) 3 (by omega) (by omega) (.func (.func 120) #[] #[.pointer (some ⟨bx, 0, none⟩), .pointer (some ⟨w.heap.size + 1, 0, none⟩)]) rfl rfl ?_; intro v3 hM3 hg3) | (refine wpList_putF _ rfl _ _ _ (.inr rfl) rfl hM3 (by unfold maxLen; omega) 4 (by omega) (by omega) (.func (.func 121) #[] #[.pointer (some ⟨bx, 0, none⟩), .pointer (some ⟨w.heap.size + 1, 0, none⟩), .pointer (some ⟨w.heap.size, 0, none⟩)]) rfl rfl ?_; intro v4 hM4 hg4) | (refine wpList_putF _ rfl _ _ _ (.inr rfl) rfl hM4 (by unfold maxLen; omega) 5 (by omega) (by omega) (.func (.func 122) #[] #[.pointer (some ⟨bx, 0, none⟩), .pointer (some ⟨w.heap.size + 1, 0, none⟩), .pointer (some ⟨w6.heap.size, 0, none⟩), .pointer (some ⟨w6.heap.size + 1, 0, none⟩)]) rfl rfl ?_; intro v5 hM5 hg5; have hG := hg1.trans (hg2.trans (hg3.trans (hg4.trans hg5))); have lk := hM5.look 4 (by omega) (by omega); simp only [Int.reduceEq, reduceIte] at lk; have hN8 := Boxed.kept hN7 hG (by simp; omega); have hm8 := Boxed.kept hm7 hG (by simp; omega); have hx8 := Boxed.kept hx7 hG (by simp; omega); have hf8 := Boxed.kept hf7 hG (by simp <;> omega); have hr8 := Boxed.kept hr7 hG (by simp <;> omega); have hl8 := HoldsL.grw hl7 hG (by omega); have hB8 := grown_below (base := w6.heap.size) hG (by simp; omega) (fun j hj => by cases hj; omega); have z8 := hG.size; rw [hz7] at z8) | (go_at_call 121; refine (cost4_any bx (w.heap.size + 1) w.heap.size x N (by omega) (by omega) (by omega) (by omega) ad n cap K L hn _ ((hR7.below hB8 (by omega)).mono (by omega)) hl8 (Boxed.cell hx8) (Boxed.cell hN8) (by omega) (by omega)).mono ?_; rintro e w9 ⟨rfl, hb9⟩))
          go_ret2
          rw [HC.out]
          exact ⟨rfl, HB7.trans ((hB8.mono (by omega)).trans (hb9.mono (by omega)))⟩
        · go_wp2_with (first | (refine wpList_putF _ rfl _ _ _ (.inr rfl) rfl hM0 (by unfold maxLen; omega) 1 (by omega) (by omega) (.func (.func 118) #[] #[.pointer (some ⟨bm, 0, none⟩), .pointer (some ⟨w.heap.size + 1, 0, none⟩)]) rfl rfl ?_; intro v1 hM1 hg1) | (refine wpList_putF _ rfl _ _ _ (.inr rfl) rfl hM1 (by unfold maxLen; omega) 2 (by omega) (by omega) (.func (.func 119) #[] #[.pointer (some ⟨w.heap.size + 1, 0, none⟩), .pointer (some ⟨bm, 0, none⟩)]) rfl rfl ?_; intro v2 hM2 hg2) | (refine wpList_putF _ rfl _ _ _ (.inr rfl) rfl hM2 (by unfold maxLen; omega) 3 (by omega) (by omega) (.func (.func 120) #[] #[.pointer (some ⟨bx, 0, none⟩), .pointer (some ⟨w.heap.size + 1, 0, none⟩)]) rfl rfl ?_; intro v3 hM3 hg3) | (refine wpList_putF _ rfl _ _ _ (.inr rfl) rfl hM3 (by unfold maxLen; omega) 4 (by omega) (by omega) (.func (.func 121) #[] #[.pointer (some ⟨bx, 0, none⟩), .pointer (some ⟨w.heap.size + 1, 0, none⟩), .pointer (some ⟨w.heap.size, 0, none⟩)]) rfl rfl ?_; intro v4 hM4 hg4) | (refine wpList_putF _ rfl _ _ _ (.inr rfl) rfl hM4 (by unfold maxLen; omega) 5 (by omega) (by omega) (.func (.func 122) #[] #[.pointer (some ⟨bx, 0, none⟩), .pointer (some ⟨w.heap.size + 1, 0, none⟩), .pointer (some ⟨w6.heap.size, 0, none⟩), .pointer (some ⟨w6.heap.size + 1, 0, none⟩)]) rfl rfl ?_; intro v5 hM5 hg5; have hG := hg1.trans (hg2.trans (hg3.trans (hg4.trans hg5))); have lk := hM5.look 5 (by omega) (by omega); simp only [Int.reduceEq, reduceIte] at lk; have hN8 := Boxed.kept hN7 hG (by simp; omega); have hm8 := Boxed.kept hm7 hG (by simp; omega); have hx8 := Boxed.kept hx7 hG (by simp; omega); have hf8 := Boxed.kept hf7 hG (by simp <;> omega); have hr8 := Boxed.kept hr7 hG (by simp <;> omega); have hl8 := HoldsL.grw hl7 hG (by omega); have hB8 := grown_below (base := w6.heap.size) hG (by simp; omega) (fun j hj => by cases hj; omega); have z8 := hG.size; rw [hz7] at z8) | (go_at_call 122; refine (cost5_any bx (w.heap.size + 1) w6.heap.size (w6.heap.size + 1) x N (frq L n : Nat) (rst L n : Nat) (by omega) (by omega) (by omega) (by omega) (by omega) (by omega) (by omega) (by omega) _ (Boxed.cell hx8) (Boxed.cell hN8) (Boxed.cell hf8) (Boxed.cell hr8)).mono ?_; rintro e w9 ⟨rfl, hb9⟩))
          go_ret2
          rw [HC.out]
          exact ⟨rfl, HB7.trans ((hB8.mono (by omega)).trans (hb9.mono (by omega)))⟩
      · rw [if_neg hnN] at hCV2
        have HC := Lib.hid hCV2
        clear hCV2
        go_wp2
        go_ret2
        rw [HC.out]
        exact ⟨rfl, HBA⟩
end Go.Proofs.Ytkhcjjdamphbfaa
