/- The best way: walks of plan.Choose and of beagleref16.Choose; walk of beaglelaw16.few. -/
import Derived.Test.YtkhcjjdamphbfaaK8
import Derived.Test.YtkhcjjdamphbfaaKp
namespace Go.Proofs.Ytkhcjjdamphbfaa
open Go.RowKit

set_option maxRecDepth 100000 in
theorem few16_any (ad : Option Addr) (n cap : Nat) (K : Int) (hn : (n : Int) ≤ 4611686018427387904) (w : World) :
    Calls Try.prog 93 #[lv ad n cap K] w fun e w' => e = .returned (.bool (decide (n ≤ 100))) ∧ Below w.heap.size w w' := by
  have HB : Below w.heap.size w (w.alloc (.cells #[.slice ad n cap, .int .i64 K] 43)) := (Below.refl _ _).alloc (Nat.le_refl _) _
  go_enter Try.func93, Try.ntmps93
  go_wp2
  go_ret
  exact ⟨by simp; omega, HB⟩
theorem telC (C : Nat) (way : Int) (ad : Option Addr) (n cap : Nat) (K : Int) (L : Nat → Nat → Bool) (nn size : Int) (w : World)
    (h : Calls Try.prog C #[.int .i64 way, lv ad n cap K, .int .i64 nn, .int .i64 size] w fun e w' => e = .returned (.tuple #[.int .i64 (if sdB way nn size K L n then costV way nn size L n else 0), .bool (sdB way nn size K L n)]) ∧ Below w.heap.size w w') :
    Calls Try.prog C #[.int .i64 way, lv ad n cap K, .int .i64 nn, .int .i64 size] w fun e w' => e = .returned (.tuple #[.int .i64 (tel nn size K L n way), .bool (sdF nn size K L n way)]) ∧ Below w.heap.size w w' := h

set_option maxRecDepth 100000 in
set_option maxHeartbeats 4000000 in
theorem choose_any (ad : Option Addr) (n cap : Nat) (K : Int) (L : Nat → Nat → Bool) (hn : (n : Int) ≤ 1000) (nn size : Int) (w : World) (hR : RowC w ad n L w.heap.size) :
    Calls Try.prog 103 #[lv ad n cap K, .int .i64 nn, .int .i64 size] w fun e w' => e = .returned (.int .i64 (bestV nn size K L n)) ∧ Below w.heap.size w w' := by
  have hl := HoldsL.new w ad n cap K
  have HB : Below w.heap.size w (w.alloc (.cells #[.slice ad n cap, .int .i64 K] 43)) := (Below.refl _ _).alloc (Nat.le_refl _) _
  have hR0 := (hR.below HB (Nat.le_refl _)).mono HB.size
  have hc := fun way w' h' => telC 101 way ad n cap K L nn size w' (cost_any way ad n cap K L hn nn size w' h')
  unfold bestV
  generalize sdF nn size K L n = s at hc
  generalize tel nn size K L n = c at hc
  have HC := Lib.hid hc
  clear hc
  go_enter Try.func103, Try.ntmps103
  go_wp2_with fail
  generalize hW : w.alloc (.cells #[.slice ad n cap, .int .i64 K] 43) = W0 at hl HB hR0 ⊢
  clear hW hR
  go_loopw [7, 8, 9] (fun b m i wr => ∃ k : Nat, k ≤ 5 ∧ i = .int .i64 ((k : Int) + 1) ∧ b = .int .i64 (chs s c k).1 ∧ m = .int .i64 (chs s c k).2 ∧ Old W0 wr) (fun _ _ i _ => 6 - (intOf i).toNat)
  case atStart => exact ⟨0, by omega, rfl, rfl, rfl, Old.refl _⟩
  case round =>
    obtain ⟨k, hk, rfl, rfl, rfl, hO⟩ := hrel
    have hlq := hl.below hO.2.2.2 hl.2.2
    have hRq := (hR0.below hO.2.2.2 (Nat.le_refl _)).mono hO.2.2.1
    obtain ⟨c0, c1, cl⟩ := hlq
    have HO := Lib.hid hO
    have HNx : Hid (chs s c (k + 1) = if s ((k : Int) + 1) && (decide ((chs s c k).1 = 0) || decide (c ((k : Int) + 1) < (chs s c k).2)) then ((k : Int) + 1, c ((k : Int) + 1)) else chs s c k) := Lib.hid rfl
    clear hO hl hR0
    by_cases hlt : k < 5
    · have hlti : (k : Int) + 1 ≤ 5 := by omega
      obtain ⟨P, hP⟩ : ∃ P, P = chs s c k := ⟨_, rfl⟩
      rw [← hP] at HNx ⊢
      clear hP
      obtain ⟨B, M⟩ := P
      dsimp only at HNx ⊢
      cases hs : s ((k : Int) + 1)
      · rw [hs, Bool.false_and, if_neg (by decide)] at HNx
        go_wp2_with (first | (go_at_call 101; refine (HC.out ((k : Int) + 1) _ hRq).mono ?_; rintro e w4 ⟨rfl, hb4⟩))
        exact ⟨⟨k + 1, by omega, by go_num, by rw [HNx.out], by rw [HNx.out], HO.out.trans (Old.of hb4)⟩, by simp [intOf]; omega⟩
      · rw [hs, Bool.true_and] at HNx
        by_cases hB : B = 0
        · subst hB
          rw [decide_eq_true rfl, Bool.true_or, if_pos rfl] at HNx
          go_wp2_with (first | (go_at_call 101; refine (HC.out ((k : Int) + 1) _ hRq).mono ?_; rintro e w4 ⟨rfl, hb4⟩))
          exact ⟨⟨k + 1, by omega, by go_num, by rw [HNx.out], by rw [HNx.out], HO.out.trans (Old.of hb4)⟩, by simp [intOf]; omega⟩
        · have hB1 : (B == 0) = false := by rw [beq_eq_false_iff_ne]; exact hB
          rw [decide_eq_false hB, Bool.false_or] at HNx
          clear hB
          by_cases hM : c ((k : Int) + 1) < M
          · have hM1 : decide (c ((k : Int) + 1) < M) = true := decide_eq_true hM
            rw [hM1, if_pos rfl] at HNx
            go_wp2_with (first | (go_at_call 101; refine (HC.out ((k : Int) + 1) _ hRq).mono ?_; rintro e w4 ⟨rfl, hb4⟩))
            exact ⟨⟨k + 1, by omega, by go_num, by rw [HNx.out], by rw [HNx.out], HO.out.trans (Old.of hb4)⟩, by simp [intOf]; omega⟩
          · have hM1 : decide (c ((k : Int) + 1) < M) = false := decide_eq_false hM
            rw [hM1, if_neg (by decide)] at HNx
            go_wp2_with (first | (go_at_call 101; refine (HC.out ((k : Int) + 1) _ hRq).mono ?_; rintro e w4 ⟨rfl, hb4⟩))
            exact ⟨⟨k + 1, by omega, by go_num, by rw [HNx.out], by rw [HNx.out], HO.out.trans (Old.of hb4)⟩, by simp [intOf]; omega⟩
    · obtain rfl : k = 5 := by omega
      go_wp2
      go_ret
      exact ⟨rfl, HB.trans (HO.out.2.2.2.mono HB.size)⟩

set_option maxRecDepth 100000 in
set_option maxHeartbeats 4000000 in
theorem rchoose_any (ad : Option Addr) (n cap : Nat) (K : Int) (L : Nat → Nat → Bool) (hn : (n : Int) ≤ 1000) (nn size : Int) (w : World) (hR : RowC w ad n L w.heap.size) :
    Calls Try.prog 104 #[lv ad n cap K, .int .i64 nn, .int .i64 size] w fun e w' => e = .returned (.int .i64 (bestV nn size K L n)) ∧ Below w.heap.size w w' := by
  have hl := HoldsL.new w ad n cap K
  have HB : Below w.heap.size w (w.alloc (.cells #[.slice ad n cap, .int .i64 K] 43)) := (Below.refl _ _).alloc (Nat.le_refl _) _
  have hR0 := (hR.below HB (Nat.le_refl _)).mono HB.size
  have hc := fun way w' h' => telC 102 way ad n cap K L nn size w' (rcost_any way ad n cap K L hn nn size w' h')
  unfold bestV
  generalize sdF nn size K L n = s at hc
  generalize tel nn size K L n = c at hc
  have HC := Lib.hid hc
  clear hc
  go_enter Try.func104, Try.ntmps104
  go_wp2_with fail
  generalize hW : w.alloc (.cells #[.slice ad n cap, .int .i64 K] 43) = W0 at hl HB hR0 ⊢
  clear hW hR
  go_loopw [7, 8, 9] (fun b m i wr => ∃ k : Nat, k ≤ 5 ∧ i = .int .i64 ((k : Int) + 1) ∧ b = .int .i64 (chs s c k).1 ∧ m = .int .i64 (chs s c k).2 ∧ Old W0 wr) (fun _ _ i _ => 6 - (intOf i).toNat)
  case atStart => exact ⟨0, by omega, rfl, rfl, rfl, Old.refl _⟩
  case round =>
    obtain ⟨k, hk, rfl, rfl, rfl, hO⟩ := hrel
    have hlq := hl.below hO.2.2.2 hl.2.2
    have hRq := (hR0.below hO.2.2.2 (Nat.le_refl _)).mono hO.2.2.1
    obtain ⟨c0, c1, cl⟩ := hlq
    have HO := Lib.hid hO
    have HNx : Hid (chs s c (k + 1) = if s ((k : Int) + 1) && (decide ((chs s c k).1 = 0) || decide (c ((k : Int) + 1) < (chs s c k).2)) then ((k : Int) + 1, c ((k : Int) + 1)) else chs s c k) := Lib.hid rfl
    clear hO hl hR0
    by_cases hlt : k < 5
    · have hlti : (k : Int) + 1 ≤ 5 := by omega
      obtain ⟨P, hP⟩ : ∃ P, P = chs s c k := ⟨_, rfl⟩
      rw [← hP] at HNx ⊢
      clear hP
      obtain ⟨B, M⟩ := P
      dsimp only at HNx ⊢
      cases hs : s ((k : Int) + 1)
      · rw [hs, Bool.false_and, if_neg (by decide)] at HNx
        go_wp2_with (first | (go_at_call 102; refine (HC.out ((k : Int) + 1) _ hRq).mono ?_; rintro e w4 ⟨rfl, hb4⟩))
        exact ⟨⟨k + 1, by omega, by go_num, by rw [HNx.out], by rw [HNx.out], HO.out.trans (Old.of hb4)⟩, by simp [intOf]; omega⟩
      · rw [hs, Bool.true_and] at HNx
        by_cases hB : B = 0
        · subst hB
          rw [decide_eq_true rfl, Bool.true_or, if_pos rfl] at HNx
          go_wp2_with (first | (go_at_call 102; refine (HC.out ((k : Int) + 1) _ hRq).mono ?_; rintro e w4 ⟨rfl, hb4⟩))
          exact ⟨⟨k + 1, by omega, by go_num, by rw [HNx.out], by rw [HNx.out], HO.out.trans (Old.of hb4)⟩, by simp [intOf]; omega⟩
        · have hB1 : (B == 0) = false := by rw [beq_eq_false_iff_ne]; exact hB
          rw [decide_eq_false hB, Bool.false_or] at HNx
          clear hB
          by_cases hM : c ((k : Int) + 1) < M
          · have hM1 : decide (c ((k : Int) + 1) < M) = true := decide_eq_true hM
            rw [hM1, if_pos rfl] at HNx
            go_wp2_with (first | (go_at_call 102; refine (HC.out ((k : Int) + 1) _ hRq).mono ?_; rintro e w4 ⟨rfl, hb4⟩))
            exact ⟨⟨k + 1, by omega, by go_num, by rw [HNx.out], by rw [HNx.out], HO.out.trans (Old.of hb4)⟩, by simp [intOf]; omega⟩
          · have hM1 : decide (c ((k : Int) + 1) < M) = false := decide_eq_false hM
            rw [hM1, if_neg (by decide)] at HNx
            go_wp2_with (first | (go_at_call 102; refine (HC.out ((k : Int) + 1) _ hRq).mono ?_; rintro e w4 ⟨rfl, hb4⟩))
            exact ⟨⟨k + 1, by omega, by go_num, by rw [HNx.out], by rw [HNx.out], HO.out.trans (Old.of hb4)⟩, by simp [intOf]; omega⟩
    · obtain rfl : k = 5 := by omega
      go_wp2
      go_ret
      exact ⟨rfl, HB.trans (HO.out.2.2.2.mono HB.size)⟩
end Go.Proofs.Ytkhcjjdamphbfaa
