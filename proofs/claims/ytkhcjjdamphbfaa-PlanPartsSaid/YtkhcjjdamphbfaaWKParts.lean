/- Walk of the law PlanParts. -/
import Derived.Test.YtkhcjjdamphbfaaKz
import Derived.Test.YtkhcjjdamphbfaaKq
namespace Go.Proofs.Ytkhcjjdamphbfaa
open Go.RowKit

set_option maxRecDepth 100000 in
set_option maxHeartbeats 4000000 in
theorem planParts_walk (ad : Option Addr) (n cap : Nat) (K : Int) (L : Nat → Nat → Bool) (hn : (n : Int) ≤ 4611686018427387904) (w : World) (hR : RowC w ad n L w.heap.size) :
    Calls Try.prog 32 #[lv ad n cap K] w fun e w' => e = .returned (.bool true) ∧ Below w.heap.size w w' := by
  obtain ⟨W0, hW0⟩ : ∃ W0, W0 = (w.alloc (.cells #[.slice ad n cap, .int .i64 K] 43)) := ⟨_, rfl⟩
  have HB : Below w.heap.size w W0 := by rw [hW0]; exact ((Below.refl _ _).alloc (Nat.le_refl _) _)
  have hR0 := (hR.below HB (Nat.le_refl _)).mono HB.size
  have hz0 : w.heap.size + 1 ≤ W0.heap.size := by rw [hW0]; simp
  have hl : HoldsL W0 (w.heap.size) ad n cap K := by rw [hW0]; exact ⟨by simp [go_sem], by simp [go_sem], by simp <;> omega⟩
  by_cases hf : n ≤ 100
  · have hn2 : (n : Int) ≤ 1000 := by omega
    have hp := fun w' h' => parts_any ad n cap K L hn2 w' h'
    have hd := fun w' h' => bound_any ad n cap K L (by omega) w' h'
    have hall := parts_all L n
    have hlst := pr_least (wl L n) (kindsTo L n).length
    have hlf : prF (wl L n) (kindsTo L n).length = frq L n := rfl
    rw [hlf] at hlst
    clear hlf
    have hkl := kindsTo_length L n
    have hfl := frq_le L n
    have hrl := rst_le L n
    have hbdl : boundN L n ≤ n := by unfold boundN; exact cntN_le _ _
    have hk := fun w' h' => kinds_any ad n cap K L (by omega) w' h'
    have hwln : ∀ j, wl L n j ≤ n := fun j => by unfold wl; rw [whereTo_length]; exact cntN_le _ _
    have hwld : ∀ j, wl L n j = (whereTo (gc (kindsTo L n) j) L n).length := fun j => rfl
    generalize frq L n = F at hp hlst hfl
    generalize rst L n = G at hp hall hrl
    obtain ⟨N, hN⟩ : ∃ N, N = prN (wl L n) (kindsTo L n).length := ⟨_, rfl⟩
    rw [← hN] at hall hlst
    have hbd : ((boundN L n : Nat) : Int) = (N : Int) + (G : Int) := by omega
    have hNl : N ≤ n := by omega
    have hGl : G ≤ n := by omega
    rw [hbd] at hd
    generalize wl L n = f at hN hwln hwld
    have HP := Lib.hid hp
    have HD := Lib.hid hd
    have HK := Lib.hid hk
    have HN := Lib.hid hN
    have HWD := Lib.hid hwld
    have HWN := Lib.hid hwln
    clear hp hd hk hN hwld hwln hall hbd hbdl hrl
    go_enter Try.func32, Try.ntmps32
    go_wp2_with fail
    rw [← hW0]
    clear hW0 hR
    obtain ⟨c0, c1, cl⟩ := id hl
    refine (few16_any ad n cap K hn _).mono ?_
    rw [decide_eq_true hf]
    rintro e w1 ⟨rfl, hb1⟩
    replace HB := HB.trans (hb1.mono HB.size)
    replace hR0 := (hR0.below hb1 (Nat.le_refl _)).mono hb1.size
    replace hl := hl.below hb1 hl.2.2
    clear hb1 c0 c1 cl
    obtain ⟨c0, c1, cl⟩ := id hl
    go_wp2_with fail
    refine (HP.out _ hR0).mono ?_
    rintro e w2 ⟨rfl, hb2⟩
    replace HB := HB.trans (hb2.mono HB.size)
    replace hR0 := (hR0.below hb2 (Nat.le_refl _)).mono hb2.size
    replace hl := hl.below hb2 hl.2.2
    clear hb2 c0 c1 cl
    obtain ⟨c0, c1, cl⟩ := id hl
    go_wp2_with fail
    refine (HK.out _ hR0).mono ?_
    rintro e w3 ⟨v3, rfl, ho3, hb3⟩
    obtain ⟨adk, cpk, rfl⟩ := own_slice ho3
    have hRk := rowC_of_list ho3
    replace HB := HB.trans (hb3.mono HB.size)
    replace hR0 := (hR0.below hb3 (Nat.le_refl _)).mono hb3.size
    replace hl := hl.below hb3 hl.2.2
    clear hb3 c0 c1 cl
    obtain ⟨c0, c1, cl⟩ := id hl
    obtain ⟨m, hm⟩ : ∃ m, m = (kindsTo L n).length := ⟨_, rfl⟩
    rw [← hm] at hRk hkl HN ⊢
    clear hm ho3
    go_wp2_with fail
    go_loopw [5, 21] (fun a i wr => ∃ q : Nat, q ≤ m ∧ i = .int .i64 q ∧ a = .int .i64 (prN f q : Nat) ∧ Old w3 wr) (fun _ i _ => m - (intOf i).toNat)
    case atStart => exact ⟨0, by omega, rfl, rfl, Old.refl _⟩
    case round =>
      obtain ⟨q, hq, rfl, rfl, hO⟩ := hrel
      have hlq := hl.below hO.2.2.2 hl.2.2
      have hRq := (hR0.below hO.2.2.2 (Nat.le_refl _)).mono hO.2.2.1
      have hRkq := (hRk.below hO.2.2.2 (Nat.le_refl _)).mono hO.2.2.1
      have HBq := HB.trans (hO.2.2.2.mono HB.size)
      have hf2 := prN_le f n HWN.out q
      have hf3 := HWN.out q
      clear c0 c1 cl
      obtain ⟨c0, c1, cl⟩ := id hlq
      have HO := Lib.hid hO
      clear hO hl hR0 hRk
      by_cases hlt : q < m
      · have hq1 := Nat.mul_le_mul hq (Nat.le_refl n)
        have hq2 := Nat.mul_le_mul hkl (show n ≤ 100 by omega)
        obtain ⟨b, o, rfl, hbm, e0, e1, e2, e3⟩ := hRkq.at hlt
        have hlti : (q : Int) < m := by omega
        have hA : Below wr.heap.size wr (wr.alloc (.cells #[.int .u64 (wd (gc (kindsTo L n) q) 0 : Nat), .int .u64 (wd (gc (kindsTo L n) q) 1 : Nat), .int .u64 (wd (gc (kindsTo L n) q) 2 : Nat), .int .u64 (wd (gc (kindsTo L n) q) 3 : Nat)] 26)) := (Below.refl _ _).alloc (Nat.le_refl _) _
        have hRA := (hRq.below hA (Nat.le_refl _)).mono hA.size
        have hs2 : prN f (q + 1) = prN f q + (if 3 ≤ f q then f q else 0) := rfl
        have hwq := HWD.out q
        have HA := Lib.hid hA
        have hpq : prN f q ≤ 20000 := by omega
        clear hA hRq hRkq hq1 hq2 hf2
        by_cases h3 : 3 ≤ f q
        · rw [if_pos h3] at hs2
          have h3i : (3 : Int) ≤ (f q : Nat) := by omega
          have HS2 := Lib.hid hs2
          have hw : IntKind.i64.wrap (((prN f q : Nat) : Int) + (f q : Nat)) = ((prN f q : Nat) : Int) + (f q : Nat) := by rw [IntKind.wrap_i64]; omega
          clear hs2
          go_wp2_with (go_at_call 82; refine (where_any ad n cap K L (gc (kindsTo L n) q) (by omega) _ hRA).mono ?_; rw [← hwq]; rintro e w4 ⟨v4, rfl, ho4, hb4⟩; obtain ⟨adw, cpw, rfl⟩ := own_slice ho4)
          exact ⟨⟨q + 1, by omega, by go_num, by rw [HS2.out]; go_num, HO.out.trans (Old.of (HA.out.trans (hb4.mono HA.out.size)))⟩, by simp [intOf]; omega⟩
        · rw [if_neg h3] at hs2
          have h3i : ¬ ((3 : Int) ≤ (f q : Nat)) := by omega
          have HS2 := Lib.hid hs2
          clear hs2
          go_wp2_with (go_at_call 82; refine (where_any ad n cap K L (gc (kindsTo L n) q) (by omega) _ hRA).mono ?_; rw [← hwq]; rintro e w4 ⟨v4, rfl, ho4, hb4⟩; obtain ⟨adw, cpw, rfl⟩ := own_slice ho4)
          exact ⟨⟨q + 1, by omega, by go_num, by rw [HS2.out, Nat.add_zero], HO.out.trans (Old.of (HA.out.trans (hb4.mono HA.out.size)))⟩, by simp [intOf]; omega⟩
      · obtain rfl : q = m := by omega
        have hN2 := HN.out
        rw [← hN2]
        clear hf2 hf3 hN2
        have hge : decide ((F : Int) * 3 ≤ (N : Int)) = true := decide_eq_true (by omega)
        go_wp2_with fail
        refine (alive16 _).mono ?_
        rintro e w5 ⟨rfl, hb5⟩
        have hl5 := hlq.below hb5 hlq.2.2
        have hR5 := (hRq.below hb5 (Nat.le_refl _)).mono hb5.size
        clear c0 c1 cl hlq hRq hRkq
        obtain ⟨c0, c1, cl⟩ := hl5
        go_wp2_with (first | (go_at_call 71; refine (HD.out _ hR5).mono ?_; rintro e w6 ⟨rfl, hb6⟩))
        go_ret
        exact ⟨rfl, HBq.trans ((hb5.trans (hb6.mono hb5.size)).mono HBq.size)⟩
  · go_enter Try.func32, Try.ntmps32
    go_wp2_with (first | (go_at_call 93; refine (few16_any ad n cap K hn _).mono ?_; rw [decide_eq_false hf]; rintro e w1 ⟨rfl, hb1⟩) | (go_at_call 94; refine (alive16 _).mono ?_; rintro e w2 ⟨rfl, hb2⟩))
    go_ret
    rw [hW0] at HB
    exact ⟨rfl, HB.trans ((hb1.trans (hb2.mono hb1.size)).mono HB.size)⟩
end Go.Proofs.Ytkhcjjdamphbfaa
