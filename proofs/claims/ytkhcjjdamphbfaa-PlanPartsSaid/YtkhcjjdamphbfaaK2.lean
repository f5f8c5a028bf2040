/- How a leaf's kinds are parted: walks of plan.Parts and of beagleref16.Parts. -/
import Derived.Test.YtkhcjjdamphbfaaK1
namespace Go.Proofs.Ytkhcjjdamphbfaa
open Go.RowKit

/-- How many of the first k are 3 or more. -/
def prF (f : Nat → Nat) : Nat → Nat
  | 0 => 0
  | k + 1 => prF f k + (if 3 ≤ f k then 1 else 0)
/-- The sum of the others. -/
def prR (f : Nat → Nat) : Nat → Nat
  | 0 => 0
  | k + 1 => prR f k + (if 3 ≤ f k then 0 else f k)
theorem prF_le (f : Nat → Nat) (k : Nat) : prF f k ≤ k := by
  induction k with
  | zero => exact Nat.le_refl _
  | succ k ih => simp only [prF]; split <;> omega
theorem prR_le (f : Nat → Nat) (k : Nat) : prR f k ≤ 2 * k := by
  induction k with
  | zero => exact Nat.le_refl _
  | succ k ih => simp only [prR]; split <;> omega
/-- How often kind j stands. -/
def wl (L : Nat → Nat → Bool) (n j : Nat) : Nat := (whereTo (gc (kindsTo L n) j) L n).length
/-- How many kinds are frequent, and where the others stand. -/
def frq (L : Nat → Nat → Bool) (n : Nat) : Nat := prF (wl L n) (kindsTo L n).length
def rst (L : Nat → Nat → Bool) (n : Nat) : Nat := prR (wl L n) (kindsTo L n).length
theorem frq_le (L : Nat → Nat → Bool) (n : Nat) : frq L n ≤ n := Nat.le_trans (prF_le _ _) (kindsTo_length L n)
theorem rst_le (L : Nat → Nat → Bool) (n : Nat) : rst L n ≤ 2 * n := Nat.le_trans (prR_le _ _) (Nat.mul_le_mul_left 2 (kindsTo_length L n))

set_option maxRecDepth 100000 in
set_option maxHeartbeats 4000000 in
theorem parts_any (ad : Option Addr) (n cap : Nat) (K : Int) (L : Nat → Nat → Bool) (hn : (n : Int) ≤ 1000) (w : World) (hR : RowC w ad n L w.heap.size) :
    Calls Try.prog 95 #[lv ad n cap K] w fun e w' => e = .returned (.tuple #[.int .i64 (frq L n : Nat), .int .i64 (rst L n : Nat)]) ∧ Below w.heap.size w w' := by
  have hl := HoldsL.new w ad n cap K
  have HB : Below w.heap.size w (w.alloc (.cells #[.slice ad n cap, .int .i64 K] 43)) := (Below.refl _ _).alloc (Nat.le_refl _) _
  have hR0 := (hR.below HB (Nat.le_refl _)).mono HB.size
  obtain ⟨FR, hFR⟩ : ∃ x, x = frq L n := ⟨_, rfl⟩
  obtain ⟨RS, hRS⟩ : ∃ x, x = rst L n := ⟨_, rfl⟩
  rw [← hFR, ← hRS]
  have HF : Hid (FR = prF (wl L n) (kindsTo L n).length) := Lib.hid hFR
  have HS : Hid (RS = prR (wl L n) (kindsTo L n).length) := Lib.hid hRS
  clear hFR hRS
  go_enter Try.func95, Try.ntmps95
  go_wp2_with fail
  refine (kinds_any ad n cap K L (by omega) _ hR0).mono ?_
  rintro e w2 ⟨v2, rfl, ho2, hb2⟩
  obtain ⟨adk, cpk, rfl⟩ := own_slice ho2
  have hl2 := hl.below hb2 hl.2.2
  have hR2 := (hR0.below hb2 (Nat.le_refl _)).mono hb2.size
  have HB2 := HB.trans (hb2.mono HB.size)
  have hRk := rowC_of_list ho2
  have hkl := kindsTo_length L n
  have hwln : ∀ j, wl L n j ≤ n := fun j => by unfold wl; rw [whereTo_length]; exact cntN_le _ _
  have hwld : ∀ j, wl L n j = (whereTo (gc (kindsTo L n) j) L n).length := fun j => rfl
  generalize wl L n = f at HF HS hwln hwld
  have HWD := Lib.hid hwld
  have HWN := Lib.hid hwln
  obtain ⟨m, hm⟩ : ∃ m, m = (kindsTo L n).length := ⟨_, rfl⟩
  rw [← hm] at hRk hkl HF HS ⊢
  clear hm hwln hwld ho2 hb2 hl hR0 HB
  go_wp2_with fail
  go_loopw [4, 5, 12] (fun a b i wr => ∃ q : Nat, q ≤ m ∧ i = .int .i64 q ∧ a = .int .i64 (prF f q : Nat) ∧ b = .int .i64 (prR f q : Nat) ∧ Old w2 wr) (fun _ _ i _ => m - (intOf i).toNat)
  case atStart => exact ⟨0, by omega, rfl, rfl, rfl, Old.refl _⟩
  case round =>
    obtain ⟨q, hq, rfl, rfl, rfl, hO⟩ := hrel
    have hlq := hl2.below hO.2.2.2 hl2.2.2
    have hRq := (hR2.below hO.2.2.2 (Nat.le_refl _)).mono hO.2.2.1
    have hRkq := (hRk.below hO.2.2.2 (Nat.le_refl _)).mono hO.2.2.1
    have hf1 := prF_le f q
    have hf2 := prR_le f q
    have hf3 := HWN.out q
    obtain ⟨c0, c1, cl⟩ := hlq
    have HO := Lib.hid hO
    clear hO hl2 hR2 hRk
    by_cases hlt : q < m
    · obtain ⟨b, o, rfl, hbm, e0, e1, e2, e3⟩ := hRkq.at hlt
      have hlti : (q : Int) < m := by omega
      have hA : Below wr.heap.size wr (wr.alloc (.cells #[.int .u64 (wd (gc (kindsTo L n) q) 0 : Nat), .int .u64 (wd (gc (kindsTo L n) q) 1 : Nat), .int .u64 (wd (gc (kindsTo L n) q) 2 : Nat), .int .u64 (wd (gc (kindsTo L n) q) 3 : Nat)] 26)) := (Below.refl _ _).alloc (Nat.le_refl _) _
      have hRA := (hRq.below hA (Nat.le_refl _)).mono hA.size
      have hs1 : prF f (q + 1) = prF f q + (if 3 ≤ f q then 1 else 0) := rfl
      have hs2 : prR f (q + 1) = prR f q + (if 3 ≤ f q then 0 else f q) := rfl
      have hwp := Lib.hid (fun w' h' => where_any (some ⟨b, o, none⟩) n cap K L (gc (kindsTo L n) q) (by omega) w' h')
      clear hwp
      have hwq := HWD.out q
      have HA := Lib.hid hA
      clear hA hRq hRkq
      by_cases h3 : 3 ≤ f q
      · rw [if_pos h3] at hs1 hs2
        have h3i : (3 : Int) ≤ (f q : Nat) := by omega
        have HS1 := Lib.hid hs1
        have HS2 := Lib.hid hs2
        clear hs1 hs2
        go_wp2_with (go_at_call 82; refine (where_any ad n cap K L (gc (kindsTo L n) q) (by omega) _ hRA).mono ?_; rw [← hwq]; rintro e w4 ⟨v4, rfl, ho4, hb4⟩; obtain ⟨adw, cpw, rfl⟩ := own_slice ho4)
        exact ⟨⟨q + 1, by omega, by go_num, by rw [HS1.out]; go_num, by rw [HS2.out, Nat.add_zero], HO.out.trans (Old.of (HA.out.trans (hb4.mono HA.out.size)))⟩, by simp [intOf]; omega⟩
      · rw [if_neg h3] at hs1 hs2
        have h3i : ¬ ((3 : Int) ≤ (f q : Nat)) := by omega
        have HS1 := Lib.hid hs1
        have HS2 := Lib.hid hs2
        have hw : IntKind.i64.wrap (((prR f q : Nat) : Int) + (f q : Nat)) = ((prR f q : Nat) : Int) + (f q : Nat) := by rw [IntKind.wrap_i64]; omega
        clear hs1 hs2
        go_wp2_with (go_at_call 82; refine (where_any ad n cap K L (gc (kindsTo L n) q) (by omega) _ hRA).mono ?_; rw [← hwq]; rintro e w4 ⟨v4, rfl, ho4, hb4⟩; obtain ⟨adw, cpw, rfl⟩ := own_slice ho4)
        exact ⟨⟨q + 1, by omega, by go_num, by rw [HS1.out, Nat.add_zero], by rw [HS2.out]; go_num, HO.out.trans (Old.of (HA.out.trans (hb4.mono HA.out.size)))⟩, by simp [intOf]; omega⟩
    · obtain rfl : q = m := by omega
      go_wp2
      go_ret2
      rw [HF.out, HS.out]
      exact ⟨rfl, HB2.trans (HO.out.2.2.2.mono HB2.size)⟩
set_option maxRecDepth 100000 in
set_option maxHeartbeats 4000000 in
theorem rparts_any (ad : Option Addr) (n cap : Nat) (K : Int) (L : Nat → Nat → Bool) (hn : (n : Int) ≤ 1000) (w : World) (hR : RowC w ad n L w.heap.size) :
    Calls Try.prog 96 #[lv ad n cap K] w fun e w' => e = .returned (.tuple #[.int .i64 (frq L n : Nat), .int .i64 (rst L n : Nat)]) ∧ Below w.heap.size w w' := by
  have hl := HoldsL.new w ad n cap K
  have HB : Below w.heap.size w (w.alloc (.cells #[.slice ad n cap, .int .i64 K] 43)) := (Below.refl _ _).alloc (Nat.le_refl _) _
  have hR0 := (hR.below HB (Nat.le_refl _)).mono HB.size
  obtain ⟨FR, hFR⟩ : ∃ x, x = frq L n := ⟨_, rfl⟩
  obtain ⟨RS, hRS⟩ : ∃ x, x = rst L n := ⟨_, rfl⟩
  rw [← hFR, ← hRS]
  have HF : Hid (FR = prF (wl L n) (kindsTo L n).length) := Lib.hid hFR
  have HS : Hid (RS = prR (wl L n) (kindsTo L n).length) := Lib.hid hRS
  clear hFR hRS
  go_enter Try.func96, Try.ntmps96
  go_wp2_with fail
  refine (rkinds_any ad n cap K L (by omega) _ hR0).mono ?_
  rintro e w2 ⟨v2, rfl, ho2, hb2⟩
  obtain ⟨adk, cpk, rfl⟩ := own_slice ho2
  have hl2 := hl.below hb2 hl.2.2
  have hR2 := (hR0.below hb2 (Nat.le_refl _)).mono hb2.size
  have HB2 := HB.trans (hb2.mono HB.size)
  have hRk := rowC_of_list ho2
  have hkl := kindsTo_length L n
  have hwln : ∀ j, wl L n j ≤ n := fun j => by unfold wl; rw [whereTo_length]; exact cntN_le _ _
  have hwld : ∀ j, wl L n j = (whereTo (gc (kindsTo L n) j) L n).length := fun j => rfl
  generalize wl L n = f at HF HS hwln hwld
  have HWD := Lib.hid hwld
  have HWN := Lib.hid hwln
  obtain ⟨m, hm⟩ : ∃ m, m = (kindsTo L n).length := ⟨_, rfl⟩
  rw [← hm] at hRk hkl HF HS ⊢
  clear hm hwln hwld ho2 hb2 hl hR0 HB
  go_wp2_with fail
  go_loopw [5, 6, 7] (fun a b i wr => ∃ q : Nat, q ≤ m ∧ i = .int .i64 q ∧ a = .int .i64 (prF f q : Nat) ∧ b = .int .i64 (prR f q : Nat) ∧ Old w2 wr) (fun _ _ i _ => m - (intOf i).toNat)
  case atStart => exact ⟨0, by omega, rfl, rfl, rfl, Old.refl _⟩
  case round =>
    obtain ⟨q, hq, rfl, rfl, rfl, hO⟩ := hrel
    have hlq := hl2.below hO.2.2.2 hl2.2.2
    have hRq := (hR2.below hO.2.2.2 (Nat.le_refl _)).mono hO.2.2.1
    have hRkq := (hRk.below hO.2.2.2 (Nat.le_refl _)).mono hO.2.2.1
    have hf1 := prF_le f q
    have hf2 := prR_le f q
    have hf3 := HWN.out q
    obtain ⟨c0, c1, cl⟩ := hlq
    have HO := Lib.hid hO
    clear hO hl2 hR2 hRk
    by_cases hlt : q < m
    · obtain ⟨b, o, rfl, hbm, e0, e1, e2, e3⟩ := hRkq.at hlt
      have hlti : (q : Int) < m := by omega
      have hRA := hRq
      have hs1 : prF f (q + 1) = prF f q + (if 3 ≤ f q then 1 else 0) := rfl
      have hs2 : prR f (q + 1) = prR f q + (if 3 ≤ f q then 0 else f q) := rfl
      have hq0 : (0 : Int) ≤ q := by omega
      have hwq := HWD.out q
      clear hRkq
      by_cases h3 : 3 ≤ f q
      · rw [if_pos h3] at hs1 hs2
        have h3i : (3 : Int) ≤ (f q : Nat) := by omega
        have HS1 := Lib.hid hs1
        have HS2 := Lib.hid hs2
        clear hs1 hs2
        go_wp2_with fail
        go_region_held3 (fun w' => Old wr w') (first | with_reducible exact Old.start _ | with_reducible exact Old.calld (Old.refl _) (by assumption) | with_reducible exact Old.call (by assumption) (by assumption)) (first | (go_at_call 83; refine (rwhere_any ad n cap K L (gc (kindsTo L n) q) (by omega) _ ((hRA.below (show Old wr _ by with_reducible assumption).2.2.2 (Nat.le_refl _)).mono (show Old wr _ by with_reducible assumption).2.2.1)).mono ?_; rw [← hwq]; rintro e w4 ⟨v4, rfl, ho4, hb4⟩; obtain ⟨adw, cpw, rfl⟩ := own_slice ho4))
        go_wp2
        exact ⟨⟨q + 1, by omega, by go_num, by rw [HS1.out]; go_num, by rw [HS2.out, Nat.add_zero], HO.out.trans (show Old wr _ by assumption)⟩, by simp [intOf]; omega⟩
      · rw [if_neg h3] at hs1 hs2
        have h3i : ¬ ((3 : Int) ≤ (f q : Nat)) := by omega
        have HS1 := Lib.hid hs1
        have HS2 := Lib.hid hs2
        have hw : IntKind.i64.wrap (((prR f q : Nat) : Int) + (f q : Nat)) = ((prR f q : Nat) : Int) + (f q : Nat) := by rw [IntKind.wrap_i64]; omega
        clear hs1 hs2
        go_wp2_with fail
        go_region_held3 (fun w' => Old wr w') (first | with_reducible exact Old.start _ | with_reducible exact Old.calld (Old.refl _) (by assumption) | with_reducible exact Old.call (by assumption) (by assumption)) (first | (go_at_call 83; refine (rwhere_any ad n cap K L (gc (kindsTo L n) q) (by omega) _ ((hRA.below (show Old wr _ by with_reducible assumption).2.2.2 (Nat.le_refl _)).mono (show Old wr _ by with_reducible assumption).2.2.1)).mono ?_; rw [← hwq]; rintro e w4 ⟨v4, rfl, ho4, hb4⟩; obtain ⟨adw, cpw, rfl⟩ := own_slice ho4))
        go_wp2
        exact ⟨⟨q + 1, by omega, by go_num, by rw [HS1.out, Nat.add_zero], by rw [HS2.out]; go_num, HO.out.trans (show Old wr _ by assumption)⟩, by simp [intOf]; omega⟩
    · obtain rfl : q = m := by omega
      go_wp2
      go_ret2
      rw [HF.out, HS.out]
      exact ⟨rfl, HB2.trans (HO.out.2.2.2.mono HB2.size)⟩
end Go.Proofs.Ytkhcjjdamphbfaa
