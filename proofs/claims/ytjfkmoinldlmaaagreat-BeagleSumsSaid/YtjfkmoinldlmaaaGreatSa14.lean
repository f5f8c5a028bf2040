/- The power of two that a size is: walks of ntt.Log and of beagleref02.Log. -/
import Derived.Test.YtjfkmoinldlmaaaGreatSa12
import Derived.Test.YtjfkmoinldlmaaaGreatSa11
import Derived.Test.YtjfkmoinldlmaaaGreatSa10
namespace Go.Proofs.YtjfkmoinldlmaaaGreat
open Go.RowKit

/-- Is the size so much? -/
def isPow (n : Int) (k : Nat) : Bool := decide (n = (2 : Int) ^ k)
def lgN (n : Int) : Nat := firstN (isPow n) 0 13
/-- Is it a power of two? And which one? -/
def lgB (n : Int) : Bool := decide (lgN n < 13)
def lgV (n : Int) : Nat := if lgN n < 13 then lgN n else 0
theorem lg_hit (n : Int) (k : Nat) (hk : k < 13) (hb : ∀ j, j < k → isPow n j = false) (h : isPow n k = true) : lgB n = true ∧ lgV n = k := by
  obtain ⟨a, b, c, d⟩ := firstN_spec (isPow n) 13 0
  have e : lgN n = k := by
    unfold lgN
    rcases Nat.lt_trichotomy (firstN (isPow n) 0 13) k with hl | hl | hl
    · have := c (by omega)
      rw [hb _ hl] at this
      cases this
    · exact hl
    · rw [d k (by omega) hl] at h
      cases h
  unfold lgB lgV
  rw [e, if_pos hk]
  exact ⟨decide_eq_true hk, rfl⟩
theorem lg_none (n : Int) (hb : ∀ j, j < 13 → isPow n j = false) : lgB n = false ∧ lgV n = 0 := by
  obtain ⟨a, b, c, d⟩ := firstN_spec (isPow n) 13 0
  have e : ¬ (lgN n < 13) := by
    intro hl
    unfold lgN at hl
    have := c (by omega)
    rw [hb _ hl] at this
    cases this
  unfold lgB lgV
  rw [if_neg e]
  exact ⟨decide_eq_false e, rfl⟩
theorem pow2i (k : Nat) (hk : k < 13) : (1 : Int) ≤ 2 ^ k ∧ (2 : Int) ^ k ≤ 4096 ∧ wrap64 ((2 : Int) ^ k) = 2 ^ k := by
  have : k = 0 ∨ k = 1 ∨ k = 2 ∨ k = 3 ∨ k = 4 ∨ k = 5 ∨ k = 6 ∨ k = 7 ∨ k = 8 ∨ k = 9 ∨ k = 10 ∨ k = 11 ∨ k = 12 := by omega
  rcases this with rfl | rfl | rfl | rfl | rfl | rfl | rfl | rfl | rfl | rfl | rfl | rfl | rfl <;> decide +kernel

set_option maxRecDepth 100000 in
set_option maxHeartbeats 4000000 in
theorem log_any (n : Int) (w : World) :
    Calls Tryz.prog 48 #[.int .i64 n] w fun e w' => e = .returned (.tuple #[.int .i64 (lgV n : Nat), .bool (lgB n)]) ∧ Below w.heap.size w w' := by
  have hh := Lib.hid (lg_hit n)
  have hn := Lib.hid (lg_none n)
  generalize lgB n = B at hh hn
  generalize lgV n = V at hh hn
  go_enter Tryz.func48, Tryz.ntmps48
  go_wp2_with fail
  go_loopw [5] (fun i wr => ∃ k : Nat, k ≤ 13 ∧ i = .int .i64 k ∧ Hid (∀ j, j < k → isPow n j = false) ∧ Old w wr) (fun i _ => 13 - (intOf i).toNat)
  case atStart => exact ⟨0, by omega, rfl, Lib.hid (fun j h => by omega), Old.refl _⟩
  case round =>
    obtain ⟨k, hk, rfl, hno, hO⟩ := hrel
    have HO := Lib.hid hO
    clear hO
    by_cases hlt : k < 13
    · have hlti : (k : Int) < 13 := by omega
      have hk0 : (0 : Int) ≤ k := by omega
      obtain ⟨hp1, hp2, hp3⟩ := pow2i k hlt
      cases hq : isPow n k
      · have hne : (n == (2 : Int) ^ k) = false := by unfold isPow at hq; simpa using hq
        have HN2 : Hid (∀ j, j < k + 1 → isPow n j = false) := Lib.hid fun j h2 => by
          by_cases hj : j < k
          · exact hno.out j hj
          · obtain rfl : j = k := by omega
            exact hq
        clear hq
        go_wp2
        exact ⟨⟨k + 1, by omega, by go_num, HN2, HO.out⟩, by simp [intOf]; omega⟩
      · have hne : (n == (2 : Int) ^ k) = true := by unfold isPow at hq; simpa using hq
        obtain ⟨e1, e2⟩ := hh.out k hlt hno.out hq
        have E1 := Lib.hid e1
        have E2 := Lib.hid e2
        clear hq hh hn e1 e2
        go_wp2
        go_ret2
        rw [E1.out, E2.out]
        exact ⟨rfl, HO.out.2.2.2⟩
    · obtain rfl : k = 13 := by omega
      obtain ⟨e1, e2⟩ := hn.out hno.out
      have E1 := Lib.hid e1
      have E2 := Lib.hid e2
      clear hh hn e1 e2
      go_wp2
      go_ret2
      rw [E1.out, E2.out]
      exact ⟨rfl, HO.out.2.2.2⟩

end Go.Proofs.YtjfkmoinldlmaaaGreat

/- How many transforms: walks of block.Count, of beagleref05.Count and of beagleref10.Size. -/
namespace Go.Proofs.YtjfkmoinldlmaaaGreat
open Go.RowKit

theorem lg_size {n : Int} (h : lgB n = true) : 1 ≤ n ∧ n ≤ 4096 := by
  unfold lgB at h
  rw [decide_eq_true_eq] at h
  have hc := (firstN_spec (isPow n) 13 0).2.2.1 (by unfold lgN at h; omega)
  obtain ⟨a, b, -⟩ := pow2i (lgN n) h
  change isPow n (lgN n) = true at hc
  generalize lgN n = k at a b hc
  unfold isPow at hc
  rw [decide_eq_true_eq] at hc
  omega
theorem lgV_le (n : Int) : lgV n ≤ 12 := by unfold lgV; split <;> omega
/-- May blocks be of the size? -/
def szB (m size : Int) : Bool := lgB size && decide (m ≤ size)
/-- How many transforms. -/
def cntV (m n size : Int) : Int := if szB m size then 3 + 6 * ((n - m) / (size - m + 1) + 1) else 0
theorem ceil_eq (a e : Int) (he : 1 ≤ e) : (if (a + 1) % e = 0 then (a + 1) / e else (a + 1) / e + 1) = a / e + 1 := by
  have h1 := Int.emod_add_mul_ediv a e
  have h2 := Int.emod_add_mul_ediv (a + 1) e
  have h3 := Int.emod_nonneg a (by omega : e ≠ 0)
  have h4 := Int.emod_lt_of_pos a (by omega : 0 < e)
  by_cases hm : a % e + 1 = e
  · have e1 : a + 1 = e * (a / e + 1) := by rw [Int.mul_add]; omega
    have e2 : (a + 1) % e = 0 := by rw [e1]; exact Int.mul_emod_right _ _
    have e3 : (a + 1) / e = a / e + 1 := by rw [e1]; exact Int.mul_ediv_cancel_left _ (by omega)
    rw [if_pos e2, e3]
  · have e3 : (a + 1) / e = a / e := by
      have : a + 1 = (a % e + 1) + e * (a / e) := by omega
      rw [this, Int.add_mul_ediv_left _ _ (by omega : e ≠ 0), Int.ediv_eq_zero_of_lt (by omega) (by omega)]
      omega
    have e4 : (a + 1) % e = a % e + 1 := by
      rw [e3] at h2
      omega
    rw [if_neg (by omega), e3]

set_option maxRecDepth 100000 in
theorem slides_any (m n : Int) (h1 : 1 ≤ m) (h2 : m ≤ n) (w : World) : Calls Tryz.prog 34 #[.int .i64 m, .int .i64 n] w fun e w' => e = .returned (.bool true) ∧ Below w.heap.size w w' := by
  go_enter Tryz.func34, Tryz.ntmps34
  go_wp2
  go_ret
  exact ⟨rfl, Below.refl _ _⟩
set_option maxRecDepth 100000 in
set_option maxHeartbeats 4000000 in
theorem sized_any (m size : Int) (w : World) : Calls Tryz.prog 41 #[.int .i64 m, .int .i64 size] w fun e w' => e = .returned (.bool (szB m size)) ∧ Below w.heap.size w w' := by
  unfold szB
  have hlg := fun w => log_any size w
  generalize lgB size = B at hlg
  generalize lgV size = V at hlg
  have HL := Lib.hid hlg
  clear hlg
  obtain ⟨D, hD⟩ : ∃ D, D = decide (m ≤ size) := ⟨_, rfl⟩
  rw [← hD]
  cases B
  · go_enter Tryz.func41, Tryz.ntmps41
    go_wp2_with (first | (go_at_call 48; refine (HL.out _).mono ?_; rintro e w1 ⟨rfl, hb1⟩))
    go_ret
    exact ⟨rfl, hb1⟩
  · cases D
    · have hD2 : ¬ (m ≤ size) := by simpa using hD.symm
      have hD3 : decide (m ≤ size) = false := decide_eq_false hD2
      clear hD
      go_enter Tryz.func41, Tryz.ntmps41
      go_wp2_with (first | (go_at_call 48; refine (HL.out _).mono ?_; rintro e w1 ⟨rfl, hb1⟩))
      go_ret
      exact ⟨rfl, hb1⟩
    · have hD2 : m ≤ size := by simpa using hD.symm
      clear hD
      go_enter Tryz.func41, Tryz.ntmps41
      go_wp2_with (first | (go_at_call 48; refine (HL.out _).mono ?_; rintro e w1 ⟨rfl, hb1⟩))
      go_ret
      exact ⟨rfl, hb1⟩
/-- Is the size amiss? -/
def badS (m n size : Int) : Bool := decide (m ≤ n) && !szB m size
set_option maxRecDepth 100000 in
set_option maxHeartbeats 4000000 in
theorem count_any (m n size : Int) (h1 : 1 ≤ m) (h2 : m ≤ n) (h3 : m ≤ 1000) (h4 : n ≤ 100000) (w : World) : Calls Tryz.prog 14 #[.int .i64 m, .int .i64 n, .int .i64 size] w fun e w' => e = .returned (.int .i64 (cntV m n size)) ∧ Below w.heap.size w w' := by
  obtain ⟨R, hR⟩ : ∃ R, R = cntV m n size := ⟨_, rfl⟩
  rw [← hR]
  have hmin : min n 1099511627776 = n := by omega
  have hmin2 : n ≤ 1099511627776 := by omega
  unfold cntV at hR
  cases hs : szB m size
  · rw [hs] at hR
    obtain rfl : R = 0 := hR
    have HS := Lib.hid hs
    clear hs
    go_enter Tryz.func14, Tryz.ntmps14
    go_wp2_with (first | (go_at_call 34; refine (slides_any m n h1 h2 _).mono ?_; rintro e w1 ⟨rfl, hb1⟩) | (go_at_call 41; refine (sized_any m size _).mono ?_; rw [HS.out]; rintro e w2 ⟨rfl, hb2⟩))
    go_ret
    exact ⟨rfl, hb1.trans (hb2.mono hb1.size)⟩
  · rw [hs] at hR
    have HS := Lib.hid hs
    have hR' : R = 3 + 6 * ((n - m) / (size - m + 1) + 1) := hR
    have hsz : 1 ≤ size ∧ size ≤ 4096 ∧ m ≤ size := by
      unfold szB at hs
      rw [Bool.and_eq_true, decide_eq_true_eq] at hs
      obtain ⟨a, b⟩ := lg_size hs.1
      exact ⟨a, b, hs.2⟩
    obtain ⟨s1, s2, s3⟩ := hsz
    obtain ⟨q, hq⟩ : ∃ q, q = (n - m) / (size - m + 1) := ⟨_, rfl⟩
    have hq0 : 0 ≤ q := by rw [hq]; exact Int.ediv_nonneg (by omega) (by omega)
    have hq1 : q ≤ 100000 := by rw [hq]; exact Int.le_trans (Int.ediv_le_self _ (by omega)) (by omega)
    rw [← hq] at hR'
    have HR := Lib.hid hR'
    clear hR hR' hs
    go_enter Tryz.func14, Tryz.ntmps14
    go_wp2_with (first | (go_at_call 34; refine (slides_any m n h1 h2 _).mono ?_; rintro e w1 ⟨rfl, hb1⟩) | (go_at_call 41; refine (sized_any m size _).mono ?_; rw [HS.out]; rintro e w2 ⟨rfl, hb2⟩))
    go_ret
    rw [HR.out, hq]
    exact ⟨rfl, hb1.trans (hb2.mono hb1.size)⟩
end Go.Proofs.YtjfkmoinldlmaaaGreat

/- How a leaf's kinds are parted: walks of plan.Parts and of beagleref16.Parts. -/
namespace Go.Proofs.YtjfkmoinldlmaaaGreat
open Go.RowKit

/-- How many of the first k are 3 or more. -/
def prF (f : Nat → Nat) : Nat → Nat
  | 0 => 0
  | k + 1 => prF f k + (if 3 ≤ f k then 1 else 0)
/-- The sum of the others. -/
def prR (f : Nat → Nat) : Nat → Nat
  | 0 => 0
  | k + 1 => prR f k + (if 3 ≤ f k then 0 else f k)
theorem prF_le (f : Nat → Nat) (k : Nat) : prF f k ≤ k := by
  induction k with
  | zero => exact Nat.le_refl _
  | succ k ih => simp only [prF]; split <;> omega
theorem prR_le (f : Nat → Nat) (k : Nat) : prR f k ≤ 2 * k := by
  induction k with
  | zero => exact Nat.le_refl _
  | succ k ih => simp only [prR]; split <;> omega
/-- How often kind j stands. -/
def wl (L : Nat → Nat → Bool) (n j : Nat) : Nat := (whereTo (gc (kindsTo L n) j) L n).length
/-- How many kinds are frequent, and where the others stand. -/
def frq (L : Nat → Nat → Bool) (n : Nat) : Nat := prF (wl L n) (kindsTo L n).length
def rst (L : Nat → Nat → Bool) (n : Nat) : Nat := prR (wl L n) (kindsTo L n).length
theorem frq_le (L : Nat → Nat → Bool) (n : Nat) : frq L n ≤ n := Nat.le_trans (prF_le _ _) (kindsTo_length L n)
theorem rst_le (L : Nat → Nat → Bool) (n : Nat) : rst L n ≤ 2 * n := Nat.le_trans (prR_le _ _) (Nat.mul_le_mul_left 2 (kindsTo_length L n))

set_option maxRecDepth 100000 in
set_option maxHeartbeats 4000000 in
theorem parts_any (ad : Option Addr) (n cap : Nat) (K : Int) (L : Nat → Nat → Bool) (hn : (n : Int) ≤ 1000) (w : World) (hR : RowC w ad n L w.heap.size) :
    Calls Tryz.prog 137 #[lv ad n cap K] w fun e w' => e = .returned (.tuple #[.int .i64 (frq L n : Nat), .int .i64 (rst L n : Nat)]) ∧ Below w.heap.size w w' := by
  have hl := HoldsL.new w ad n cap K
  have HB : Below w.heap.size w (w.alloc (.cells #[.slice ad n cap, .int .i64 K] 52)) := (Below.refl _ _).alloc (Nat.le_refl _) _
  have hR0 := (hR.below HB (Nat.le_refl _)).mono HB.size
  obtain ⟨FR, hFR⟩ : ∃ x, x = frq L n := ⟨_, rfl⟩
  obtain ⟨RS, hRS⟩ : ∃ x, x = rst L n := ⟨_, rfl⟩
  rw [← hFR, ← hRS]
  have HF : Hid (FR = prF (wl L n) (kindsTo L n).length) := Lib.hid hFR
  have HS : Hid (RS = prR (wl L n) (kindsTo L n).length) := Lib.hid hRS
  clear hFR hRS
  go_enter Tryz.func137, Tryz.ntmps137
  go_wp2_with fail
  refine (kinds_any ad n cap K L (by omega) _ hR0).mono ?_
  rintro e w2 ⟨v2, rfl, ho2, hb2⟩
  obtain ⟨adk, cpk, rfl⟩ := own_slice ho2
  have hl2 := hl.below hb2 hl.2.2
  have hR2 := (hR0.below hb2 (Nat.le_refl _)).mono hb2.size
  have HB2 := HB.trans (hb2.mono HB.size)
  have hRk := rowC_of_list ho2
  have hkl := kindsTo_length L n
  have hwln : ∀ j, wl L n j ≤ n := fun j => by unfold wl; rw [whereTo_length]; exact cntN_le _ _
  have hwld : ∀ j, wl L n j = (whereTo (gc (kindsTo L n) j) L n).length := fun j => rfl
  generalize wl L n = f at HF HS hwln hwld
  have HWD := Lib.hid hwld
  have HWN := Lib.hid hwln
  obtain ⟨m, hm⟩ : ∃ m, m = (kindsTo L n).length := ⟨_, rfl⟩
  rw [← hm] at hRk hkl HF HS ⊢
  clear hm hwln hwld ho2 hb2 hl hR0 HB
  go_wp2_with fail
  go_loopw [4, 5, 12] (fun a b i wr => ∃ q : Nat, q ≤ m ∧ i = .int .i64 q ∧ a = .int .i64 (prF f q : Nat) ∧ b = .int .i64 (prR f q : Nat) ∧ Old w2 wr) (fun _ _ i _ => m - (intOf i).toNat)
  case atStart => exact ⟨0, by omega, rfl, rfl, rfl, Old.refl _⟩
  case round =>
    obtain ⟨q, hq, rfl, rfl, rfl, hO⟩ := hrel
    have hlq := hl2.below hO.2.2.2 hl2.2.2
    have hRq := (hR2.below hO.2.2.2 (Nat.le_refl _)).mono hO.2.2.1
    have hRkq := (hRk.below hO.2.2.2 (Nat.le_refl _)).mono hO.2.2.1
    have hf1 := prF_le f q
    have hf2 := prR_le f q
    have hf3 := HWN.out q
    obtain ⟨c0, c1, cl⟩ := hlq
    have HO := Lib.hid hO
    clear hO hl2 hR2 hRk
    by_cases hlt : q < m
    · obtain ⟨b, o, rfl, hbm, e0, e1, e2, e3⟩ := hRkq.at hlt
      have hlti : (q : Int) < m := by omega
      have hA : Below wr.heap.size wr (wr.alloc (.cells #[.int .u64 (wd (gc (kindsTo L n) q) 0 : Nat), .int .u64 (wd (gc (kindsTo L n) q) 1 : Nat), .int .u64 (wd (gc (kindsTo L n) q) 2 : Nat), .int .u64 (wd (gc (kindsTo L n) q) 3 : Nat)] 100)) := (Below.refl _ _).alloc (Nat.le_refl _) _
      have hRA := (hRq.below hA (Nat.le_refl _)).mono hA.size
      have hs1 : prF f (q + 1) = prF f q + (if 3 ≤ f q then 1 else 0) := rfl
      have hs2 : prR f (q + 1) = prR f q + (if 3 ≤ f q then 0 else f q) := rfl
      have hwp := Lib.hid (fun w' h' => where_any (some ⟨b, o, none⟩) n cap K L (gc (kindsTo L n) q) (by omega) w' h')
      clear hwp
      have hwq := HWD.out q
      have HA := Lib.hid hA
      clear hA hRq hRkq
      by_cases h3 : 3 ≤ f q
      · rw [if_pos h3] at hs1 hs2
        have h3i : (3 : Int) ≤ (f q : Nat) := by omega
        have HS1 := Lib.hid hs1
        have HS2 := Lib.hid hs2
        clear hs1 hs2
        go_wp2_with (go_at_call 180; refine (where_any ad n cap K L (gc (kindsTo L n) q) (by omega) _ hRA).mono ?_; rw [← hwq]; rintro e w4 ⟨v4, rfl, ho4, hb4⟩; obtain ⟨adw, cpw, rfl⟩ := own_slice ho4)
        exact ⟨⟨q + 1, by omega, by go_num, by rw [HS1.out]; go_num, by rw [HS2.out, Nat.add_zero], HO.out.trans (Old.of (HA.out.trans (hb4.mono HA.out.size)))⟩, by simp [intOf]; omega⟩
      · rw [if_neg h3] at hs1 hs2
        have h3i : ¬ ((3 : Int) ≤ (f q : Nat)) := by omega
        have HS1 := Lib.hid hs1
        have HS2 := Lib.hid hs2
        have hw : IntKind.i64.wrap (((prR f q : Nat) : Int) + (f q : Nat)) = ((prR f q : Nat) : Int) + (f q : Nat) := by rw [IntKind.wrap_i64]; omega
        clear hs1 hs2
        go_wp2_with (go_at_call 180; refine (where_any ad n cap K L (gc (kindsTo L n) q) (by omega) _ hRA).mono ?_; rw [← hwq]; rintro e w4 ⟨v4, rfl, ho4, hb4⟩; obtain ⟨adw, cpw, rfl⟩ := own_slice ho4)
        exact ⟨⟨q + 1, by omega, by go_num, by rw [HS1.out, Nat.add_zero], by rw [HS2.out]; go_num, HO.out.trans (Old.of (HA.out.trans (hb4.mono HA.out.size)))⟩, by simp [intOf]; omega⟩
    · obtain rfl : q = m := by omega
      go_wp2
      go_ret2
      rw [HF.out, HS.out]
      exact ⟨rfl, HB2.trans (HO.out.2.2.2.mono HB2.size)⟩
end Go.Proofs.YtjfkmoinldlmaaaGreat

/- Which ways a leaf may be found: walks of plan.Admits and of beagleref16.Admits. -/
namespace Go.Proofs.YtjfkmoinldlmaaaGreat
open Go.RowKit

/-- May the leaf be found so? -/
def admB (way K : Int) (L : Nat → Nat → Bool) (n : Nat) : Bool :=
  rightB n L K && (if way = 1 ∨ way = 4 then true else if way = 2 then lettersB L n && decide (K = 0) else if way = 3 then plainB L n && decide (K = 0) else decide (way = 5) && plainB L n)
theorem adm_no {way K : Int} {L : Nat → Nat → Bool} {n : Nat} (h : rightB n L K = false) : admB way K L n = false := by unfold admB; rw [h]; rfl
theorem adm_1 {K : Int} {L : Nat → Nat → Bool} {n : Nat} (h : rightB n L K = true) : admB 1 K L n = true := by unfold admB; rw [h, if_pos (.inl rfl)]; rfl
theorem adm_4 {K : Int} {L : Nat → Nat → Bool} {n : Nat} (h : rightB n L K = true) : admB 4 K L n = true := by unfold admB; rw [h, if_pos (.inr rfl)]; rfl
theorem adm_2 {K : Int} {L : Nat → Nat → Bool} {n : Nat} (h : rightB n L K = true) : admB 2 K L n = (lettersB L n && decide (K = 0)) := by unfold admB; rw [h, if_neg (by decide), if_pos rfl]; rfl
theorem adm_3 {K : Int} {L : Nat → Nat → Bool} {n : Nat} (h : rightB n L K = true) : admB 3 K L n = (plainB L n && decide (K = 0)) := by unfold admB; rw [h, if_neg (by decide), if_neg (by decide), if_pos rfl]; rfl
theorem adm_5 {K : Int} {L : Nat → Nat → Bool} {n : Nat} (h : rightB n L K = true) : admB 5 K L n = plainB L n := by unfold admB; rw [h, if_neg (by decide), if_neg (by decide), if_neg (by decide)]; rfl
theorem adm_o {way K : Int} {L : Nat → Nat → Bool} {n : Nat} (h1 : way ≠ 1) (h2 : way ≠ 2) (h3 : way ≠ 3) (h4 : way ≠ 4) (h5 : way ≠ 5) : admB way K L n = false := by
  unfold admB; rw [if_neg (by omega), if_neg h2, if_neg h3, decide_eq_false h5]; simp

set_option maxRecDepth 100000 in
set_option maxHeartbeats 4000000 in
theorem admits_any (way : Int) (ad : Option Addr) (n cap : Nat) (K : Int) (L : Nat → Nat → Bool) (hn : (n : Int) ≤ 1000) (w : World) (hR : RowC w ad n L w.heap.size) :
    Calls Tryz.prog 76 #[.int .i64 way, lv ad n cap K] w fun e w' => e = .returned (.bool (admB way K L n)) ∧ Below w.heap.size w w' := by
  have hl := HoldsL.new w ad n cap K
  have HB : Below w.heap.size w (w.alloc (.cells #[.slice ad n cap, .int .i64 K] 52)) := (Below.refl _ _).alloc (Nat.le_refl _) _
  have hR0 := (hR.below HB (Nat.le_refl _)).mono HB.size
  obtain ⟨R, hRV⟩ : ∃ x, x = admB way K L n := ⟨_, rfl⟩
  rw [← hRV]
  cases hri : rightB n L K
  · obtain rfl : R = false := by rw [hRV]; exact adm_no hri
    clear hRV
    go_enter Tryz.func76, Tryz.ntmps76
    go_wp2_with fail
    refine (right_any ad n cap K L (by omega) _ hR0).mono ?_
    rw [hri]
    rintro e w1 ⟨rfl, hb1⟩
    go_wp2
    go_ret
    exact ⟨rfl, HB.trans (hb1.mono HB.size)⟩
  · have HRI := Lib.hid hri
    have hkk : (decide (K = 0)) = true ∨ decide (K = 0) = false := by cases decide (K = 0) <;> simp
    have start : ∀ (way' : Int) (R' : Bool) (bl bp : Bool), bl = lettersB L n → bp = plainB L n → (R' = if way' = 1 ∨ way' = 4 then true else if way' = 2 then bl && decide (K = 0) else if way' = 3 then bp && decide (K = 0) else decide (way' = 5) && bp) →
        Calls Tryz.prog 76 #[.int .i64 way', lv ad n cap K] w fun e w' => e = .returned (.bool R') ∧ Below w.heap.size w w' := by
      intro way' R' bl bp hbl hbp hRR
      have HBL := Lib.hid hbl
      have HBP := Lib.hid hbp
      clear hbl hbp hri hRV
      have go : ∀ (Q : Bool → Prop), Q R' → Q R' := fun _ h => h
      clear go
      by_cases h1 : way' = 1
      · subst h1
        rw [if_pos (.inl rfl)] at hRR
        subst hRR
        go_enter Tryz.func76, Tryz.ntmps76
        go_wp2_with fail
        refine (right_any ad n cap K L (by omega) _ hR0).mono ?_
        rw [HRI.out]
        rintro e w1 ⟨rfl, hb1⟩
        have hl1 := hl.below hb1 hl.2.2
        have hR1 := (hR0.below hb1 (Nat.le_refl _)).mono hb1.size
        have HB1 := HB.trans (hb1.mono HB.size)
        clear hl HB hR0 hb1 hR
        obtain ⟨c0, c1, cl⟩ := id hl1
        go_wp2_with fail
        refine (letters_any ad n cap K L (by omega) _ hR1).mono ?_
        rw [← HBL.out]
        rintro e w2 ⟨rfl, hb2⟩
        have hl2 := hl1.below hb2 hl1.2.2
        have hR2 := (hR1.below hb2 (Nat.le_refl _)).mono hb2.size
        have HB2 := HB1.trans (hb2.mono HB1.size)
        clear hl1 hR1 HB1 hb2 c0 c1 cl
        generalize txt L n = tx
        obtain ⟨c0, c1, cl⟩ := id hl2
        go_wp2_with fail
        try rw [Exit.noGoto_ret]
        go_ret
        exact ⟨rfl, HB2⟩
      · by_cases h4 : way' = 4
        · subst h4
          rw [if_pos (.inr rfl)] at hRR
          subst hRR
          go_enter Tryz.func76, Tryz.ntmps76
          go_wp2_with fail
          refine (right_any ad n cap K L (by omega) _ hR0).mono ?_
          rw [HRI.out]
          rintro e w1 ⟨rfl, hb1⟩
          have hl1 := hl.below hb1 hl.2.2
          have hR1 := (hR0.below hb1 (Nat.le_refl _)).mono hb1.size
          have HB1 := HB.trans (hb1.mono HB.size)
          clear hl HB hR0 hb1 hR
          obtain ⟨c0, c1, cl⟩ := id hl1
          go_wp2_with fail
          refine (letters_any ad n cap K L (by omega) _ hR1).mono ?_
          rw [← HBL.out]
          rintro e w2 ⟨rfl, hb2⟩
          have hl2 := hl1.below hb2 hl1.2.2
          have hR2 := (hR1.below hb2 (Nat.le_refl _)).mono hb2.size
          have HB2 := HB1.trans (hb2.mono HB1.size)
          clear hl1 hR1 HB1 hb2 c0 c1 cl
          generalize txt L n = tx
          obtain ⟨c0, c1, cl⟩ := id hl2
          go_wp2_with fail
          try rw [Exit.noGoto_ret]
          go_ret
          exact ⟨rfl, HB2⟩
        · rw [if_neg (by omega)] at hRR
          by_cases h2 : way' = 2
          · subst h2
            rw [if_pos rfl] at hRR
            cases bl
            · rw [Bool.false_and] at hRR
              subst hRR
              go_enter Tryz.func76, Tryz.ntmps76
              go_wp2_with fail
              refine (right_any ad n cap K L (by omega) _ hR0).mono ?_
              rw [HRI.out]
              rintro e w1 ⟨rfl, hb1⟩
              have hl1 := hl.below hb1 hl.2.2
              have hR1 := (hR0.below hb1 (Nat.le_refl _)).mono hb1.size
              have HB1 := HB.trans (hb1.mono HB.size)
              clear hl HB hR0 hb1 hR
              obtain ⟨c0, c1, cl⟩ := id hl1
              go_wp2_with fail
              refine (letters_any ad n cap K L (by omega) _ hR1).mono ?_
              rw [← HBL.out]
              rintro e w2 ⟨rfl, hb2⟩
              have hl2 := hl1.below hb2 hl1.2.2
              have hR2 := (hR1.below hb2 (Nat.le_refl _)).mono hb2.size
              have HB2 := HB1.trans (hb2.mono HB1.size)
              clear hl1 hR1 HB1 hb2 c0 c1 cl
              generalize txt L n = tx
              obtain ⟨c0, c1, cl⟩ := id hl2
              go_wp2_with fail
              try rw [Exit.noGoto_ret]
              go_ret
              exact ⟨rfl, HB2⟩
            · rw [Bool.true_and] at hRR
              by_cases hk0 : K = 0
              · rw [decide_eq_true hk0] at hRR
                subst hRR
                subst hk0
                go_enter Tryz.func76, Tryz.ntmps76
                go_wp2_with fail
                refine (right_any ad n cap 0 L (by omega) _ hR0).mono ?_
                rw [HRI.out]
                rintro e w1 ⟨rfl, hb1⟩
                have hl1 := hl.below hb1 hl.2.2
                have hR1 := (hR0.below hb1 (Nat.le_refl _)).mono hb1.size
                have HB1 := HB.trans (hb1.mono HB.size)
                clear hl HB hR0 hb1 hR
                obtain ⟨c0, c1, cl⟩ := id hl1
                go_wp2_with fail
                refine (letters_any ad n cap 0 L (by omega) _ hR1).mono ?_
                rw [← HBL.out]
                rintro e w2 ⟨rfl, hb2⟩
                have hl2 := hl1.below hb2 hl1.2.2
                have hR2 := (hR1.below hb2 (Nat.le_refl _)).mono hb2.size
                have HB2 := HB1.trans (hb2.mono HB1.size)
                clear hl1 hR1 HB1 hb2 c0 c1 cl
                generalize txt L n = tx
                obtain ⟨c0, c1, cl⟩ := id hl2
                go_wp2_with fail
                try rw [Exit.noGoto_ret]
                go_ret
                exact ⟨rfl, HB2⟩
              · rw [decide_eq_false hk0] at hRR
                subst hRR
                have hk1 : (K == 0) = false := by rw [beq_eq_false_iff_ne]; exact hk0
                go_enter Tryz.func76, Tryz.ntmps76
                go_wp2_with fail
                refine (right_any ad n cap K L (by omega) _ hR0).mono ?_
                rw [HRI.out]
                rintro e w1 ⟨rfl, hb1⟩
                have hl1 := hl.below hb1 hl.2.2
                have hR1 := (hR0.below hb1 (Nat.le_refl _)).mono hb1.size
                have HB1 := HB.trans (hb1.mono HB.size)
                clear hl HB hR0 hb1 hR
                obtain ⟨c0, c1, cl⟩ := id hl1
                go_wp2_with fail
                refine (letters_any ad n cap K L (by omega) _ hR1).mono ?_
                rw [← HBL.out]
                rintro e w2 ⟨rfl, hb2⟩
                have hl2 := hl1.below hb2 hl1.2.2
                have hR2 := (hR1.below hb2 (Nat.le_refl _)).mono hb2.size
                have HB2 := HB1.trans (hb2.mono HB1.size)
                clear hl1 hR1 HB1 hb2 c0 c1 cl
                generalize txt L n = tx
                obtain ⟨c0, c1, cl⟩ := id hl2
                go_wp2_with fail
                try rw [Exit.noGoto_ret]
                go_ret
                exact ⟨rfl, HB2⟩
          · rw [if_neg h2] at hRR
            by_cases h3 : way' = 3
            · subst h3
              rw [if_pos rfl] at hRR
              cases bp
              · rw [Bool.false_and] at hRR
                subst hRR
                go_enter Tryz.func76, Tryz.ntmps76
                go_wp2_with fail
                refine (right_any ad n cap K L (by omega) _ hR0).mono ?_
                rw [HRI.out]
                rintro e w1 ⟨rfl, hb1⟩
                have hl1 := hl.below hb1 hl.2.2
                have hR1 := (hR0.below hb1 (Nat.le_refl _)).mono hb1.size
                have HB1 := HB.trans (hb1.mono HB.size)
                clear hl HB hR0 hb1 hR
                obtain ⟨c0, c1, cl⟩ := id hl1
                go_wp2_with fail
                refine (letters_any ad n cap K L (by omega) _ hR1).mono ?_
                rw [← HBL.out]
                rintro e w2 ⟨rfl, hb2⟩
                have hl2 := hl1.below hb2 hl1.2.2
                have hR2 := (hR1.below hb2 (Nat.le_refl _)).mono hb2.size
                have HB2 := HB1.trans (hb2.mono HB1.size)
                clear hl1 hR1 HB1 hb2 c0 c1 cl
                generalize txt L n = tx
                obtain ⟨c0, c1, cl⟩ := id hl2
                go_wp2_with (first | (go_at_call 136; refine (plain_any ad n cap K L (by omega) _ hR2).mono ?_; rw [← HBP.out];  rintro e w3 ⟨rfl, hb3⟩; have c1 : w3.cell? ⟨w.heap.size, 1, none⟩ = some (.int .i64 K) := (hb3.cell (p := ⟨w.heap.size, 1, none⟩) cl).trans c1))
                go_ret
                exact ⟨rfl, HB2.trans (hb3.mono HB2.size)⟩
              · rw [Bool.true_and] at hRR
                by_cases hk0 : K = 0
                · rw [decide_eq_true hk0] at hRR
                  subst hRR
                  subst hk0
                  go_enter Tryz.func76, Tryz.ntmps76
                  go_wp2_with fail
                  refine (right_any ad n cap 0 L (by omega) _ hR0).mono ?_
                  rw [HRI.out]
                  rintro e w1 ⟨rfl, hb1⟩
                  have hl1 := hl.below hb1 hl.2.2
                  have hR1 := (hR0.below hb1 (Nat.le_refl _)).mono hb1.size
                  have HB1 := HB.trans (hb1.mono HB.size)
                  clear hl HB hR0 hb1 hR
                  obtain ⟨c0, c1, cl⟩ := id hl1
                  go_wp2_with fail
                  refine (letters_any ad n cap 0 L (by omega) _ hR1).mono ?_
                  rw [← HBL.out]
                  rintro e w2 ⟨rfl, hb2⟩
                  have hl2 := hl1.below hb2 hl1.2.2
                  have hR2 := (hR1.below hb2 (Nat.le_refl _)).mono hb2.size
                  have HB2 := HB1.trans (hb2.mono HB1.size)
                  clear hl1 hR1 HB1 hb2 c0 c1 cl
                  generalize txt L n = tx
                  obtain ⟨c0, c1, cl⟩ := id hl2
                  go_wp2_with (first | (go_at_call 136; refine (plain_any ad n cap 0 L (by omega) _ hR2).mono ?_; rw [← HBP.out];  rintro e w3 ⟨rfl, hb3⟩; have c1 : w3.cell? ⟨w.heap.size, 1, none⟩ = some (.int .i64 0) := (hb3.cell (p := ⟨w.heap.size, 1, none⟩) cl).trans c1))
                  go_ret
                  exact ⟨rfl, HB2.trans (hb3.mono HB2.size)⟩
                · rw [decide_eq_false hk0] at hRR
                  subst hRR
                  have hk1 : (K == 0) = false := by rw [beq_eq_false_iff_ne]; exact hk0
                  go_enter Tryz.func76, Tryz.ntmps76
                  go_wp2_with fail
                  refine (right_any ad n cap K L (by omega) _ hR0).mono ?_
                  rw [HRI.out]
                  rintro e w1 ⟨rfl, hb1⟩
                  have hl1 := hl.below hb1 hl.2.2
                  have hR1 := (hR0.below hb1 (Nat.le_refl _)).mono hb1.size
                  have HB1 := HB.trans (hb1.mono HB.size)
                  clear hl HB hR0 hb1 hR
                  obtain ⟨c0, c1, cl⟩ := id hl1
                  go_wp2_with fail
                  refine (letters_any ad n cap K L (by omega) _ hR1).mono ?_
                  rw [← HBL.out]
                  rintro e w2 ⟨rfl, hb2⟩
                  have hl2 := hl1.below hb2 hl1.2.2
                  have hR2 := (hR1.below hb2 (Nat.le_refl _)).mono hb2.size
                  have HB2 := HB1.trans (hb2.mono HB1.size)
                  clear hl1 hR1 HB1 hb2 c0 c1 cl
                  generalize txt L n = tx
                  obtain ⟨c0, c1, cl⟩ := id hl2
                  go_wp2_with (first | (go_at_call 136; refine (plain_any ad n cap K L (by omega) _ hR2).mono ?_; rw [← HBP.out];  rintro e w3 ⟨rfl, hb3⟩; have c1 : w3.cell? ⟨w.heap.size, 1, none⟩ = some (.int .i64 K) := (hb3.cell (p := ⟨w.heap.size, 1, none⟩) cl).trans c1))
                  go_ret
                  exact ⟨rfl, HB2.trans (hb3.mono HB2.size)⟩
            · rw [if_neg h3] at hRR
              by_cases h5 : way' = 5
              · subst h5
                rw [decide_eq_true rfl, Bool.true_and] at hRR
                subst hRR
                go_enter Tryz.func76, Tryz.ntmps76
                go_wp2_with fail
                refine (right_any ad n cap K L (by omega) _ hR0).mono ?_
                rw [HRI.out]
                rintro e w1 ⟨rfl, hb1⟩
                have hl1 := hl.below hb1 hl.2.2
                have hR1 := (hR0.below hb1 (Nat.le_refl _)).mono hb1.size
                have HB1 := HB.trans (hb1.mono HB.size)
                clear hl HB hR0 hb1 hR
                obtain ⟨c0, c1, cl⟩ := id hl1
                go_wp2_with fail
                refine (letters_any ad n cap K L (by omega) _ hR1).mono ?_
                rw [← HBL.out]
                rintro e w2 ⟨rfl, hb2⟩
                have hl2 := hl1.below hb2 hl1.2.2
                have hR2 := (hR1.below hb2 (Nat.le_refl _)).mono hb2.size
                have HB2 := HB1.trans (hb2.mono HB1.size)
                clear hl1 hR1 HB1 hb2 c0 c1 cl
                generalize txt L n = tx
                obtain ⟨c0, c1, cl⟩ := id hl2
                go_wp2_with (first | (go_at_call 136; refine (plain_any ad n cap K L (by omega) _ hR2).mono ?_; rw [← HBP.out];  rintro e w3 ⟨rfl, hb3⟩; have c1 : w3.cell? ⟨w.heap.size, 1, none⟩ = some (.int .i64 K) := (hb3.cell (p := ⟨w.heap.size, 1, none⟩) cl).trans c1))
                go_ret
                exact ⟨rfl, HB2.trans (hb3.mono HB2.size)⟩
              · rw [decide_eq_false h5, Bool.false_and] at hRR
                subst hRR
                have e1 : (way' == 1) = false := by rw [beq_eq_false_iff_ne]; exact h1
                have e2 : (way' == 2) = false := by rw [beq_eq_false_iff_ne]; exact h2
                have e3 : (way' == 3) = false := by rw [beq_eq_false_iff_ne]; exact h3
                have e4 : (way' == 4) = false := by rw [beq_eq_false_iff_ne]; exact h4
                have e5 : (way' == 5) = false := by rw [beq_eq_false_iff_ne]; exact h5
                go_enter Tryz.func76, Tryz.ntmps76
                go_wp2_with fail
                refine (right_any ad n cap K L (by omega) _ hR0).mono ?_
                rw [HRI.out]
                rintro e w1 ⟨rfl, hb1⟩
                have hl1 := hl.below hb1 hl.2.2
                have hR1 := (hR0.below hb1 (Nat.le_refl _)).mono hb1.size
                have HB1 := HB.trans (hb1.mono HB.size)
                clear hl HB hR0 hb1 hR
                obtain ⟨c0, c1, cl⟩ := id hl1
                go_wp2_with fail
                refine (letters_any ad n cap K L (by omega) _ hR1).mono ?_
                rw [← HBL.out]
                rintro e w2 ⟨rfl, hb2⟩
                have hl2 := hl1.below hb2 hl1.2.2
                have hR2 := (hR1.below hb2 (Nat.le_refl _)).mono hb2.size
                have HB2 := HB1.trans (hb2.mono HB1.size)
                clear hl1 hR1 HB1 hb2 c0 c1 cl
                generalize txt L n = tx
                obtain ⟨c0, c1, cl⟩ := id hl2
                go_wp2_with fail
                try rw [Exit.noGoto_ret]
                go_ret
                exact ⟨rfl, HB2⟩
    refine start way R (lettersB L n) (plainB L n) rfl rfl ?_
    rw [hRV]
    unfold admB
    rw [hri, Bool.true_and]

end Go.Proofs.YtjfkmoinldlmaaaGreat

/- Whether a size may be: walks of plan.Sized and of beagleref16.Sized. -/
namespace Go.Proofs.YtjfkmoinldlmaaaGreat
open Go.RowKit

/-- Is no size asked for? -/
def frB (way : Int) (L : Nat → Nat → Bool) (n : Nat) : Bool := decide (way = 1) || (decide (way = 2) || (decide (way = 5) && decide (frq L n = 0)))
/-- May the size be? -/
def sdB (way nn size K : Int) (L : Nat → Nat → Bool) (n : Nat) : Bool := admB way K L n && (frB way L n || (decide (nn < n) || szB n size))

set_option maxRecDepth 100000 in
set_option maxHeartbeats 4000000 in
theorem szd_any (way : Int) (ad : Option Addr) (n cap : Nat) (K : Int) (L : Nat → Nat → Bool) (hn : (n : Int) ≤ 1000) (nn size : Int) (w : World) (hR : RowC w ad n L w.heap.size) :
    Calls Tryz.prog 77 #[.int .i64 way, lv ad n cap K, .int .i64 nn, .int .i64 size] w fun e w' => e = .returned (.bool (sdB way nn size K L n)) ∧ Below w.heap.size w w' := by
  have hl := HoldsL.new w ad n cap K
  have HB : Below w.heap.size w (w.alloc (.cells #[.slice ad n cap, .int .i64 K] 52)) := (Below.refl _ _).alloc (Nat.le_refl _) _
  have hR0 := (hR.below HB (Nat.le_refl _)).mono HB.size
  have ha := fun w' h' => admits_any way ad n cap K L hn w' h'
  have hp := fun w' h' => parts_any ad n cap K L hn w' h'
  have hfl := frq_le L n
  obtain ⟨R, hRV⟩ : ∃ x, x = sdB way nn size K L n := ⟨_, rfl⟩
  rw [← hRV]
  unfold sdB frB at hRV
  generalize admB way K L n = A at ha hRV
  generalize frq L n = F at hp hfl hRV
  generalize rst L n = RS at hp
  have HA := Lib.hid ha
  have HP := Lib.hid hp
  clear ha hp
  by_cases h1 : way = 1
  · subst h1
    rw [decide_eq_true rfl, Bool.true_or, Bool.true_or] at hRV
    cases A
    · rw [Bool.false_and] at hRV
      have HL : Hid (lgB size = lgB size) := Lib.hid rfl
      have HR := Lib.hid hRV
      clear hRV
      go_enter Tryz.func77, Tryz.ntmps77
      go_wp2_with (first | (go_at_call 48; refine (log_any size _).mono ?_; generalize lgB size = B at *; rintro e w1 ⟨rfl, hb1⟩; obtain ⟨c0, c1, cl⟩ := hl.below hb1 hl.2.2))
      have hl1 : HoldsL w1 w.heap.size ad n cap K := ⟨c0, c1, cl⟩
      have hR1 := (hR0.below hb1 (Nat.le_refl _)).mono hb1.size
      have HB1 := HB.trans (hb1.mono HB.size)
      clear hl HB hR0 hb1 hR c0 c1 cl
      refine (HP.out _ hR1).mono ?_
      rintro e w2 ⟨rfl, hb2⟩
      have hl2 := hl1.below hb2 hl1.2.2
      have hR2 := (hR1.below hb2 (Nat.le_refl _)).mono hb2.size
      have HB2 := HB1.trans (hb2.mono HB1.size)
      clear hl1 hR1 HB1 hb2
      obtain ⟨c0, c1, cl⟩ := id hl2
      go_wp2_with (first | (go_at_call 76; refine (HA.out _ hR2).mono ?_; rintro e w3 ⟨rfl, hb3⟩))
      go_ret
      exact ⟨by rw [HR.out]; rfl, HB2.trans (hb3.mono HB2.size)⟩
    · rw [Bool.true_and] at hRV
      have HL : Hid (lgB size = lgB size) := Lib.hid rfl
      have HR := Lib.hid hRV
      clear hRV
      go_enter Tryz.func77, Tryz.ntmps77
      go_wp2_with (first | (go_at_call 48; refine (log_any size _).mono ?_; generalize lgB size = B at *; rintro e w1 ⟨rfl, hb1⟩; obtain ⟨c0, c1, cl⟩ := hl.below hb1 hl.2.2))
      have hl1 : HoldsL w1 w.heap.size ad n cap K := ⟨c0, c1, cl⟩
      have hR1 := (hR0.below hb1 (Nat.le_refl _)).mono hb1.size
      have HB1 := HB.trans (hb1.mono HB.size)
      clear hl HB hR0 hb1 hR c0 c1 cl
      refine (HP.out _ hR1).mono ?_
      rintro e w2 ⟨rfl, hb2⟩
      have hl2 := hl1.below hb2 hl1.2.2
      have hR2 := (hR1.below hb2 (Nat.le_refl _)).mono hb2.size
      have HB2 := HB1.trans (hb2.mono HB1.size)
      clear hl1 hR1 HB1 hb2
      obtain ⟨c0, c1, cl⟩ := id hl2
      go_wp2_with (first | (go_at_call 76; refine (HA.out _ hR2).mono ?_; rintro e w3 ⟨rfl, hb3⟩))
      go_ret
      exact ⟨by rw [HR.out]; rfl, HB2.trans (hb3.mono HB2.size)⟩
  · rw [decide_eq_false h1, Bool.false_or] at hRV
    have e1 : (way == 1) = false := by rw [beq_eq_false_iff_ne]; exact h1
    by_cases h2 : way = 2
    · subst h2
      rw [decide_eq_true rfl, Bool.true_or, Bool.true_or] at hRV
      cases A
      · rw [Bool.false_and] at hRV
        have HL : Hid (lgB size = lgB size) := Lib.hid rfl
        have HR := Lib.hid hRV
        clear hRV
        go_enter Tryz.func77, Tryz.ntmps77
        go_wp2_with (first | (go_at_call 48; refine (log_any size _).mono ?_; generalize lgB size = B at *; rintro e w1 ⟨rfl, hb1⟩; obtain ⟨c0, c1, cl⟩ := hl.below hb1 hl.2.2))
        have hl1 : HoldsL w1 w.heap.size ad n cap K := ⟨c0, c1, cl⟩
        have hR1 := (hR0.below hb1 (Nat.le_refl _)).mono hb1.size
        have HB1 := HB.trans (hb1.mono HB.size)
        clear hl HB hR0 hb1 hR c0 c1 cl
        refine (HP.out _ hR1).mono ?_
        rintro e w2 ⟨rfl, hb2⟩
        have hl2 := hl1.below hb2 hl1.2.2
        have hR2 := (hR1.below hb2 (Nat.le_refl _)).mono hb2.size
        have HB2 := HB1.trans (hb2.mono HB1.size)
        clear hl1 hR1 HB1 hb2
        obtain ⟨c0, c1, cl⟩ := id hl2
        go_wp2_with (first | (go_at_call 76; refine (HA.out _ hR2).mono ?_; rintro e w3 ⟨rfl, hb3⟩))
        go_ret
        exact ⟨by rw [HR.out]; rfl, HB2.trans (hb3.mono HB2.size)⟩
      · rw [Bool.true_and] at hRV
        have HL : Hid (lgB size = lgB size) := Lib.hid rfl
        have HR := Lib.hid hRV
        clear hRV
        go_enter Tryz.func77, Tryz.ntmps77
        go_wp2_with (first | (go_at_call 48; refine (log_any size _).mono ?_; generalize lgB size = B at *; rintro e w1 ⟨rfl, hb1⟩; obtain ⟨c0, c1, cl⟩ := hl.below hb1 hl.2.2))
        have hl1 : HoldsL w1 w.heap.size ad n cap K := ⟨c0, c1, cl⟩
        have hR1 := (hR0.below hb1 (Nat.le_refl _)).mono hb1.size
        have HB1 := HB.trans (hb1.mono HB.size)
        clear hl HB hR0 hb1 hR c0 c1 cl
        refine (HP.out _ hR1).mono ?_
        rintro e w2 ⟨rfl, hb2⟩
        have hl2 := hl1.below hb2 hl1.2.2
        have hR2 := (hR1.below hb2 (Nat.le_refl _)).mono hb2.size
        have HB2 := HB1.trans (hb2.mono HB1.size)
        clear hl1 hR1 HB1 hb2
        obtain ⟨c0, c1, cl⟩ := id hl2
        go_wp2_with (first | (go_at_call 76; refine (HA.out _ hR2).mono ?_; rintro e w3 ⟨rfl, hb3⟩))
        go_ret
        exact ⟨by rw [HR.out]; rfl, HB2.trans (hb3.mono HB2.size)⟩
    · rw [decide_eq_false h2, Bool.false_or] at hRV
      have e2 : (way == 2) = false := by rw [beq_eq_false_iff_ne]; exact h2
      by_cases h5 : way = 5
      · subst h5
        rw [decide_eq_true rfl, Bool.true_and] at hRV
        by_cases hF : F = 0
        · rw [decide_eq_true hF, Bool.true_or] at hRV
          subst hF
          cases A
          · rw [Bool.false_and] at hRV
            have HL : Hid (lgB size = lgB size) := Lib.hid rfl
            have HR := Lib.hid hRV
            clear hRV
            go_enter Tryz.func77, Tryz.ntmps77
            go_wp2_with (first | (go_at_call 48; refine (log_any size _).mono ?_; generalize lgB size = B at *; rintro e w1 ⟨rfl, hb1⟩; obtain ⟨c0, c1, cl⟩ := hl.below hb1 hl.2.2))
            have hl1 : HoldsL w1 w.heap.size ad n cap K := ⟨c0, c1, cl⟩
            have hR1 := (hR0.below hb1 (Nat.le_refl _)).mono hb1.size
            have HB1 := HB.trans (hb1.mono HB.size)
            clear hl HB hR0 hb1 hR c0 c1 cl
            refine (HP.out _ hR1).mono ?_
            rintro e w2 ⟨rfl, hb2⟩
            have hl2 := hl1.below hb2 hl1.2.2
            have hR2 := (hR1.below hb2 (Nat.le_refl _)).mono hb2.size
            have HB2 := HB1.trans (hb2.mono HB1.size)
            clear hl1 hR1 HB1 hb2
            obtain ⟨c0, c1, cl⟩ := id hl2
            go_wp2_with (first | (go_at_call 76; refine (HA.out _ hR2).mono ?_; rintro e w3 ⟨rfl, hb3⟩))
            go_ret
            exact ⟨by rw [HR.out]; rfl, HB2.trans (hb3.mono HB2.size)⟩
          · rw [Bool.true_and] at hRV
            have HL : Hid (lgB size = lgB size) := Lib.hid rfl
            have HR := Lib.hid hRV
            clear hRV
            go_enter Tryz.func77, Tryz.ntmps77
            go_wp2_with (first | (go_at_call 48; refine (log_any size _).mono ?_; generalize lgB size = B at *; rintro e w1 ⟨rfl, hb1⟩; obtain ⟨c0, c1, cl⟩ := hl.below hb1 hl.2.2))
            have hl1 : HoldsL w1 w.heap.size ad n cap K := ⟨c0, c1, cl⟩
            have hR1 := (hR0.below hb1 (Nat.le_refl _)).mono hb1.size
            have HB1 := HB.trans (hb1.mono HB.size)
            clear hl HB hR0 hb1 hR c0 c1 cl
            refine (HP.out _ hR1).mono ?_
            rintro e w2 ⟨rfl, hb2⟩
            have hl2 := hl1.below hb2 hl1.2.2
            have hR2 := (hR1.below hb2 (Nat.le_refl _)).mono hb2.size
            have HB2 := HB1.trans (hb2.mono HB1.size)
            clear hl1 hR1 HB1 hb2
            obtain ⟨c0, c1, cl⟩ := id hl2
            go_wp2_with (first | (go_at_call 76; refine (HA.out _ hR2).mono ?_; rintro e w3 ⟨rfl, hb3⟩))
            go_ret
            exact ⟨by rw [HR.out]; rfl, HB2.trans (hb3.mono HB2.size)⟩
        · rw [decide_eq_false hF, Bool.false_or] at hRV
          have e3 : (((F : Nat) : Int) == 0) = false := by rw [beq_eq_false_iff_ne]; omega
          cases A
          · rw [Bool.false_and] at hRV
            have HL : Hid (lgB size = lgB size) := Lib.hid rfl
            have HR := Lib.hid hRV
            clear hRV
            go_enter Tryz.func77, Tryz.ntmps77
            go_wp2_with (first | (go_at_call 48; refine (log_any size _).mono ?_; generalize lgB size = B at *; rintro e w1 ⟨rfl, hb1⟩; obtain ⟨c0, c1, cl⟩ := hl.below hb1 hl.2.2))
            have hl1 : HoldsL w1 w.heap.size ad n cap K := ⟨c0, c1, cl⟩
            have hR1 := (hR0.below hb1 (Nat.le_refl _)).mono hb1.size
            have HB1 := HB.trans (hb1.mono HB.size)
            clear hl HB hR0 hb1 hR c0 c1 cl
            refine (HP.out _ hR1).mono ?_
            rintro e w2 ⟨rfl, hb2⟩
            have hl2 := hl1.below hb2 hl1.2.2
            have hR2 := (hR1.below hb2 (Nat.le_refl _)).mono hb2.size
            have HB2 := HB1.trans (hb2.mono HB1.size)
            clear hl1 hR1 HB1 hb2
            obtain ⟨c0, c1, cl⟩ := id hl2
            go_wp2_with (first | (go_at_call 76; refine (HA.out _ hR2).mono ?_; rintro e w3 ⟨rfl, hb3⟩))
            go_ret
            exact ⟨by rw [HR.out]; rfl, HB2.trans (hb3.mono HB2.size)⟩
          · rw [Bool.true_and] at hRV
            by_cases hgt : nn < n
            · rw [decide_eq_true hgt, Bool.true_or] at hRV
              have hbd : badS n nn size = false := by unfold badS; rw [decide_eq_false (by omega)]; rfl
              have HBD := Lib.hid hbd
              clear hbd
              have hgt2 : ¬ ((n : Int) ≤ nn) := by omega
              have HL : Hid (lgB size = lgB size) := Lib.hid rfl
              have HR := Lib.hid hRV
              clear hRV
              go_enter Tryz.func77, Tryz.ntmps77
              go_wp2_with (first | (go_at_call 48; refine (log_any size _).mono ?_; generalize lgB size = B at *; rintro e w1 ⟨rfl, hb1⟩; obtain ⟨c0, c1, cl⟩ := hl.below hb1 hl.2.2))
              have hl1 : HoldsL w1 w.heap.size ad n cap K := ⟨c0, c1, cl⟩
              have hR1 := (hR0.below hb1 (Nat.le_refl _)).mono hb1.size
              have HB1 := HB.trans (hb1.mono HB.size)
              clear hl HB hR0 hb1 hR c0 c1 cl
              refine (HP.out _ hR1).mono ?_
              rintro e w2 ⟨rfl, hb2⟩
              have hl2 := hl1.below hb2 hl1.2.2
              have hR2 := (hR1.below hb2 (Nat.le_refl _)).mono hb2.size
              have HB2 := HB1.trans (hb2.mono HB1.size)
              clear hl1 hR1 HB1 hb2
              obtain ⟨c0, c1, cl⟩ := id hl2
              go_wp2_with (first | (go_at_call 76; refine (HA.out _ hR2).mono ?_; rintro e w3 ⟨rfl, hb3⟩))
              go_ret
              exact ⟨by rw [HR.out]; rfl, HB2.trans (hb3.mono HB2.size)⟩
            · rw [decide_eq_false hgt, Bool.false_or] at hRV
              have hle : (n : Int) ≤ nn := by omega
              have hle2 : decide (nn < (n : Int)) = false := decide_eq_false hgt
              have hbd : badS n nn size = !szB n size := by unfold badS; rw [decide_eq_true (by omega)]; rfl
              unfold szB at hRV hbd
              cases hlb : lgB size
              · rw [hlb, Bool.false_and] at hRV hbd
                have HBD := Lib.hid hbd
                clear hbd
                have HL := Lib.hid hlb
                clear hlb
                have HR := Lib.hid hRV
                clear hRV
                go_enter Tryz.func77, Tryz.ntmps77
                go_wp2_with (first | (go_at_call 48; refine (log_any size _).mono ?_; rw [HL.out]; rintro e w1 ⟨rfl, hb1⟩; obtain ⟨c0, c1, cl⟩ := hl.below hb1 hl.2.2))
                have hl1 : HoldsL w1 w.heap.size ad n cap K := ⟨c0, c1, cl⟩
                have hR1 := (hR0.below hb1 (Nat.le_refl _)).mono hb1.size
                have HB1 := HB.trans (hb1.mono HB.size)
                clear hl HB hR0 hb1 hR c0 c1 cl
                refine (HP.out _ hR1).mono ?_
                rintro e w2 ⟨rfl, hb2⟩
                have hl2 := hl1.below hb2 hl1.2.2
                have hR2 := (hR1.below hb2 (Nat.le_refl _)).mono hb2.size
                have HB2 := HB1.trans (hb2.mono HB1.size)
                clear hl1 hR1 HB1 hb2
                obtain ⟨c0, c1, cl⟩ := id hl2
                go_wp2_with (first | (go_at_call 76; refine (HA.out _ hR2).mono ?_; rintro e w3 ⟨rfl, hb3⟩))
                go_ret
                exact ⟨by rw [HR.out]; rfl, HB2.trans (hb3.mono HB2.size)⟩
              · rw [hlb, Bool.true_and] at hRV hbd
                by_cases hsz : (n : Int) ≤ size
                · rw [decide_eq_true hsz] at hRV hbd
                  have HBD := Lib.hid hbd
                  clear hbd
                  have HL := Lib.hid hlb
                  clear hlb
                  have HR := Lib.hid hRV
                  clear hRV
                  go_enter Tryz.func77, Tryz.ntmps77
                  go_wp2_with (first | (go_at_call 48; refine (log_any size _).mono ?_; rw [HL.out]; rintro e w1 ⟨rfl, hb1⟩; obtain ⟨c0, c1, cl⟩ := hl.below hb1 hl.2.2))
                  have hl1 : HoldsL w1 w.heap.size ad n cap K := ⟨c0, c1, cl⟩
                  have hR1 := (hR0.below hb1 (Nat.le_refl _)).mono hb1.size
                  have HB1 := HB.trans (hb1.mono HB.size)
                  clear hl HB hR0 hb1 hR c0 c1 cl
                  refine (HP.out _ hR1).mono ?_
                  rintro e w2 ⟨rfl, hb2⟩
                  have hl2 := hl1.below hb2 hl1.2.2
                  have hR2 := (hR1.below hb2 (Nat.le_refl _)).mono hb2.size
                  have HB2 := HB1.trans (hb2.mono HB1.size)
                  clear hl1 hR1 HB1 hb2
                  obtain ⟨c0, c1, cl⟩ := id hl2
                  go_wp2_with (first | (go_at_call 76; refine (HA.out _ hR2).mono ?_; rintro e w3 ⟨rfl, hb3⟩))
                  go_ret
                  exact ⟨by rw [HR.out]; rfl, HB2.trans (hb3.mono HB2.size)⟩
                · rw [decide_eq_false hsz] at hRV hbd
                  have hsz2 : decide ((n : Int) ≤ size) = false := decide_eq_false hsz
                  have HBD := Lib.hid hbd
                  clear hbd
                  have HL := Lib.hid hlb
                  clear hlb
                  have HR := Lib.hid hRV
                  clear hRV
                  go_enter Tryz.func77, Tryz.ntmps77
                  go_wp2_with (first | (go_at_call 48; refine (log_any size _).mono ?_; rw [HL.out]; rintro e w1 ⟨rfl, hb1⟩; obtain ⟨c0, c1, cl⟩ := hl.below hb1 hl.2.2))
                  have hl1 : HoldsL w1 w.heap.size ad n cap K := ⟨c0, c1, cl⟩
                  have hR1 := (hR0.below hb1 (Nat.le_refl _)).mono hb1.size
                  have HB1 := HB.trans (hb1.mono HB.size)
                  clear hl HB hR0 hb1 hR c0 c1 cl
                  refine (HP.out _ hR1).mono ?_
                  rintro e w2 ⟨rfl, hb2⟩
                  have hl2 := hl1.below hb2 hl1.2.2
                  have hR2 := (hR1.below hb2 (Nat.le_refl _)).mono hb2.size
                  have HB2 := HB1.trans (hb2.mono HB1.size)
                  clear hl1 hR1 HB1 hb2
                  obtain ⟨c0, c1, cl⟩ := id hl2
                  go_wp2_with (first | (go_at_call 76; refine (HA.out _ hR2).mono ?_; rintro e w3 ⟨rfl, hb3⟩))
                  go_ret
                  exact ⟨by rw [HR.out]; rfl, HB2.trans (hb3.mono HB2.size)⟩
      · rw [decide_eq_false h5, Bool.false_and, Bool.false_or] at hRV
        have e4 : (way == 5) = false := by rw [beq_eq_false_iff_ne]; exact h5
        cases A
        · rw [Bool.false_and] at hRV
          have HL : Hid (lgB size = lgB size) := Lib.hid rfl
          have HR := Lib.hid hRV
          clear hRV
          go_enter Tryz.func77, Tryz.ntmps77
          go_wp2_with (first | (go_at_call 48; refine (log_any size _).mono ?_; generalize lgB size = B at *; rintro e w1 ⟨rfl, hb1⟩; obtain ⟨c0, c1, cl⟩ := hl.below hb1 hl.2.2))
          have hl1 : HoldsL w1 w.heap.size ad n cap K := ⟨c0, c1, cl⟩
          have hR1 := (hR0.below hb1 (Nat.le_refl _)).mono hb1.size
          have HB1 := HB.trans (hb1.mono HB.size)
          clear hl HB hR0 hb1 hR c0 c1 cl
          refine (HP.out _ hR1).mono ?_
          rintro e w2 ⟨rfl, hb2⟩
          have hl2 := hl1.below hb2 hl1.2.2
          have hR2 := (hR1.below hb2 (Nat.le_refl _)).mono hb2.size
          have HB2 := HB1.trans (hb2.mono HB1.size)
          clear hl1 hR1 HB1 hb2
          obtain ⟨c0, c1, cl⟩ := id hl2
          go_wp2_with (first | (go_at_call 76; refine (HA.out _ hR2).mono ?_; rintro e w3 ⟨rfl, hb3⟩))
          go_ret
          exact ⟨by rw [HR.out]; rfl, HB2.trans (hb3.mono HB2.size)⟩
        · rw [Bool.true_and] at hRV
          by_cases hgt : nn < n
          · rw [decide_eq_true hgt, Bool.true_or] at hRV
            have hbd : badS n nn size = false := by unfold badS; rw [decide_eq_false (by omega)]; rfl
            have HBD := Lib.hid hbd
            clear hbd
            have hgt2 : ¬ ((n : Int) ≤ nn) := by omega
            have HL : Hid (lgB size = lgB size) := Lib.hid rfl
            have HR := Lib.hid hRV
            clear hRV
            go_enter Tryz.func77, Tryz.ntmps77
            go_wp2_with (first | (go_at_call 48; refine (log_any size _).mono ?_; generalize lgB size = B at *; rintro e w1 ⟨rfl, hb1⟩; obtain ⟨c0, c1, cl⟩ := hl.below hb1 hl.2.2))
            have hl1 : HoldsL w1 w.heap.size ad n cap K := ⟨c0, c1, cl⟩
            have hR1 := (hR0.below hb1 (Nat.le_refl _)).mono hb1.size
            have HB1 := HB.trans (hb1.mono HB.size)
            clear hl HB hR0 hb1 hR c0 c1 cl
            refine (HP.out _ hR1).mono ?_
            rintro e w2 ⟨rfl, hb2⟩
            have hl2 := hl1.below hb2 hl1.2.2
            have hR2 := (hR1.below hb2 (Nat.le_refl _)).mono hb2.size
            have HB2 := HB1.trans (hb2.mono HB1.size)
            clear hl1 hR1 HB1 hb2
            obtain ⟨c0, c1, cl⟩ := id hl2
            go_wp2_with (first | (go_at_call 76; refine (HA.out _ hR2).mono ?_; rintro e w3 ⟨rfl, hb3⟩))
            go_ret
            exact ⟨by rw [HR.out]; rfl, HB2.trans (hb3.mono HB2.size)⟩
          · rw [decide_eq_false hgt, Bool.false_or] at hRV
            have hle : (n : Int) ≤ nn := by omega
            have hle2 : decide (nn < (n : Int)) = false := decide_eq_false hgt
            have hbd : badS n nn size = !szB n size := by unfold badS; rw [decide_eq_true (by omega)]; rfl
            unfold szB at hRV hbd
            cases hlb : lgB size
            · rw [hlb, Bool.false_and] at hRV hbd
              have HBD := Lib.hid hbd
              clear hbd
              have HL := Lib.hid hlb
              clear hlb
              have HR := Lib.hid hRV
              clear hRV
              go_enter Tryz.func77, Tryz.ntmps77
              go_wp2_with (first | (go_at_call 48; refine (log_any size _).mono ?_; rw [HL.out]; rintro e w1 ⟨rfl, hb1⟩; obtain ⟨c0, c1, cl⟩ := hl.below hb1 hl.2.2))
              have hl1 : HoldsL w1 w.heap.size ad n cap K := ⟨c0, c1, cl⟩
              have hR1 := (hR0.below hb1 (Nat.le_refl _)).mono hb1.size
              have HB1 := HB.trans (hb1.mono HB.size)
              clear hl HB hR0 hb1 hR c0 c1 cl
              refine (HP.out _ hR1).mono ?_
              rintro e w2 ⟨rfl, hb2⟩
              have hl2 := hl1.below hb2 hl1.2.2
              have hR2 := (hR1.below hb2 (Nat.le_refl _)).mono hb2.size
              have HB2 := HB1.trans (hb2.mono HB1.size)
              clear hl1 hR1 HB1 hb2
              obtain ⟨c0, c1, cl⟩ := id hl2
              go_wp2_with (first | (go_at_call 76; refine (HA.out _ hR2).mono ?_; rintro e w3 ⟨rfl, hb3⟩))
              go_ret
              exact ⟨by rw [HR.out]; rfl, HB2.trans (hb3.mono HB2.size)⟩
            · rw [hlb, Bool.true_and] at hRV hbd
              by_cases hsz : (n : Int) ≤ size
              · rw [decide_eq_true hsz] at hRV hbd
                have HBD := Lib.hid hbd
                clear hbd
                have HL := Lib.hid hlb
                clear hlb
                have HR := Lib.hid hRV
                clear hRV
                go_enter Tryz.func77, Tryz.ntmps77
                go_wp2_with (first | (go_at_call 48; refine (log_any size _).mono ?_; rw [HL.out]; rintro e w1 ⟨rfl, hb1⟩; obtain ⟨c0, c1, cl⟩ := hl.below hb1 hl.2.2))
                have hl1 : HoldsL w1 w.heap.size ad n cap K := ⟨c0, c1, cl⟩
                have hR1 := (hR0.below hb1 (Nat.le_refl _)).mono hb1.size
                have HB1 := HB.trans (hb1.mono HB.size)
                clear hl HB hR0 hb1 hR c0 c1 cl
                refine (HP.out _ hR1).mono ?_
                rintro e w2 ⟨rfl, hb2⟩
                have hl2 := hl1.below hb2 hl1.2.2
                have hR2 := (hR1.below hb2 (Nat.le_refl _)).mono hb2.size
                have HB2 := HB1.trans (hb2.mono HB1.size)
                clear hl1 hR1 HB1 hb2
                obtain ⟨c0, c1, cl⟩ := id hl2
                go_wp2_with (first | (go_at_call 76; refine (HA.out _ hR2).mono ?_; rintro e w3 ⟨rfl, hb3⟩))
                go_ret
                exact ⟨by rw [HR.out]; rfl, HB2.trans (hb3.mono HB2.size)⟩
              · rw [decide_eq_false hsz] at hRV hbd
                have hsz2 : decide ((n : Int) ≤ size) = false := decide_eq_false hsz
                have HBD := Lib.hid hbd
                clear hbd
                have HL := Lib.hid hlb
                clear hlb
                have HR := Lib.hid hRV
                clear hRV
                go_enter Tryz.func77, Tryz.ntmps77
                go_wp2_with (first | (go_at_call 48; refine (log_any size _).mono ?_; rw [HL.out]; rintro e w1 ⟨rfl, hb1⟩; obtain ⟨c0, c1, cl⟩ := hl.below hb1 hl.2.2))
                have hl1 : HoldsL w1 w.heap.size ad n cap K := ⟨c0, c1, cl⟩
                have hR1 := (hR0.below hb1 (Nat.le_refl _)).mono hb1.size
                have HB1 := HB.trans (hb1.mono HB.size)
                clear hl HB hR0 hb1 hR c0 c1 cl
                refine (HP.out _ hR1).mono ?_
                rintro e w2 ⟨rfl, hb2⟩
                have hl2 := hl1.below hb2 hl1.2.2
                have hR2 := (hR1.below hb2 (Nat.le_refl _)).mono hb2.size
                have HB2 := HB1.trans (hb2.mono HB1.size)
                clear hl1 hR1 HB1 hb2
                obtain ⟨c0, c1, cl⟩ := id hl2
                go_wp2_with (first | (go_at_call 76; refine (HA.out _ hR2).mono ?_; rintro e w3 ⟨rfl, hb3⟩))
                go_ret
                exact ⟨by rw [HR.out]; rfl, HB2.trans (hb3.mono HB2.size)⟩

end Go.Proofs.YtjfkmoinldlmaaaGreat

/- What the ways cost: walks of the functions of the map in plan.Cost. -/
namespace Go.Proofs.YtjfkmoinldlmaaaGreat
open Go.RowKit

theorem mul_in {a b A B : Int} (ha : 0 ≤ a) (hA : a ≤ A) (hb : 0 ≤ b) (hB : b ≤ B) : 0 ≤ a * b ∧ a * b ≤ A * B :=
  ⟨Int.mul_nonneg ha hb, Int.mul_le_mul hA hB hb (Int.le_trans ha hA)⟩
/-- What each way costs. -/
def cs1 (m N : Int) : Int := m * (N - m + 1)
def cs2 (m N : Int) : Int := 4 * (N + m)
def cs3 (x N : Int) : Int := 2 * x + 4 * N
def cs4 (x N k : Int) : Int := (x + N) * k + N
def cs5 (x N f r : Int) : Int := (x + N) * f + N * r + N

set_option maxRecDepth 100000 in
theorem cost1_any (bm bn : Nat) (m N : Int) (hm : 0 ≤ m) (hm2 : m ≤ 1000) (hN : m ≤ N) (hN2 : N ≤ 100000) (w : World) (c0 : w.cell? ⟨bm, 0, none⟩ = some (.int .i64 m)) (c1 : w.cell? ⟨bn, 0, none⟩ = some (.int .i64 N)) :
    Calls Tryz.prog 243 #[.pointer (some ⟨bm, 0, none⟩), .pointer (some ⟨bn, 0, none⟩)] w fun e w' => e = .returned (.int .i64 (cs1 m N)) ∧ Below w.heap.size w w' := by
  have hp := mul_in hm hm2 (show 0 ≤ N - m + 1 by omega) (show N - m + 1 ≤ 100001 by omega)
  unfold cs1
  have hw : IntKind.i64.wrap (m * (N - m + 1)) = m * (N - m + 1) := by rw [IntKind.wrap_i64]; omega
  go_enter Tryz.func243, Tryz.ntmps243
  go_wp2
  go_ret
  exact ⟨rfl, Below.refl _ _⟩
set_option maxRecDepth 100000 in
theorem cost2_any (bm bn : Nat) (m N : Int) (hm : 0 ≤ m) (hm2 : m ≤ 1000) (hN : m ≤ N) (hN2 : N ≤ 100000) (w : World) (c0 : w.cell? ⟨bm, 0, none⟩ = some (.int .i64 m)) (c1 : w.cell? ⟨bn, 0, none⟩ = some (.int .i64 N)) :
    Calls Tryz.prog 244 #[.pointer (some ⟨bn, 0, none⟩), .pointer (some ⟨bm, 0, none⟩)] w fun e w' => e = .returned (.int .i64 (cs2 m N)) ∧ Below w.heap.size w w' := by
  unfold cs2
  go_enter Tryz.func244, Tryz.ntmps244
  go_wp2
  go_ret
  exact ⟨rfl, Below.refl _ _⟩
set_option maxRecDepth 100000 in
theorem cost3_any (bx bn : Nat) (x N : Int) (hx : 0 ≤ x) (hx2 : x ≤ 100000000000) (hN : 0 ≤ N) (hN2 : N ≤ 100000) (w : World) (c0 : w.cell? ⟨bx, 0, none⟩ = some (.int .i64 x)) (c1 : w.cell? ⟨bn, 0, none⟩ = some (.int .i64 N)) :
    Calls Tryz.prog 245 #[.pointer (some ⟨bx, 0, none⟩), .pointer (some ⟨bn, 0, none⟩)] w fun e w' => e = .returned (.int .i64 (cs3 x N)) ∧ Below w.heap.size w w' := by
  unfold cs3
  go_enter Tryz.func245, Tryz.ntmps245
  go_wp2
  go_ret
  exact ⟨rfl, Below.refl _ _⟩
set_option maxRecDepth 100000 in
theorem cost5_any (bx bn bf br : Nat) (x N f r : Int) (hx : 0 ≤ x) (hx2 : x ≤ 100000000000) (hN : 0 ≤ N) (hN2 : N ≤ 100000) (hf : 0 ≤ f) (hf2 : f ≤ 1000) (hr : 0 ≤ r) (hr2 : r ≤ 2000) (w : World) (c0 : w.cell? ⟨bx, 0, none⟩ = some (.int .i64 x)) (c1 : w.cell? ⟨bn, 0, none⟩ = some (.int .i64 N)) (c2 : w.cell? ⟨bf, 0, none⟩ = some (.int .i64 f)) (c3 : w.cell? ⟨br, 0, none⟩ = some (.int .i64 r)) :
    Calls Tryz.prog 247 #[.pointer (some ⟨bx, 0, none⟩), .pointer (some ⟨bn, 0, none⟩), .pointer (some ⟨bf, 0, none⟩), .pointer (some ⟨br, 0, none⟩)] w fun e w' => e = .returned (.int .i64 (cs5 x N f r)) ∧ Below w.heap.size w w' := by
  have hp := mul_in (show 0 ≤ x + N by omega) (show x + N ≤ 100000100000 by omega) hf hf2
  have hq := mul_in hN hN2 hr hr2
  unfold cs5
  have hw : IntKind.i64.wrap ((x + N) * f) = (x + N) * f := by rw [IntKind.wrap_i64]; omega
  have hw2 : IntKind.i64.wrap (N * r) = N * r := by rw [IntKind.wrap_i64]; omega
  have hw3 : IntKind.i64.wrap ((x + N) * f + N * r) = (x + N) * f + N * r := by rw [IntKind.wrap_i64]; omega
  have hw4 : IntKind.i64.wrap ((x + N) * f + N * r + N) = (x + N) * f + N * r + N := by rw [IntKind.wrap_i64]; omega
  go_enter Tryz.func247, Tryz.ntmps247
  go_wp2
  go_ret
  exact ⟨rfl, Below.refl _ _⟩
set_option maxRecDepth 100000 in
set_option maxHeartbeats 4000000 in
theorem cost4_any (bx bn bl : Nat) (x N : Int) (hx : 0 ≤ x) (hx2 : x ≤ 100000000000) (hN : 0 ≤ N) (hN2 : N ≤ 100000) (ad : Option Addr) (n cap : Nat) (K : Int) (L : Nat → Nat → Bool) (hn : (n : Int) ≤ 1000) (w : World) (hR : RowC w ad n L w.heap.size) (hl : HoldsL w bl ad n cap K) (q0 : w.cell? ⟨bx, 0, none⟩ = some (.int .i64 x)) (q1 : w.cell? ⟨bn, 0, none⟩ = some (.int .i64 N)) (l0 : bx < w.heap.size) (l1 : bn < w.heap.size) :
    Calls Tryz.prog 246 #[.pointer (some ⟨bx, 0, none⟩), .pointer (some ⟨bn, 0, none⟩), .pointer (some ⟨bl, 0, none⟩)] w fun e w' => e = .returned (.int .i64 (cs4 x N ((kindsTo L n).length : Nat))) ∧ Below w.heap.size w w' := by
  have hkl := kindsTo_length L n
  have hk := fun w' h' => kinds_any ad n cap K L (by omega) w' h'
  generalize hkk : kindsTo L n = kk at hk hkl
  have HK := Lib.hid hk
  clear hk hkk
  obtain ⟨k, hke⟩ : ∃ k, k = kk.length := ⟨_, rfl⟩
  rw [← hke] at hkl HK ⊢
  have hp := mul_in (show 0 ≤ x + N by omega) (show x + N ≤ 100000100000 by omega) (show (0 : Int) ≤ (k : Nat) by omega) (show ((k : Nat) : Int) ≤ 1000 by omega)
  unfold cs4
  have hw : IntKind.i64.wrap ((x + N) * k) = (x + N) * k := by rw [IntKind.wrap_i64]; omega
  have hw4 : IntKind.i64.wrap ((x + N) * k + N) = (x + N) * k + N := by rw [IntKind.wrap_i64]; omega
  have hw0 : IntKind.i64.wrap (x + N) = x + N := by rw [IntKind.wrap_i64]; omega
  obtain ⟨c0, c1, cl⟩ := hl
  clear hke
  go_enter Tryz.func246, Tryz.ntmps246
  go_wp2_with fail
  go_region_held3 (fun w' => Old w w') (first | with_reducible exact Old.start _ | with_reducible exact Old.calld (Old.refl _) (by assumption) | with_reducible exact Old.call (by assumption) (by assumption)) (first | (go_at_call 179; refine (HK.out _ ((hR.below (show Old w _ by with_reducible assumption).2.2.2 (Nat.le_refl _)).mono (show Old w _ by with_reducible assumption).2.2.1)).mono ?_; rintro e w4 ⟨v4, rfl, ho4, hb4⟩; obtain ⟨adw, cpw, rfl⟩ := own_slice ho4))
  all_goals go_wp2
  all_goals go_ret
  all_goals exact ⟨rfl, (show Old w _ by assumption).2.2.2⟩
end Go.Proofs.YtjfkmoinldlmaaaGreat

/- What a way costs: walk of plan.Cost. -/
namespace Go.Proofs.YtjfkmoinldlmaaaGreat
open Go.RowKit

theorem Boxed.low {W W' : World} {B n : Nat} {t : TypeId} {v : Value} (h : Boxed W B t v) (hb : Below n W W') (hn : B < n) : Boxed W' B t v := (hb.block B hn).trans h
theorem HoldsL.grw {w w' : World} {B b n cap : Nat} {ad : Option Addr} {K : Int} (h : HoldsL w B ad n cap K) (hg : w.grownBy w' (some b)) (hne : B ≠ b) : HoldsL w' B ad n cap K := by
  have hk := hg.block B h.2.2 (fun e => hne (by cases e; rfl))
  obtain ⟨h0, h1, h2⟩ := h
  refine ⟨?_, ?_, Nat.lt_of_lt_of_le h2 hg.size⟩
  · rw [← h0]; unfold World.cell?; rw [hk]
  · rw [← h1]; unfold World.cell?; rw [hk]
/-- What all transforms take. -/
def xV (m N size : Int) : Int := cntV m N size * size * ((lgV size : Nat) + 1)
theorem cntV_in {m N size : Int} (hm : 1 ≤ m) (hN : m ≤ N) (hN2 : N ≤ 100000) : (0 ≤ cntV m N size * size ∧ cntV m N size * size ≤ 700000 * 4096) ∧ 0 ≤ cntV m N size := by
  unfold cntV
  cases hs : szB m size
  · rw [if_neg (by decide), Int.zero_mul]; omega
  · rw [if_pos rfl]
    unfold szB at hs
    rw [Bool.and_eq_true, decide_eq_true_eq] at hs
    obtain ⟨a, b⟩ := lg_size hs.1
    have c := hs.2
    have q0 : 0 ≤ (N - m) / (size - m + 1) := Int.ediv_nonneg (by omega) (by omega)
    have q1 : (N - m) / (size - m + 1) ≤ 100000 := Int.le_trans (Int.ediv_le_self _ (by omega)) (by omega)
    generalize (N - m) / (size - m + 1) = q at q0 q1
    have := mul_in (show 0 ≤ 3 + 6 * (q + 1) by omega) (show 3 + 6 * (q + 1) ≤ 700000 by omega) (show 0 ≤ size by omega) b
    exact ⟨this, by omega⟩
theorem xV_in {m N size : Int} (hm : 1 ≤ m) (hN : m ≤ N) (hN2 : N ≤ 100000) : 0 ≤ xV m N size ∧ xV m N size ≤ 100000000000 := by
  obtain ⟨⟨h1, h2⟩, -⟩ := cntV_in (size := size) hm hN hN2
  have hl := lgV_le size
  unfold xV
  have := mul_in h1 h2 (show (0 : Int) ≤ (lgV size : Nat) + 1 by omega) (show ((lgV size : Nat) : Int) + 1 ≤ 13 by omega)
  omega
/-- What a way costs, of m elements, N bytes, x for the transforms, k kinds, f of them frequent, the others at r places. -/
def csW (way m N x k f r : Int) : Int := if way = 1 then cs1 m N else if way = 2 then cs2 m N else if way = 3 then cs3 x N else if way = 4 then cs4 x N k else cs5 x N f r
/-- What a way costs a leaf. -/
def costV (way nn size : Int) (L : Nat → Nat → Bool) (n : Nat) : Int :=
  if (n : Int) ≤ min nn 100000 then csW way n (min nn 100000) (xV n (min nn 100000) size) ((kindsTo L n).length : Nat) (frq L n : Nat) (rst L n : Nat) else 0
theorem adm_rng {way K : Int} {L : Nat → Nat → Bool} {n : Nat} (h : admB way K L n = true) : (1 ≤ n ∧ n ≤ 64) ∧ 1 ≤ way ∧ way ≤ 5 := by
  unfold admB at h
  rw [Bool.and_eq_true] at h
  have hr := h.1
  unfold rightB at hr
  simp only [Bool.and_eq_true, decide_eq_true_eq] at hr
  refine ⟨⟨hr.1, hr.2.1⟩, ?_⟩
  have h2 := h.2
  by_cases e1 : way = 1 ∨ way = 4
  · omega
  · rw [if_neg e1] at h2
    by_cases e2 : way = 2
    · omega
    · rw [if_neg e2] at h2
      by_cases e3 : way = 3
      · omega
      · rw [if_neg e3, Bool.and_eq_true, decide_eq_true_eq] at h2
        omega
theorem sd_rng {way nn size K : Int} {L : Nat → Nat → Bool} {n : Nat} (h : sdB way nn size K L n = true) : (1 ≤ n ∧ n ≤ 64) ∧ 1 ≤ way ∧ way ≤ 5 := by
  unfold sdB at h
  rw [Bool.and_eq_true] at h
  exact adm_rng h.1

set_option maxRecDepth 100000 in
set_option maxHeartbeats 8000000 in
theorem cost_any (way : Int) (ad : Option Addr) (n cap : Nat) (K : Int) (L : Nat → Nat → Bool) (hn : (n : Int) ≤ 1000) (nn size : Int) (w : World) (hR : RowC w ad n L w.heap.size) :
    Calls Tryz.prog 242 #[.int .i64 way, lv ad n cap K, .int .i64 nn, .int .i64 size] w fun e w' => e = .returned (.tuple #[.int .i64 (if sdB way nn size K L n then costV way nn size L n else 0), .bool (sdB way nn size K L n)]) ∧ Below w.heap.size w w' := by
  have hl := HoldsL.new w ad n cap K
  have hl0 := hl.below (((Below.refl _ _).alloc (Nat.le_refl _) (.cells #[.int .i64 nn] 3)) : Below _ _ ((w.alloc (.cells #[.slice ad n cap, .int .i64 K] 52)).alloc (.cells #[.int .i64 nn] 3))) hl.2.2
  have hN0 := Boxed.new (w.alloc (.cells #[.slice ad n cap, .int .i64 K] 52)) 3 (.int .i64 nn)
  have HB : Below w.heap.size w ((w.alloc (.cells #[.slice ad n cap, .int .i64 K] 52)).alloc (.cells #[.int .i64 nn] 3)) := ((Below.refl _ _).alloc (Nat.le_refl _) _).alloc (by simp) _
  have hR0 := hR.below HB (Nat.le_refl _)
  have hz0 : ((w.alloc (.cells #[.slice ad n cap, .int .i64 K] 52)).alloc (.cells #[.int .i64 nn] 3)).heap.size = w.heap.size + 2 := by simp
  rw [World.size_alloc] at hN0
  have hs := fun w' h' => szd_any way ad n cap K L hn nn size w' h'
  cases hsd : sdB way nn size K L n
  · rw [if_neg (by decide)]
    rw [hsd] at hs
    have HS := Lib.hid hs
    clear hs hsd
    go_enter Tryz.func242, Tryz.ntmps242
    go_wp2_with (first | (go_at_call 77; refine (HS.out _ (hR0.mono HB.size)).mono ?_; rintro e w1 ⟨rfl, hb1⟩))
    go_ret2
    exact ⟨rfl, HB.trans (hb1.mono HB.size)⟩
  · rw [if_pos rfl]
    have hrg := sd_rng hsd
    rw [hsd] at hs
    have HS := Lib.hid hs
    clear hs hsd
    obtain ⟨R, hRV⟩ : ∃ R, R = costV way nn size L n := ⟨_, rfl⟩
    rw [← hRV]
    unfold costV at hRV
    obtain ⟨N, hN⟩ : ∃ N, min nn 100000 = N := ⟨_, rfl⟩
    rw [hN] at hRV
    have HCV := Lib.hid hRV
    clear hRV
    obtain ⟨⟨g1, g2⟩, g3, g4⟩ := hrg
    have hrg : (1 ≤ (n : Int) ∧ (n : Int) ≤ 64) ∧ 1 ≤ way ∧ way ≤ 5 := by omega
    have HNN := Lib.hid hN
    clear hN
    go_enter Tryz.func242, Tryz.ntmps242
    go_wp2_with fail
    refine (HS.out _ (hR0.mono HB.size)).mono ?_
    rintro e w1 ⟨rfl, hb1⟩
    have hl1 := hl0.below hb1 (by omega)
    have hN1 := Boxed.low hN0 hb1 (by omega)
    have hR1 := hR0.below hb1 (by omega)
    have hRw := hR1
    have HB1 := HB.trans (hb1.mono (by omega))
    have hz1 : w.heap.size + 2 ≤ w1.heap.size := by have := hb1.size; omega
    have hN := HNN.out
    have hCV2 := HCV.out
    clear hl hl0 hN0 hR0 hz0 hb1 HB HS HNN HCV hR
    by_cases h100 : 100000 < nn
    · obtain rfl : N = 100000 := by rw [← hN]; exact Int.min_eq_right (by omega)
      have n0 := Boxed.cell hN1
      have n1 := Boxed.frozen hN1
      obtain ⟨c0, c1, cl⟩ := id hl1
      have hle1 : w.heap.size + 1 < w1.heap.size := by omega
      have hMA : Below w1.heap.size (w1.setCell ⟨w.heap.size + 1, 0, none⟩ (.int .i64 100000)) ((w1.setCell ⟨w.heap.size + 1, 0, none⟩ (.int .i64 100000)).alloc (.cells #[.int .i64 n] 3)) := (Below.refl _ _).alloc (by simp) _
      have hgb : w1.grownBy (w1.setCell ⟨w.heap.size + 1, 0, none⟩ (.int .i64 100000)) (some (w.heap.size + 1)) := grownBy_setCell' w1 (w.heap.size + 1) (.int .i64 100000)
      have hB1 : Below w.heap.size w1 (w1.setCell ⟨w.heap.size + 1, 0, none⟩ (.int .i64 100000)) := grown_below hgb (by omega) (fun k hk => by cases hk; omega)
      have hls := HoldsL.grw hl1 hgb (by omega)
      have hNs := Boxed.set (.int .i64 100000) hN1
      have hRs := hRw.below hB1 (by omega)
      have HBs := HB1.trans hB1
      have hm0 : Boxed ((w1.setCell ⟨w.heap.size + 1, 0, none⟩ (.int .i64 100000)).alloc (.cells #[.int .i64 n] 3)) w1.heap.size 3 (.int .i64 n) := by
        have := Boxed.new (w1.setCell ⟨w.heap.size + 1, 0, none⟩ (.int .i64 100000)) 3 (.int .i64 n)
        rwa [World.size_setCell] at this
      have hlA := hls.below hMA (by omega)
      have hNA := Boxed.low hNs hMA (by omega)
      have hRA := hRs.below hMA (by omega)
      have HBA := HBs.trans (hMA.mono (by omega))
      have hzA : ((w1.setCell ⟨w.heap.size + 1, 0, none⟩ (.int .i64 100000)).alloc (.cells #[.int .i64 n] 3)).heap.size = w1.heap.size + 1 := by simp
      clear hgb hB1 hl1 hN1 hR1 HB1 hRw hMA hls hNs hRs HBs
      obtain ⟨bm, hbm⟩ : ∃ bm, bm = w1.heap.size := ⟨_, rfl⟩
      have HBM := Lib.hid hbm
      clear hbm
      by_cases hnN : (n : Int) ≤ 100000
      · go_wp2_with fail
        have hbm := HBM.out
        rw [← hbm] at hm0 hzA ⊢
        have q1 : w.heap.size + 1 < bm := by omega
        have HN' := Lib.hid hN
        generalize ((w1.setCell ⟨w.heap.size + 1, 0, none⟩ (.int .i64 100000)).alloc (.cells #[.int .i64 n] 3)) = W2 at hlA hNA hRA HBA hzA hm0 ⊢
        clear hbm HBM hle1 hz1 n0 n1 c0 c1 cl hN
        refine (log_any size _).mono ?_
        rintro e w3 ⟨rfl, hb3⟩
        have hl3 := hlA.below hb3 (by omega)
        have hN3 := Boxed.low hNA hb3 (by omega)
        have hm3 := Boxed.low hm0 hb3 (by omega)
        have hR3 := hRA.below hb3 (by omega)
        have HB3 := HBA.trans (hb3.mono (by omega))
        have hz3 : bm < w3.heap.size := by have := hb3.size; omega
        clear hlA hNA hm0 hRA HBA hb3 hzA
        obtain ⟨c0, c1, cl⟩ := id hl3
        have n0 := Boxed.cell hN3
        have m0 := Boxed.cell hm3
        go_wp2_with fail
        refine (count_any (n : Int) 100000 size (by omega) hnN (by omega) (by omega) _).mono ?_
        rintro e w4 ⟨rfl, hb4⟩
        have hl4 := hl3.below hb4 (by omega)
        have hN4 := Boxed.low hN3 hb4 (by omega)
        have hm4 := Boxed.low hm3 hb4 (by omega)
        have hR4 := hR3.below hb4 (by omega)
        have HB4 := HB3.trans (hb4.mono (by omega))
        have hz4 : bm < w4.heap.size := by have := hb4.size; omega
        clear hl3 hN3 hm3 hR3 HB3 hb4 hz3 c0 c1 cl n0 m0
        obtain ⟨c0, c1, cl⟩ := id hl4
        obtain ⟨⟨x1, x2⟩, x3⟩ := cntV_in (m := n) (N := 100000) (size := size) (by omega) hnN (by omega)
        obtain ⟨x4, x5⟩ := xV_in (m := n) (N := 100000) (size := size) (by omega) hnN (by omega)
        have hxV : xV n 100000 size = cntV n 100000 size * size * ((lgV size : Nat) + 1) := rfl
        have hlv := lgV_le size
        rw [hxV] at x4 x5
        obtain ⟨x, hx⟩ : ∃ x, x = xV n 100000 size := ⟨_, rfl⟩
        rw [← hx] at hxV
        have hw1 : IntKind.i64.wrap (cntV n 100000 size * size) = cntV n 100000 size * size := by rw [IntKind.wrap_i64]; omega
        have hw2 : IntKind.i64.wrap (cntV n 100000 size * size * ((lgV size : Nat) + 1)) = x := by rw [IntKind.wrap_i64, hxV]; omega
        rw [← hxV] at x4 x5
        rw [← hx] at hCV2
        have HXV := Lib.hid hxV
        clear hxV hx
        have hx0 := Boxed.new w4 3 (.int .i64 x)
        have hXA : Below w4.heap.size w4 (w4.alloc (.cells #[.int .i64 x] 3)) := (Below.refl _ _).alloc (Nat.le_refl _) _
        have hl5 := hl4.below hXA (by omega)
        have hN5' := Boxed.low hN4 hXA (by omega)
        have hm5 := Boxed.low hm4 hXA (by omega)
        have hR5 := hR4.below hXA (by omega)
        have HB5 := HB4.trans (hXA.mono (by omega))
        have hz5 : (w4.alloc (.cells #[.int .i64 x] 3)).heap.size = w4.heap.size + 1 := by simp
        obtain ⟨bx, hbx⟩ : ∃ bx, bx = w4.heap.size := ⟨_, rfl⟩
        have HBX := Lib.hid hbx
        clear hbx hXA hl4 hN4 hm4 hR4 HB4
        generalize cntV n 100000 size = cc at *
        go_wp2_with fail
        have hbx := HBX.out
        rw [← hbx] at hx0 hz4 hz5 ⊢
        generalize (w4.alloc (.cells #[.int .i64 x] 3)) = W5 at hl5 hN5' hm5 hR5 HB5 hz5 hx0 ⊢
        clear hbx HBX c0 c1 cl hw1 hw2 HXV x1 x2 x3
        obtain ⟨c0, c1, cl⟩ := id hl5
        refine (parts_any ad n cap K L hn _ (hR5.mono HB5.size)).mono ?_
        rintro e w6 ⟨rfl, hb6⟩
        have hl6 := hl5.below hb6 (by omega)
        have hN6 := Boxed.low hN5' hb6 (by omega)
        have hm6 := Boxed.low hm5 hb6 (by omega)
        have hx6 := Boxed.low hx0 hb6 (by omega)
        have hR6 := hR5.below hb6 (by omega)
        have HB6 := HB5.trans (hb6.mono HB5.size)
        have hz6 : bx < w6.heap.size := by have := hb6.size; omega
        have hfl := frq_le L n
        have hrl := rst_le L n
        clear hl5 hN5' hm5 hR5 HB5 hb6 hz5 hx0 c0 c1 cl
        have hmm := @run_makeMap Tryz.prog
        have hW7 : ∃ W7, W7 = ((w6.alloc (.cells #[.int .i64 (frq L n : Nat)] 3)).alloc (.cells #[.int .i64 (rst L n : Nat)] 3)).alloc (.map #[] 0) := ⟨_, rfl⟩
        have hA7 : Below w6.heap.size w6 (((w6.alloc (.cells #[.int .i64 (frq L n : Nat)] 3)).alloc (.cells #[.int .i64 (rst L n : Nat)] 3)).alloc (.map #[] 0)) := (((Below.refl _ _).alloc (Nat.le_refl _) _).alloc (by simp) _).alloc (by simp; omega) _
        have hl7 := hl6.below hA7 (by omega)
        have hN7 := Boxed.low hN6 hA7 (by omega)
        have hm7 := Boxed.low hm6 hA7 (by omega)
        have hx7 := Boxed.low hx6 hA7 (by omega)
        have hR7 := hR6.below hA7 (by omega)
        have HB7 := HB6.trans (hA7.mono (by omega))
        have hf7 := ((Boxed.new w6 3 (.int .i64 (frq L n : Nat))).alloc (.cells #[.int .i64 (rst L n : Nat)] 3)).alloc (.map #[] 0)
        have hr7 := (Boxed.new (w6.alloc (.cells #[.int .i64 (frq L n : Nat)] 3)) 3 (.int .i64 (rst L n : Nat))).alloc (.map #[] 0)
        have hM0 := MapF.made ((w6.alloc (.cells #[.int .i64 (frq L n : Nat)] 3)).alloc (.cells #[.int .i64 (rst L n : Nat)] 3))
        have hz7 : (((w6.alloc (.cells #[.int .i64 (frq L n : Nat)] 3)).alloc (.cells #[.int .i64 (rst L n : Nat)] 3)).alloc (.map #[] 0)).heap.size = w6.heap.size + 3 := by simp
        rw [World.size_alloc] at hr7
        rw [World.size_alloc, World.size_alloc] at hM0
        clear hW7 hA7 hl6 hN6 hm6 hx6 hR6 HB6
        rw [if_pos hnN] at hCV2
        have h15 := hrg.2
        have hways : way = 1 ∨ way = 2 ∨ way = 3 ∨ way = 4 ∨ way = 5 := by omega
        have HC := Lib.hid hCV2
        clear hCV2
        rcases hways with rfl | rfl | rfl | rfl | rfl
        · go_wp2_with (first | (refine wpList_putF _ rfl _ _ _ (.inr rfl) rfl hM0 (by unfold maxLen; omega) 1 (by omega) (by omega) (.func (.func 243) #[] #[.pointer (some ⟨bm, 0, none⟩), .pointer (some ⟨w.heap.size + 1, 0, none⟩)]) rfl rfl ?_; intro v1 hM1 hg1) | (refine wpList_putF _ rfl _ _ _ (.inr rfl) rfl hM1 (by unfold maxLen; omega) 2 (by omega) (by omega) (.func (.func 244) #[] #[.pointer (some ⟨w.heap.size + 1, 0, none⟩), .pointer (some ⟨bm, 0, none⟩)]) rfl rfl ?_; intro v2 hM2 hg2) | (refine wpList_putF _ rfl _ _ _ (.inr rfl) rfl hM2 (by unfold maxLen; omega) 3 (by omega) (by omega) (.func (.func 245) #[] #[.pointer (some ⟨bx, 0, none⟩), .pointer (some ⟨w.heap.size + 1, 0, none⟩)]) rfl rfl ?_; intro v3 hM3 hg3) | (refine wpList_putF _ rfl _ _ _ (.inr rfl) rfl hM3 (by unfold maxLen; omega) 4 (by omega) (by omega) (.func (.func 246) #[] #[.pointer (some ⟨bx, 0, none⟩), .pointer (some ⟨w.heap.size + 1, 0, none⟩), .pointer (some ⟨w.heap.size, 0, none⟩)]) rfl rfl ?_; intro v4 hM4 hg4) | (refine wpList_putF _ rfl _ _ _ (.inr rfl) rfl hM4 (by unfold maxLen; omega) 5 (by omega) (by omega) (.func (.func 247) #[] #[.pointer (some ⟨bx, 0, none⟩), .pointer (some ⟨w.heap.size + 1, 0, none⟩), .pointer (some ⟨w6.heap.size, 0, none⟩), .pointer (some ⟨w6.heap.size + 1, 0, none⟩)]) rfl rfl ?_; intro v5 hM5 hg5; have hG := hg1.trans (hg2.trans (hg3.trans (hg4.trans hg5))); have lk := hM5.look 1 (by omega) (by omega); simp only [Int.reduceEq, reduceIte] at lk; have hN8 := Boxed.kept hN7 hG (by simp; omega); have hm8 := Boxed.kept hm7 hG (by simp; omega); have hx8 := Boxed.kept hx7 hG (by simp; omega); have hf8 := Boxed.kept hf7 hG (by simp <;> omega); have hr8 := Boxed.kept hr7 hG (by simp <;> omega); have hl8 := HoldsL.grw hl7 hG (by omega); have hB8 := grown_below (base := w6.heap.size) hG (by simp; omega) (fun j hj => by cases hj; omega); have z8 := hG.size; rw [hz7] at z8) | (go_at_call 243; refine (cost1_any bm (w.heap.size + 1) n 100000 (by omega) (by omega) (by omega) (by omega) _ (Boxed.cell hm8) (Boxed.cell hN8)).mono ?_; rintro e w9 ⟨rfl, hb9⟩))
          go_ret2
          rw [HC.out]
          exact ⟨rfl, HB7.trans ((hB8.mono (by omega)).trans (hb9.mono (by omega)))⟩
        · go_wp2_with (first | (refine wpList_putF _ rfl _ _ _ (.inr rfl) rfl hM0 (by unfold maxLen; omega) 1 (by omega) (by omega) (.func (.func 243) #[] #[.pointer (some ⟨bm, 0, none⟩), .pointer (some ⟨w.heap.size + 1, 0, none⟩)]) rfl rfl ?_; intro v1 hM1 hg1) | (refine wpList_putF _ rfl _ _ _ (.inr rfl) rfl hM1 (by unfold maxLen; omega) 2 (by omega) (by omega) (.func (.func 244) #[] #[.pointer (some ⟨w.heap.size + 1, 0, none⟩), .pointer (some ⟨bm, 0, none⟩)]) rfl rfl ?_; intro v2 hM2 hg2) | (refine wpList_putF _ rfl _ _ _ (.inr rfl) rfl hM2 (by unfold maxLen; omega) 3 (by omega) (by omega) (.func (.func 245) #[] #[.pointer (some ⟨bx, 0, none⟩), .pointer (some ⟨w.heap.size + 1, 0, none⟩)]) rfl rfl ?_; intro v3 hM3 hg3) | (refine wpList_putF _ rfl _ _ _ (.inr rfl) rfl hM3 (by unfold maxLen; omega) 4 (by omega) (by omega) (.func (.func 246) #[] #[.pointer (some ⟨bx, 0, none⟩), .pointer (some ⟨w.heap.size + 1, 0, none⟩), .pointer (some ⟨w.heap.size, 0, none⟩)]) rfl rfl ?_; intro v4 hM4 hg4) | (refine wpList_putF _ rfl _ _ _ (.inr rfl) rfl hM4 (by unfold maxLen; omega) 5 (by omega) (by omega) (.func (.func 247) #[] #[.pointer (some ⟨bx, 0, none⟩), .pointer (some ⟨w.heap.size + 1, 0, none⟩), .pointer (some ⟨w6.heap.size, 0, none⟩), .pointer (some ⟨w6.heap.size + 1, 0, none⟩)]) rfl rfl ?_; intro v5 hM5 hg5; have hG := hg1.trans (hg2.trans (hg3.trans (hg4.trans hg5))); have lk := hM5.look 2 (by omega) (by omega); simp only [Int.reduceEq, reduceIte] at lk; have hN8 := Boxed.kept hN7 hG (by simp; omega); have hm8 := Boxed.kept hm7 hG (by simp; omega); have hx8 := Boxed.kept hx7 hG (by simp; omega); have hf8 := Boxed.kept hf7 hG (by simp <;> omega); have hr8 := Boxed.kept hr7 hG (by simp <;> omega); have hl8 := HoldsL.grw hl7 hG (by omega); have hB8 := grown_below (base := w6.heap.size) hG (by simp; omega) (fun j hj => by cases hj; omega); have z8 := hG.size; rw [hz7] at z8) | (go_at_call 244; refine (cost2_any bm (w.heap.size + 1) n 100000 (by omega) (by omega) (by omega) (by omega) _ (Boxed.cell hm8) (Boxed.cell hN8)).mono ?_; rintro e w9 ⟨rfl, hb9⟩))
          go_ret2
          rw [HC.out]
          exact ⟨rfl, HB7.trans ((hB8.mono (by omega)).trans (hb9.mono (by omega)))⟩
        · go_wp2_with (first | (refine wpList_putF _ rfl _ _ _ (.inr rfl) rfl hM0 (by unfold maxLen; omega) 1 (by omega) (by omega) (.func (.func 243) #[] #[.pointer (some ⟨bm, 0, none⟩), .pointer (some ⟨w.heap.size + 1, 0, none⟩)]) rfl rfl ?_; intro v1 hM1 hg1) | (refine wpList_putF _ rfl _ _ _ (.inr rfl) rfl hM1 (by unfold maxLen; omega) 2 (by omega) (by omega) (.func (.func 244) #[] #[.pointer (some ⟨w.heap.size + 1, 0, none⟩), .pointer (some ⟨bm, 0, none⟩)]) rfl rfl ?_; intro v2 hM2 hg2) | (refine wpList_putF _ rfl _ _ _ (.inr rfl) rfl hM2 (by unfold maxLen; omega) 3 (by omega) (by omega) (.func (.func 245) #[] #[.pointer (some ⟨bx, 0, none⟩), .pointer (some ⟨w.heap.size + 1, 0, none⟩)]) rfl rfl ?_; intro v3 hM3 hg3) | (refine wpList_putF _ rfl _ _ _ (.inr rfl) rfl hM3 (by unfold maxLen; omega) 4 (by omega) (by omega) (.func (.func 246) #[] #[.pointer (some ⟨bx, 0, none⟩), .pointer (some ⟨w.heap.size + 1, 0, none⟩), .pointer (some ⟨w.heap.size, 0, none⟩)]) rfl rfl ?_; intro v4 hM4 hg4) | (refine wpList_putF _ rfl _ _ _ (.inr rfl) rfl hM4 (by unfold maxLen; omega) 5 (by omega) (by omega) (.func (.func 247) #[] #[.pointer (some ⟨bx, 0, none⟩), .pointer (some ⟨w.heap.size + 1, 0, none⟩), .pointer (some ⟨w6.heap.size, 0, none⟩), .pointer (some ⟨w6.heap.size + 1, 0, none⟩)]) rfl rfl ?_; intro v5 hM5 hg5; have hG := hg1.trans (hg2.trans (hg3.trans (hg4.trans hg5))); have lk := hM5.look 3 (by omega) (by omega); simp only [Int.reduceEq, reduceIte] at lk; have hN8 := Boxed.kept hN7 hG (by simp; omega); have hm8 := Boxed.kept hm7 hG (by simp; omega); have hx8 := Boxed.kept hx7 hG (by simp; omega); have hf8 := Boxed.kept hf7 hG (by simp <;> omega); have hr8 := Boxed.kept hr7 hG (by simp <;> omega); have hl8 := HoldsL.grw hl7 hG (by omega); have hB8 := grown_below (base := w6.heap.size) hG (by simp; omega) (fun j hj => by cases hj; omega); have z8 := hG.size; rw [hz7] at z8) | (go_at_call 245; refine (cost3_any bx (w.heap.size + 1) x 100000 (by omega) (by omega) (by omega) (by omega) _ (Boxed.cell hx8) (Boxed.cell hN8)).mono ?_; rintro e w9 ⟨rfl, hb9⟩))
          go_ret2
          rw [HC.out]
          exact ⟨rfl, HB7.trans ((hB8.mono (by omega)).trans (hb9.mono (by omega)))⟩
        · go_wp2_with (first | (refine wpList_putF _ rfl _ _ _ (.inr rfl) rfl hM0 (by unfold maxLen; omega) 1 (by omega) (by omega) (.func (.func 243) #[] #[.pointer (some ⟨bm, 0, none⟩), .pointer (some ⟨w.heap.size + 1, 0, none⟩)]) rfl rfl ?_; intro v1 hM1 hg1) | (refine wpList_putF _ rfl _ _ _ (.inr rfl) rfl hM1 (by unfold maxLen; omega) 2 (by omega) (by omega) (.func (.func 244) #[] #[.pointer (some ⟨w.heap.size + 1, 0, none⟩), .pointer (some ⟨bm, 0, none⟩)]) rfl rfl ?_; intro v2 hM2 hg2) | (refine wpList_putF _ rfl _ _ _ (.inr rfl) rfl hM2 (by unfold maxLen; omega) 3 (by omega) (by omega) (.func (.func 245) #[] #[.pointer (some ⟨bx, 0, none⟩), .pointer (some ⟨w.heap.size + 1, 0, none⟩)]) rfl rfl ?_; intro v3 hM3 hg3) | (refine wpList_putF _ rfl _ _ _ (.inr rfl) rfl hM3 (by unfold maxLen; omega) 4 (by omega) (by omega) (.func (.func 246) #[] #[.pointer (some ⟨bx, 0, none⟩), .pointer (some ⟨w.heap.size + 1, 0, none⟩), .pointer (some ⟨w.heap.size, 0, none⟩)]) rfl rfl ?_; intro v4 hM4 hg4) | (refine wpList_putF _ rfl _ _ _ (.inr rfl) rfl hM4 (by unfold maxLen; omega) 5 (by omega) (by omega) (.func (.func 247) #[] #[.pointer (some ⟨bx, 0, none⟩), .pointer (some ⟨w.heap.size + 1, 0, none⟩), .pointer (some ⟨w6.heap.size, 0, none⟩), .pointer (some ⟨w6.heap.size + 1, 0, none⟩)]) rfl rfl ?_; intro v5 hM5 hg5; have hG := hg1.trans (hg2.trans (hg3.trans (hg4.trans hg5))); have lk := hM5.look 4 (by omega) (by omega); simp only [Int.reduceEq, reduceIte] at lk; have hN8 := Boxed.kept hN7 hG (by simp; omega); have hm8 := Boxed.kept hm7 hG (by simp; omega); have hx8 := Boxed.kept hx7 hG (by simp; omega); have hf8 := Boxed.kept hf7 hG (by simp <;> omega); have hr8 := Boxed.kept hr7 hG (by simp <;> omega); have hl8 := HoldsL.grw hl7 hG (by omega); have hB8 := grown_below (base := w6.heap.size) hG (by simp; omega) (fun j hj => by cases hj; omega); have z8 := hG.size; rw [hz7] at z8) | (go_at_call 246; refine (cost4_any bx (w.heap.size + 1) w.heap.size x 100000 (by omega) (by omega) (by omega) (by omega) ad n cap K L hn _ ((hR7.below hB8 (by omega)).mono (by omega)) hl8 (Boxed.cell hx8) (Boxed.cell hN8) (by omega) (by omega)).mono ?_; rintro e w9 ⟨rfl, hb9⟩))
          go_ret2
          rw [HC.out]
          exact ⟨rfl, HB7.trans ((hB8.mono (by omega)).trans (hb9.mono (by omega)))⟩
        · go_wp2_with (first | (refine wpList_putF _ rfl _ _ _ (.inr rfl) rfl hM0 (by unfold maxLen; omega) 1 (by omega) (by omega) (.func (.func 243) #[] #[.pointer (some ⟨bm, 0, none⟩), .pointer (some ⟨w.heap.size + 1, 0, none⟩)]) rfl rfl ?_; intro v1 hM1 hg1) | (refine wpList_putF _ rfl _ _ _ (.inr rfl) rfl hM1 (by unfold maxLen; omega) 2 (by omega) (by omega) (.func (.func 244) #[] #[.pointer (some ⟨w.heap.size + 1, 0, none⟩), .pointer (some ⟨bm, 0, none⟩)]) rfl rfl ?_; intro v2 hM2 hg2) | (refine wpList_putF _ rfl _ _ _ (.inr rfl) rfl hM2 (by unfold maxLen; omega) 3 (by omega) (by omega) (.func (.func 245) #[] #[.pointer (some ⟨bx, 0, none⟩), .pointer (some ⟨w.heap.size + 1, 0, none⟩)]) rfl rfl ?_; intro v3 hM3 hg3) | (refine wpList_putF _ rfl _ _ _ (.inr rfl) rfl hM3 (by unfold maxLen; omega) 4 (by omega) (by omega) (.func (.func 246) #[] #[.pointer (some ⟨bx, 0, none⟩), .pointer (some ⟨w.heap.size + 1, 0, none⟩), .pointer (some ⟨w.heap.size, 0, none⟩)]) rfl rfl ?_; intro v4 hM4 hg4) | (refine wpList_putF _ rfl _ _ _ (.inr rfl) rfl hM4 (by unfold maxLen; omega) 5 (by omega) (by omega) (.func (.func 247) #[] #[.pointer (some ⟨bx, 0, none⟩), .pointer (some ⟨w.heap.size + 1, 0, none⟩), .pointer (some ⟨w6.heap.size, 0, none⟩), .pointer (some ⟨w6.heap.size + 1, 0, none⟩)]) rfl rfl ?_; intro v5 hM5 hg5; have hG := hg1.trans (hg2.trans (hg3.trans (hg4.trans hg5))); have lk := hM5.look 5 (by omega) (by omega); simp only [Int.reduceEq, reduceIte] at lk; have hN8 := Boxed.kept hN7 hG (by simp; omega); have hm8 := Boxed.kept hm7 hG (by simp; omega); have hx8 := Boxed.kept hx7 hG (by simp; omega); have hf8 := Boxed.kept hf7 hG (by simp <;> omega); have hr8 := Boxed.kept hr7 hG (by simp <;> omega); have hl8 := HoldsL.grw hl7 hG (by omega); have hB8 := grown_below (base := w6.heap.size) hG (by simp; omega) (fun j hj => by cases hj; omega); have z8 := hG.size; rw [hz7] at z8) | (go_at_call 247; refine (cost5_any bx (w.heap.size + 1) w6.heap.size (w6.heap.size + 1) x 100000 (frq L n : Nat) (rst L n : Nat) (by omega) (by omega) (by omega) (by omega) (by omega) (by omega) (by omega) (by omega) _ (Boxed.cell hx8) (Boxed.cell hN8) (Boxed.cell hf8) (Boxed.cell hr8)).mono ?_; rintro e w9 ⟨rfl, hb9⟩))
          go_ret2
          rw [HC.out]
          exact ⟨rfl, HB7.trans ((hB8.mono (by omega)).trans (hb9.mono (by omega)))⟩
      · omega
    · obtain rfl : N = nn := by rw [← hN]; exact Int.min_eq_left (by omega)
      have n0 := Boxed.cell hN1
      have n1 := Boxed.frozen hN1
      obtain ⟨c0, c1, cl⟩ := id hl1
      have hle1 : w.heap.size + 1 < w1.heap.size := by omega
      have hMA : Below w1.heap.size (w1.setCell ⟨w.heap.size + 1, 0, none⟩ (.int .i64 N)) ((w1.setCell ⟨w.heap.size + 1, 0, none⟩ (.int .i64 N)).alloc (.cells #[.int .i64 n] 3)) := (Below.refl _ _).alloc (by simp) _
      have hgb : w1.grownBy (w1.setCell ⟨w.heap.size + 1, 0, none⟩ (.int .i64 N)) (some (w.heap.size + 1)) := grownBy_setCell' w1 (w.heap.size + 1) (.int .i64 N)
      have hB1 : Below w.heap.size w1 (w1.setCell ⟨w.heap.size + 1, 0, none⟩ (.int .i64 N)) := grown_below hgb (by omega) (fun k hk => by cases hk; omega)
      have hls := HoldsL.grw hl1 hgb (by omega)
      have hNs := Boxed.set (.int .i64 N) hN1
      have hRs := hRw.below hB1 (by omega)
      have HBs := HB1.trans hB1
      have hm0 : Boxed ((w1.setCell ⟨w.heap.size + 1, 0, none⟩ (.int .i64 N)).alloc (.cells #[.int .i64 n] 3)) w1.heap.size 3 (.int .i64 n) := by
        have := Boxed.new (w1.setCell ⟨w.heap.size + 1, 0, none⟩ (.int .i64 N)) 3 (.int .i64 n)
        rwa [World.size_setCell] at this
      have hlA := hls.below hMA (by omega)
      have hNA := Boxed.low hNs hMA (by omega)
      have hRA := hRs.below hMA (by omega)
      have HBA := HBs.trans (hMA.mono (by omega))
      have hzA : ((w1.setCell ⟨w.heap.size + 1, 0, none⟩ (.int .i64 N)).alloc (.cells #[.int .i64 n] 3)).heap.size = w1.heap.size + 1 := by simp
      clear hgb hB1 hl1 hN1 hR1 HB1 hRw hMA hls hNs hRs HBs
      obtain ⟨bm, hbm⟩ : ∃ bm, bm = w1.heap.size := ⟨_, rfl⟩
      have HBM := Lib.hid hbm
      clear hbm
      by_cases hnN : (n : Int) ≤ N
      · go_wp2_with fail
        have hbm := HBM.out
        rw [← hbm] at hm0 hzA ⊢
        have q1 : w.heap.size + 1 < bm := by omega
        have HN' := Lib.hid hN
        generalize ((w1.setCell ⟨w.heap.size + 1, 0, none⟩ (.int .i64 N)).alloc (.cells #[.int .i64 n] 3)) = W2 at hlA hNA hRA HBA hzA hm0 ⊢
        clear hbm HBM hle1 hz1 n0 n1 c0 c1 cl hN
        refine (log_any size _).mono ?_
        rintro e w3 ⟨rfl, hb3⟩
        have hl3 := hlA.below hb3 (by omega)
        have hN3 := Boxed.low hNA hb3 (by omega)
        have hm3 := Boxed.low hm0 hb3 (by omega)
        have hR3 := hRA.below hb3 (by omega)
        have HB3 := HBA.trans (hb3.mono (by omega))
        have hz3 : bm < w3.heap.size := by have := hb3.size; omega
        clear hlA hNA hm0 hRA HBA hb3 hzA
        obtain ⟨c0, c1, cl⟩ := id hl3
        have n0 := Boxed.cell hN3
        have m0 := Boxed.cell hm3
        go_wp2_with fail
        refine (count_any (n : Int) N size (by omega) hnN (by omega) (by omega) _).mono ?_
        rintro e w4 ⟨rfl, hb4⟩
        have hl4 := hl3.below hb4 (by omega)
        have hN4 := Boxed.low hN3 hb4 (by omega)
        have hm4 := Boxed.low hm3 hb4 (by omega)
        have hR4 := hR3.below hb4 (by omega)
        have HB4 := HB3.trans (hb4.mono (by omega))
        have hz4 : bm < w4.heap.size := by have := hb4.size; omega
        clear hl3 hN3 hm3 hR3 HB3 hb4 hz3 c0 c1 cl n0 m0
        obtain ⟨c0, c1, cl⟩ := id hl4
        obtain ⟨⟨x1, x2⟩, x3⟩ := cntV_in (m := n) (N := N) (size := size) (by omega) hnN (by omega)
        obtain ⟨x4, x5⟩ := xV_in (m := n) (N := N) (size := size) (by omega) hnN (by omega)
        have hxV : xV n N size = cntV n N size * size * ((lgV size : Nat) + 1) := rfl
        have hlv := lgV_le size
        rw [hxV] at x4 x5
        obtain ⟨x, hx⟩ : ∃ x, x = xV n N size := ⟨_, rfl⟩
        rw [← hx] at hxV
        have hw1 : IntKind.i64.wrap (cntV n N size * size) = cntV n N size * size := by rw [IntKind.wrap_i64]; omega
        have hw2 : IntKind.i64.wrap (cntV n N size * size * ((lgV size : Nat) + 1)) = x := by rw [IntKind.wrap_i64, hxV]; omega
        rw [← hxV] at x4 x5
        rw [← hx] at hCV2
        have HXV := Lib.hid hxV
        clear hxV hx
        have hx0 := Boxed.new w4 3 (.int .i64 x)
        have hXA : Below w4.heap.size w4 (w4.alloc (.cells #[.int .i64 x] 3)) := (Below.refl _ _).alloc (Nat.le_refl _) _
        have hl5 := hl4.below hXA (by omega)
        have hN5' := Boxed.low hN4 hXA (by omega)
        have hm5 := Boxed.low hm4 hXA (by omega)
        have hR5 := hR4.below hXA (by omega)
        have HB5 := HB4.trans (hXA.mono (by omega))
        have hz5 : (w4.alloc (.cells #[.int .i64 x] 3)).heap.size = w4.heap.size + 1 := by simp
        obtain ⟨bx, hbx⟩ : ∃ bx, bx = w4.heap.size := ⟨_, rfl⟩
        have HBX := Lib.hid hbx
        clear hbx hXA hl4 hN4 hm4 hR4 HB4
        generalize cntV n N size = cc at *
        go_wp2_with fail
        have hbx := HBX.out
        rw [← hbx] at hx0 hz4 hz5 ⊢
        generalize (w4.alloc (.cells #[.int .i64 x] 3)) = W5 at hl5 hN5' hm5 hR5 HB5 hz5 hx0 ⊢
        clear hbx HBX c0 c1 cl hw1 hw2 HXV x1 x2 x3
        obtain ⟨c0, c1, cl⟩ := id hl5
        refine (parts_any ad n cap K L hn _ (hR5.mono HB5.size)).mono ?_
        rintro e w6 ⟨rfl, hb6⟩
        have hl6 := hl5.below hb6 (by omega)
        have hN6 := Boxed.low hN5' hb6 (by omega)
        have hm6 := Boxed.low hm5 hb6 (by omega)
        have hx6 := Boxed.low hx0 hb6 (by omega)
        have hR6 := hR5.below hb6 (by omega)
        have HB6 := HB5.trans (hb6.mono HB5.size)
        have hz6 : bx < w6.heap.size := by have := hb6.size; omega
        have hfl := frq_le L n
        have hrl := rst_le L n
        clear hl5 hN5' hm5 hR5 HB5 hb6 hz5 hx0 c0 c1 cl
        have hmm := @run_makeMap Tryz.prog
        have hW7 : ∃ W7, W7 = ((w6.alloc (.cells #[.int .i64 (frq L n : Nat)] 3)).alloc (.cells #[.int .i64 (rst L n : Nat)] 3)).alloc (.map #[] 0) := ⟨_, rfl⟩
        have hA7 : Below w6.heap.size w6 (((w6.alloc (.cells #[.int .i64 (frq L n : Nat)] 3)).alloc (.cells #[.int .i64 (rst L n : Nat)] 3)).alloc (.map #[] 0)) := (((Below.refl _ _).alloc (Nat.le_refl _) _).alloc (by simp) _).alloc (by simp; omega) _
        have hl7 := hl6.below hA7 (by omega)
        have hN7 := Boxed.low hN6 hA7 (by omega)
        have hm7 := Boxed.low hm6 hA7 (by omega)
        have hx7 := Boxed.low hx6 hA7 (by omega)
        have hR7 := hR6.below hA7 (by omega)
        have HB7 := HB6.trans (hA7.mono (by omega))
        have hf7 := ((Boxed.new w6 3 (.int .i64 (frq L n : Nat))).alloc (.cells #[.int .i64 (rst L n : Nat)] 3)).alloc (.map #[] 0)
        have hr7 := (Boxed.new (w6.alloc (.cells #[.int .i64 (frq L n : Nat)] 3)) 3 (.int .i64 (rst L n : Nat))).alloc (.map #[] 0)
        have hM0 := MapF.made ((w6.alloc (.cells #[.int .i64 (frq L n : Nat)] 3)).alloc (.cells #[.int .i64 (rst L n : Nat)] 3))
        have hz7 : (((w6.alloc (.cells #[.int .i64 (frq L n : Nat)] 3)).alloc (.cells #[.int .i64 (rst L n : Nat)] 3)).alloc (.map #[] 0)).heap.size = w6.heap.size + 3 := by simp
        rw [World.size_alloc] at hr7
        rw [World.size_alloc, World.size_alloc] at hM0
        clear hW7 hA7 hl6 hN6 hm6 hx6 hR6 HB6
        rw [if_pos hnN] at hCV2
        have h15 := hrg.2
        have hways : way = 1 ∨ way = 2 ∨ way = 3 ∨ way = 4 ∨ way = 5 := by omega
        have HC := Lib.hid hCV2
        clear hCV2
        rcases hways with rfl | rfl | rfl | rfl | rfl
        · go_wp2_with (first | (refine wpList_putF _ rfl _ _ _ (.inr rfl) rfl hM0 (by unfold maxLen; omega) 1 (by omega) (by omega) (.func (.func 243) #[] #[.pointer (some ⟨bm, 0, none⟩), .pointer (some ⟨w.heap.size + 1, 0, none⟩)]) rfl rfl ?_; intro v1 hM1 hg1) | (refine wpList_putF _ rfl _ _ _ (.inr rfl) rfl hM1 (by unfold maxLen; omega) 2 (by omega) (by omega) (.func (.func 244) #[] #[.pointer (some ⟨w.heap.size + 1, 0, none⟩), .pointer (some ⟨bm, 0, none⟩)]) rfl rfl ?_; intro v2 hM2 hg2) | (refine wpList_putF _ rfl _ _ _ (.inr rfl) rfl hM2 (by unfold maxLen; omega) 3 (by omega) (by omega) (.func (.func 245) #[] #[.pointer (some ⟨bx, 0, none⟩), .pointer (some ⟨w.heap.size + 1, 0, none⟩)]) rfl rfl ?_; intro v3 hM3 hg3) | (refine wpList_putF _ rfl _ _ _ (.inr rfl) rfl hM3 (by unfold maxLen; omega) 4 (by omega) (by omega) (.func (.func 246) #[] #[.pointer (some ⟨bx, 0, none⟩), .pointer (some ⟨w.heap.size + 1, 0, none⟩), .pointer (some ⟨w.heap.size, 0, none⟩)]) rfl rfl ?_; intro v4 hM4 hg4) | (refine wpList_putF _ rfl _ _ _ (.inr rfl) rfl hM4 (by unfold maxLen; omega) 5 (by omega) (by omega) (.func (.func 247) #[] #[.pointer (some ⟨bx, 0, none⟩), .pointer (some ⟨w.heap.size + 1, 0, none⟩), .pointer (some ⟨w6.heap.size, 0, none⟩), .pointer (some ⟨w6.heap.size + 1, 0, none⟩)]) rfl rfl ?_; intro v5 hM5 hg5; have hG := hg1.trans (hg2.trans (hg3.trans (hg4.trans hg5))); have lk := hM5.look 1 (by omega) (by omega); simp only [Int.reduceEq, reduceIte] at lk; have hN8 := Boxed.kept hN7 hG (by simp; omega); have hm8 := Boxed.kept hm7 hG (by simp; omega); have hx8 := Boxed.kept hx7 hG (by simp; omega); have hf8 := Boxed.kept hf7 hG (by simp <;> omega); have hr8 := Boxed.kept hr7 hG (by simp <;> omega); have hl8 := HoldsL.grw hl7 hG (by omega); have hB8 := grown_below (base := w6.heap.size) hG (by simp; omega) (fun j hj => by cases hj; omega); have z8 := hG.size; rw [hz7] at z8) | (go_at_call 243; refine (cost1_any bm (w.heap.size + 1) n N (by omega) (by omega) (by omega) (by omega) _ (Boxed.cell hm8) (Boxed.cell hN8)).mono ?_; rintro e w9 ⟨rfl, hb9⟩))
          go_ret2
          rw [HC.out]
          exact ⟨rfl, HB7.trans ((hB8.mono (by omega)).trans (hb9.mono (by omega)))⟩
        · go_wp2_with (first | (refine wpList_putF _ rfl _ _ _ (.inr rfl) rfl hM0 (by unfold maxLen; omega) 1 (by omega) (by omega) (.func (.func 243) #[] #[.pointer (some ⟨bm, 0, none⟩), .pointer (some ⟨w.heap.size + 1, 0, none⟩)]) rfl rfl ?_; intro v1 hM1 hg1) | (refine wpList_putF _ rfl _ _ _ (.inr rfl) rfl hM1 (by unfold maxLen; omega) 2 (by omega) (by omega) (.func (.func 244) #[] #[.pointer (some ⟨w.heap.size + 1, 0, none⟩), .pointer (some ⟨bm, 0, none⟩)]) rfl rfl ?_; intro v2 hM2 hg2) | (refine wpList_putF _ rfl _ _ _ (.inr rfl) rfl hM2 (by unfold maxLen; omega) 3 (by omega) (by omega) (.func (.func 245) #[] #[.pointer (some ⟨bx, 0, none⟩), .pointer (some ⟨w.heap.size + 1, 0, none⟩)]) rfl rfl ?_; intro v3 hM3 hg3) | (refine wpList_putF _ rfl _ _ _ (.inr rfl) rfl hM3 (by unfold maxLen; omega) 4 (by omega) (by omega) (.func (.func 246) #[] #[.pointer (some ⟨bx, 0, none⟩), .pointer (some ⟨w.heap.size + 1, 0, none⟩), .pointer (some ⟨w.heap.size, 0, none⟩)]) rfl rfl ?_; intro v4 hM4 hg4) | (refine wpList_putF _ rfl _ _ _ (.inr rfl) rfl hM4 (by unfold maxLen; omega) 5 (by omega) (by omega) (.func (.func 247) #[] #[.pointer (some ⟨bx, 0, none⟩), .pointer (some ⟨w.heap.size + 1, 0, none⟩), .pointer (some ⟨w6.heap.size, 0, none⟩), .pointer (some ⟨w6.heap.size + 1, 0, none⟩)]) rfl rfl ?_; intro v5 hM5 hg5; have hG := hg1.trans (hg2.trans (hg3.trans (hg4.trans hg5))); have lk := hM5.look 2 (by omega) (by omega); simp only [Int.reduceEq, reduceIte] at lk; have hN8 := Boxed.kept hN7 hG (by simp; omega); have hm8 := Boxed.kept hm7 hG (by simp; omega); have hx8 := Boxed.kept hx7 hG (by simp; omega); have hf8 := Boxed.kept hf7 hG (by simp <;> omega); have hr8 := Boxed.kept hr7 hG (by simp <;> omega); have hl8 := HoldsL.grw hl7 hG (by omega); have hB8 := grown_below (base := w6.heap.size) hG (by simp; omega) (fun j hj => by cases hj; omega); have z8 := hG.size; rw [hz7] at z8) | (go_at_call 244; refine (cost2_any bm (w.heap.size + 1) n N (by omega) (by omega) (by omega) (by omega) _ (Boxed.cell hm8) (Boxed.cell hN8)).mono ?_; rintro e w9 ⟨rfl, hb9⟩))
          go_ret2
          rw [HC.out]
          exact ⟨rfl, HB7.trans ((hB8.mono (by omega)).trans (hb9.mono (by omega)))⟩
        · go_wp2_with (first | (refine wpList_putF _ rfl _ _ _ (.inr rfl) rfl hM0 (by unfold maxLen; omega) 1 (by omega) (by omega) (.func (.func 243) #[] #[.pointer (some ⟨bm, 0, none⟩), .pointer (some ⟨w.heap.size + 1, 0, none⟩)]) rfl rfl ?_; intro v1 hM1 hg1) | (refine wpList_putF _ rfl _ _ _ (.inr rfl) rfl hM1 (by unfold maxLen; omega) 2 (by omega) (by omega) (.func (.func 244) #[] #[.pointer (some ⟨w.heap.size + 1, 0, none⟩), .pointer (some ⟨bm, 0, none⟩)]) rfl rfl ?_; intro v2 hM2 hg2) | (refine wpList_putF _ rfl _ _ _ (.inr rfl) rfl hM2 (by unfold maxLen; omega) 3 (by omega) (by omega) (.func (.func 245) #[] #[.pointer (some ⟨bx, 0, none⟩), .pointer (some ⟨w.heap.size + 1, 0, none⟩)]) rfl rfl ?_; intro v3 hM3 hg3) | (refine wpList_putF _ rfl _ _ _ (.inr rfl) rfl hM3 (by unfold maxLen; omega) 4 (by omega) (by omega) (.func (.func 246) #[] #[.pointer (some ⟨bx, 0, none⟩), .pointer (some ⟨w.heap.size + 1, 0, none⟩), .pointer (some ⟨w.heap.size, 0, none⟩)]) rfl rfl ?_; intro v4 hM4 hg4) | (refine wpList_putF _ rfl _ _ _ (.inr rfl) rfl hM4 (by unfold maxLen; omega) 5 (by omega) (by omega) (.func (.func 247) #[] #[.pointer (some ⟨bx, 0, none⟩), .pointer (some ⟨w.heap.size + 1, 0, none⟩), .pointer (some ⟨w6.heap.size, 0, none⟩), .pointer (some ⟨w6.heap.size + 1, 0, none⟩)]) rfl rfl ?_; intro v5 hM5 hg5; have hG := hg1.trans (hg2.trans (hg3.trans (hg4.trans hg5))); have lk := hM5.look 3 (by omega) (by omega); simp only [Int.reduceEq, reduceIte] at lk; have hN8 := Boxed.kept hN7 hG (by simp; omega); have hm8 := Boxed.kept hm7 hG (by simp; omega); have hx8 := Boxed.kept hx7 hG (by simp; omega); have hf8 := Boxed.kept hf7 hG (by simp <;> omega); have hr8 := Boxed.kept hr7 hG (by simp <;> omega); have hl8 := HoldsL.grw hl7 hG (by omega); have hB8 := grown_below (base := w6.heap.size) hG (by simp; omega) (fun j hj => by cases hj; omega); have z8 := hG.size; rw [hz7] at z8) | (go_at_call 245; refine (cost3_any bx (w.heap.size + 1) x N (by omega) (by omega) (by omega) (by omega) _ (Boxed.cell hx8) (Boxed.cell hN8)).mono ?_; rintro e w9 ⟨rfl, hb9⟩))
          go_ret2
          rw [HC.out]
          exact ⟨rfl, HB7.trans ((hB8.mono (by omega)).trans (hb9.mono (by omega)))⟩
        · go_wp2_with (first | (refine wpList_putF _ rfl _ _ _ (.inr rfl) rfl hM0 (by unfold maxLen; omega) 1 (by omega) (by omega) (.func (.func 243) #[] #[.pointer (some ⟨bm, 0, none⟩), .pointer (some ⟨w.heap.size + 1, 0, none⟩)]) rfl rfl ?_; intro v1 hM1 hg1) | (refine wpList_putF _ rfl _ _ _ (.inr rfl) rfl hM1 (by unfold maxLen; omega) 2 (by omega) (by omega) (.func (.func 244) #[] #[.pointer (some ⟨w.heap.size + 1, 0, none⟩), .pointer (some ⟨bm, 0, none⟩)]) rfl rfl ?_; intro v2 hM2 hg2) | (refine wpList_putF _ rfl _ _ _ (.inr rfl) rfl hM2 (by unfold maxLen; omega) 3 (by omega) (by omega) (.func (.func 245) #[] #[.pointer (some ⟨bx, 0, none⟩), .pointer (some ⟨w.heap.size + 1, 0, none⟩)]) rfl rfl ?_; intro v3 hM3 hg3) | (refine wpList_putF _ rfl _ _ _ (.inr rfl) rfl hM3 (by unfold maxLen; omega) 4 (by omega) (by omega) (.func (.func 246) #[] #[.pointer (some ⟨bx, 0, none⟩), .pointer (some ⟨w.heap.size + 1, 0, none⟩), .pointer (some ⟨w.heap.size, 0, none⟩)]) rfl rfl ?_; intro v4 hM4 hg4) | (refine wpList_putF _ rfl _ _ _ (.inr rfl) rfl hM4 (by unfold maxLen; omega) 5 (by omega) (by omega) (.func (.func 247) #[] #[.pointer (some ⟨bx, 0, none⟩), .pointer (some ⟨w.heap.size + 1, 0, none⟩), .pointer (some ⟨w6.heap.size, 0, none⟩), .pointer (some ⟨w6.heap.size + 1, 0, none⟩)]) rfl rfl ?_; intro v5 hM5 hg5; have hG := hg1.trans (hg2.trans (hg3.trans (hg4.trans hg5))); have lk := hM5.look 4 (by omega) (by omega); simp only [Int.reduceEq, reduceIte] at lk; have hN8 := Boxed.kept hN7 hG (by simp; omega); have hm8 := Boxed.kept hm7 hG (by simp; omega); have hx8 := Boxed.kept hx7 hG (by simp; omega); have hf8 := Boxed.kept hf7 hG (by simp <;> omega); have hr8 := Boxed.kept hr7 hG (by simp <;> omega); have hl8 := HoldsL.grw hl7 hG (by omega); have hB8 := grown_below (base := w6.heap.size) hG (by simp; omega) (fun j hj => by cases hj; omega); have z8 := hG.size; rw [hz7] at z8) | (go_at_call 246; refine (cost4_any bx (w.heap.size + 1) w.heap.size x N (by omega) (by omega) (by omega) (by omega) ad n cap K L hn _ ((hR7.below hB8 (by omega)).mono (by omega)) hl8 (Boxed.cell hx8) (Boxed.cell hN8) (by omega) (by omega)).mono ?_; rintro e w9 ⟨rfl, hb9⟩))
          go_ret2
          rw [HC.out]
          exact ⟨rfl, HB7.trans ((hB8.mono (by omega)).trans (hb9.mono (by omega)))⟩
        · go_wp2_with (first | (refine wpList_putF _ rfl _ _ _ (.inr rfl) rfl hM0 (by unfold maxLen; omega) 1 (by omega) (by omega) (.func (.func 243) #[] #[.pointer (some ⟨bm, 0, none⟩), .pointer (some ⟨w.heap.size + 1, 0, none⟩)]) rfl rfl ?_; intro v1 hM1 hg1) | (refine wpList_putF _ rfl _ _ _ (.inr rfl) rfl hM1 (by unfold maxLen; omega) 2 (by omega) (by omega) (.func (.func 244) #[] #[.pointer (some ⟨w.heap.size + 1, 0, none⟩), .pointer (some ⟨bm, 0, none⟩)]) rfl rfl ?_; intro v2 hM2 hg2) | (refine wpList_putF _ rfl _ _ _ (.inr rfl) rfl hM2 (by unfold maxLen; omega) 3 (by omega) (by omega) (.func (.func 245) #[] #[.pointer (some ⟨bx, 0, none⟩), .pointer (some ⟨w.heap.size + 1, 0, none⟩)]) rfl rfl ?_; intro v3 hM3 hg3) | (refine wpList_putF _ rfl _ _ _ (.inr rfl) rfl hM3 (by unfold maxLen; omega) 4 (by omega) (by omega) (.func (.func 246) #[] #[.pointer (some ⟨bx, 0, none⟩), .pointer (some ⟨w.heap.size + 1, 0, none⟩), .pointer (some ⟨w.heap.size, 0, none⟩)]) rfl rfl ?_; intro v4 hM4 hg4) | (refine wpList_putF _ rfl _ _ _ (.inr rfl) rfl hM4 (by unfold maxLen; omega) 5 (by omega) (by omega) (.func (.func 247) #[] #[.pointer (some ⟨bx, 0, none⟩), .pointer (some ⟨w.heap.size + 1, 0, none⟩), .pointer (some ⟨w6.heap.size, 0, none⟩), .pointer (some ⟨w6.heap.size + 1, 0, none⟩)]) rfl rfl ?_; intro v5 hM5 hg5; have hG := hg1.trans (hg2.trans (hg3.trans (hg4.trans hg5))); have lk := hM5.look 5 (by omega) (by omega); simp only [Int.reduceEq, reduceIte] at lk; have hN8 := Boxed.kept hN7 hG (by simp; omega); have hm8 := Boxed.kept hm7 hG (by simp; omega); have hx8 := Boxed.kept hx7 hG (by simp; omega); have hf8 := Boxed.kept hf7 hG (by simp <;> omega); have hr8 := Boxed.kept hr7 hG (by simp <;> omega); have hl8 := HoldsL.grw hl7 hG (by omega); have hB8 := grown_below (base := w6.heap.size) hG (by simp; omega) (fun j hj => by cases hj; omega); have z8 := hG.size; rw [hz7] at z8) | (go_at_call 247; refine (cost5_any bx (w.heap.size + 1) w6.heap.size (w6.heap.size + 1) x N (frq L n : Nat) (rst L n : Nat) (by omega) (by omega) (by omega) (by omega) (by omega) (by omega) (by omega) (by omega) _ (Boxed.cell hx8) (Boxed.cell hN8) (Boxed.cell hf8) (Boxed.cell hr8)).mono ?_; rintro e w9 ⟨rfl, hb9⟩))
          go_ret2
          rw [HC.out]
          exact ⟨rfl, HB7.trans ((hB8.mono (by omega)).trans (hb9.mono (by omega)))⟩
      · rw [if_neg hnN] at hCV2
        have HC := Lib.hid hCV2
        clear hCV2
        go_wp2
        go_ret2
        rw [HC.out]
        exact ⟨rfl, HBA⟩
end Go.Proofs.YtjfkmoinldlmaaaGreat

/- What a way costs, as the document says: walk of beagleref16.Cost. -/
namespace Go.Proofs.YtjfkmoinldlmaaaGreat
open Go.RowKit

end Go.Proofs.YtjfkmoinldlmaaaGreat
