/- How many transforms: walks of block.Count, of beagleref05.Count and of beagleref10.Size. -/
import Derived.Test.YtkhcjjdamphbfaaK1
namespace Go.Proofs.Ytkhcjjdamphbfaa
open Go.RowKit

theorem lg_size {n : Int} (h : lgB n = true) : 1 ≤ n ∧ n ≤ 4096 := by
  unfold lgB at h
  rw [decide_eq_true_eq] at h
  have hc := (firstN_spec (isPow n) 13 0).2.2.1 (by unfold lgN at h; omega)
  obtain ⟨a, b, -⟩ := pow2i (lgN n) h
  change isPow n (lgN n) = true at hc
  generalize lgN n = k at a b hc
  unfold isPow at hc
  rw [decide_eq_true_eq] at hc
  omega
theorem lgV_le (n : Int) : lgV n ≤ 12 := by unfold lgV; split <;> omega
/-- May blocks be of the size? -/
def szB (m size : Int) : Bool := lgB size && decide (m ≤ size)
/-- How many transforms. -/
def cntV (m n size : Int) : Int := if szB m size then 3 + 6 * ((n - m) / (size - m + 1) + 1) else 0
theorem ceil_eq (a e : Int) (he : 1 ≤ e) : (if (a + 1) % e = 0 then (a + 1) / e else (a + 1) / e + 1) = a / e + 1 := by
  have h1 := Int.emod_add_mul_ediv a e
  have h2 := Int.emod_add_mul_ediv (a + 1) e
  have h3 := Int.emod_nonneg a (by omega : e ≠ 0)
  have h4 := Int.emod_lt_of_pos a (by omega : 0 < e)
  by_cases hm : a % e + 1 = e
  · have e1 : a + 1 = e * (a / e + 1) := by rw [Int.mul_add]; omega
    have e2 : (a + 1) % e = 0 := by rw [e1]; exact Int.mul_emod_right _ _
    have e3 : (a + 1) / e = a / e + 1 := by rw [e1]; exact Int.mul_ediv_cancel_left _ (by omega)
    rw [if_pos e2, e3]
  · have e3 : (a + 1) / e = a / e := by
      have : a + 1 = (a % e + 1) + e * (a / e) := by omega
      rw [this, Int.add_mul_ediv_left _ _ (by omega : e ≠ 0), Int.ediv_eq_zero_of_lt (by omega) (by omega)]
      omega
    have e4 : (a + 1) % e = a % e + 1 := by
      rw [e3] at h2
      omega
    rw [if_neg (by omega), e3]

set_option maxRecDepth 100000 in
theorem slides_any (m n : Int) (h1 : 1 ≤ m) (h2 : m ≤ n) (w : World) : Calls Try.prog 128 #[.int .i64 m, .int .i64 n] w fun e w' => e = .returned (.bool true) ∧ Below w.heap.size w w' := by
  go_enter Try.func128, Try.ntmps128
  go_wp2
  go_ret
  exact ⟨rfl, Below.refl _ _⟩
set_option maxRecDepth 100000 in
theorem rslides_any (m n : Int) (h1 : 1 ≤ m) (h2 : m ≤ n) (w : World) : Calls Try.prog 130 #[.int .i64 m, .int .i64 n] w fun e w' => e = .returned (.bool true) ∧ Below w.heap.size w w' := by
  go_enter Try.func130, Try.ntmps130
  go_wp2
  go_ret
  exact ⟨rfl, Below.refl _ _⟩

set_option maxRecDepth 100000 in
set_option maxHeartbeats 4000000 in
theorem sized_any (m size : Int) (w : World) : Calls Try.prog 129 #[.int .i64 m, .int .i64 size] w fun e w' => e = .returned (.bool (szB m size)) ∧ Below w.heap.size w w' := by
  unfold szB
  have hlg := fun w => log_any size w
  generalize lgB size = B at hlg
  generalize lgV size = V at hlg
  have HL := Lib.hid hlg
  clear hlg
  obtain ⟨D, hD⟩ : ∃ D, D = decide (m ≤ size) := ⟨_, rfl⟩
  rw [← hD]
  cases B
  · go_enter Try.func129, Try.ntmps129
    go_wp2_with (first | (go_at_call 115; refine (HL.out _).mono ?_; rintro e w1 ⟨rfl, hb1⟩))
    go_ret
    exact ⟨rfl, hb1⟩
  · cases D
    · have hD2 : ¬ (m ≤ size) := by simpa using hD.symm
      have hD3 : decide (m ≤ size) = false := decide_eq_false hD2
      clear hD
      go_enter Try.func129, Try.ntmps129
      go_wp2_with (first | (go_at_call 115; refine (HL.out _).mono ?_; rintro e w1 ⟨rfl, hb1⟩))
      go_ret
      exact ⟨rfl, hb1⟩
    · have hD2 : m ≤ size := by simpa using hD.symm
      clear hD
      go_enter Try.func129, Try.ntmps129
      go_wp2_with (first | (go_at_call 115; refine (HL.out _).mono ?_; rintro e w1 ⟨rfl, hb1⟩))
      go_ret
      exact ⟨rfl, hb1⟩
set_option maxRecDepth 100000 in
set_option maxHeartbeats 4000000 in
theorem rsized_any (m size : Int) (w : World) : Calls Try.prog 131 #[.int .i64 m, .int .i64 size] w fun e w' => e = .returned (.bool (szB m size)) ∧ Below w.heap.size w w' := by
  unfold szB
  have hlg := fun w => rlog_any size w
  generalize lgB size = B at hlg
  generalize lgV size = V at hlg
  have HL := Lib.hid hlg
  clear hlg
  obtain ⟨D, hD⟩ : ∃ D, D = decide (m ≤ size) := ⟨_, rfl⟩
  rw [← hD]
  cases B
  · go_enter Try.func131, Try.ntmps131
    go_wp2_with (first | (go_at_call 123; refine (HL.out _).mono ?_; rintro e w1 ⟨rfl, hb1⟩))
    go_ret
    exact ⟨rfl, hb1⟩
  · cases D
    · have hD2 : ¬ (m ≤ size) := by simpa using hD.symm
      have hD3 : decide (m ≤ size) = false := decide_eq_false hD2
      clear hD
      go_enter Try.func131, Try.ntmps131
      go_wp2_with (first | (go_at_call 123; refine (HL.out _).mono ?_; rintro e w1 ⟨rfl, hb1⟩))
      go_ret
      exact ⟨rfl, hb1⟩
    · have hD2 : m ≤ size := by simpa using hD.symm
      clear hD
      go_enter Try.func131, Try.ntmps131
      go_wp2_with (first | (go_at_call 123; refine (HL.out _).mono ?_; rintro e w1 ⟨rfl, hb1⟩))
      go_ret
      exact ⟨rfl, hb1⟩

/-- Is the size amiss? -/
def badS (m n size : Int) : Bool := decide (m ≤ n) && !szB m size
set_option maxRecDepth 100000 in
set_option maxHeartbeats 4000000 in
theorem rbad_any (m n size : Int) (w : World) : Calls Try.prog 116 #[.int .i64 m, .int .i64 n, .int .i64 size] w fun e w' => e = .returned (.bool (badS m n size)) ∧ Below w.heap.size w w' := by
  unfold badS szB
  have hlg := fun w => rlog_any size w
  generalize lgB size = B at hlg
  generalize lgV size = V at hlg
  have HL := Lib.hid hlg
  clear hlg
  obtain ⟨C, hC⟩ : ∃ C, C = decide (m ≤ n) := ⟨_, rfl⟩
  obtain ⟨D, hD⟩ : ∃ D, D = decide (m ≤ size) := ⟨_, rfl⟩
  rw [← hD, ← hC]
  cases C
  · have hC2 : ¬ (m ≤ n) := by simpa using hC.symm
    clear hC hD
    go_enter Try.func116, Try.ntmps116
    go_wp2_with (first | (go_at_call 123; refine (HL.out _).mono ?_; rintro e w1 ⟨rfl, hb1⟩))
    go_ret
    exact ⟨rfl, hb1⟩
  · have hC2 : m ≤ n := by simpa using hC.symm
    clear hC
    cases B
    · clear hD
      go_enter Try.func116, Try.ntmps116
      go_wp2_with (first | (go_at_call 123; refine (HL.out _).mono ?_; rintro e w1 ⟨rfl, hb1⟩))
      go_ret
      exact ⟨rfl, hb1⟩
    · cases D
      · have hD2 : ¬ (m ≤ size) := by simpa using hD.symm
        clear hD
        go_enter Try.func116, Try.ntmps116
        go_wp2_with (first | (go_at_call 123; refine (HL.out _).mono ?_; rintro e w1 ⟨rfl, hb1⟩))
        go_ret
        exact ⟨rfl, hb1⟩
      · have hD2 : m ≤ size := by simpa using hD.symm
        have hD3 : decide (size < m) = false := decide_eq_false (by omega)
        clear hD
        go_enter Try.func116, Try.ntmps116
        go_wp2_with (first | (go_at_call 123; refine (HL.out _).mono ?_; rintro e w1 ⟨rfl, hb1⟩))
        go_ret
        exact ⟨rfl, hb1⟩

set_option maxRecDepth 100000 in
set_option maxHeartbeats 4000000 in
theorem count_any (m n size : Int) (h1 : 1 ≤ m) (h2 : m ≤ n) (h3 : m ≤ 1000) (h4 : n ≤ 100000) (w : World) : Calls Try.prog 117 #[.int .i64 m, .int .i64 n, .int .i64 size] w fun e w' => e = .returned (.int .i64 (cntV m n size)) ∧ Below w.heap.size w w' := by
  obtain ⟨R, hR⟩ : ∃ R, R = cntV m n size := ⟨_, rfl⟩
  rw [← hR]
  have hmin : min n 1099511627776 = n := by omega
  have hmin2 : n ≤ 1099511627776 := by omega
  unfold cntV at hR
  cases hs : szB m size
  · rw [hs] at hR
    obtain rfl : R = 0 := hR
    have HS := Lib.hid hs
    clear hs
    go_enter Try.func117, Try.ntmps117
    go_wp2_with (first | (go_at_call 128; refine (slides_any m n h1 h2 _).mono ?_; rintro e w1 ⟨rfl, hb1⟩) | (go_at_call 129; refine (sized_any m size _).mono ?_; rw [HS.out]; rintro e w2 ⟨rfl, hb2⟩))
    go_ret
    exact ⟨rfl, hb1.trans (hb2.mono hb1.size)⟩
  · rw [hs] at hR
    have HS := Lib.hid hs
    have hR' : R = 3 + 6 * ((n - m) / (size - m + 1) + 1) := hR
    have hsz : 1 ≤ size ∧ size ≤ 4096 ∧ m ≤ size := by
      unfold szB at hs
      rw [Bool.and_eq_true, decide_eq_true_eq] at hs
      obtain ⟨a, b⟩ := lg_size hs.1
      exact ⟨a, b, hs.2⟩
    obtain ⟨s1, s2, s3⟩ := hsz
    obtain ⟨q, hq⟩ : ∃ q, q = (n - m) / (size - m + 1) := ⟨_, rfl⟩
    have hq0 : 0 ≤ q := by rw [hq]; exact Int.ediv_nonneg (by omega) (by omega)
    have hq1 : q ≤ 100000 := by rw [hq]; exact Int.le_trans (Int.ediv_le_self _ (by omega)) (by omega)
    rw [← hq] at hR'
    have HR := Lib.hid hR'
    clear hR hR' hs
    go_enter Try.func117, Try.ntmps117
    go_wp2_with (first | (go_at_call 128; refine (slides_any m n h1 h2 _).mono ?_; rintro e w1 ⟨rfl, hb1⟩) | (go_at_call 129; refine (sized_any m size _).mono ?_; rw [HS.out]; rintro e w2 ⟨rfl, hb2⟩))
    go_ret
    rw [HR.out, hq]
    exact ⟨rfl, hb1.trans (hb2.mono hb1.size)⟩
set_option maxRecDepth 100000 in
set_option maxHeartbeats 4000000 in
theorem rcount_any (m n size : Int) (h1 : 1 ≤ m) (h2 : m ≤ n) (h3 : m ≤ 1000) (h4 : n ≤ 100000) (w : World) : Calls Try.prog 124 #[.int .i64 m, .int .i64 n, .int .i64 size] w fun e w' => e = .returned (.int .i64 (cntV m n size)) ∧ Below w.heap.size w w' := by
  obtain ⟨R, hR⟩ : ∃ R, R = cntV m n size := ⟨_, rfl⟩
  rw [← hR]
  have hmin : min n 1099511627776 = n := by omega
  have hmin2 : n ≤ 1099511627776 := by omega
  unfold cntV at hR
  cases hs : szB m size
  · rw [hs] at hR
    obtain rfl : R = 0 := hR
    have HS := Lib.hid hs
    clear hs
    go_enter Try.func124, Try.ntmps124
    go_wp2_with (first | (go_at_call 130; refine (rslides_any m n h1 h2 _).mono ?_; rintro e w1 ⟨rfl, hb1⟩) | (go_at_call 131; refine (rsized_any m size _).mono ?_; rw [HS.out]; rintro e w2 ⟨rfl, hb2⟩))
    go_ret
    exact ⟨rfl, hb1.trans (hb2.mono hb1.size)⟩
  · rw [hs] at hR
    have HS := Lib.hid hs
    have hR' : R = 3 + 6 * ((n - m) / (size - m + 1) + 1) := hR
    have hsz : 1 ≤ size ∧ size ≤ 4096 ∧ m ≤ size := by
      unfold szB at hs
      rw [Bool.and_eq_true, decide_eq_true_eq] at hs
      obtain ⟨a, b⟩ := lg_size hs.1
      exact ⟨a, b, hs.2⟩
    obtain ⟨s1, s2, s3⟩ := hsz
    obtain ⟨q, hq⟩ : ∃ q, q = (n - m) / (size - m + 1) := ⟨_, rfl⟩
    have hq0 : 0 ≤ q := by rw [hq]; exact Int.ediv_nonneg (by omega) (by omega)
    have hq1 : q ≤ 100000 := by rw [hq]; exact Int.le_trans (Int.ediv_le_self _ (by omega)) (by omega)
    rw [← hq] at hR'
    have HR := Lib.hid hR'
    have hce := ceil_eq (n - m) (size - m + 1) (by omega)
    rw [← hq] at hce
    clear hR hR' hs hq
    obtain ⟨q2, hq2⟩ : ∃ q2, q2 = (n - m + 1) / (size - m + 1) := ⟨_, rfl⟩
    rw [← hq2] at hce
    have hne : ¬ (size - m + 1 = 0) := by omega
    by_cases hm : (n - m + 1) % (size - m + 1) = 0
    · rw [if_pos hm] at hce
      have hb : ((n - m + 1) % (size - m + 1) != 0) = false := by rw [hm]; rfl
      go_enter Try.func124, Try.ntmps124
      go_wp2_with (first | (go_at_call 130; refine (rslides_any m n h1 h2 _).mono ?_; rintro e w1 ⟨rfl, hb1⟩) | (go_at_call 131; refine (rsized_any m size _).mono ?_; rw [HS.out]; rintro e w2 ⟨rfl, hb2⟩))
      go_ret
      rw [HR.out, ← hce, hq2]
      exact ⟨rfl, hb1.trans (hb2.mono hb1.size)⟩
    · rw [if_neg hm] at hce
      have hb : ((n - m + 1) % (size - m + 1) != 0) = true := by rw [bne_iff_ne]; exact hm
      go_enter Try.func124, Try.ntmps124
      go_wp2_with (first | (go_at_call 130; refine (rslides_any m n h1 h2 _).mono ?_; rintro e w1 ⟨rfl, hb1⟩) | (go_at_call 131; refine (rsized_any m size _).mono ?_; rw [HS.out]; rintro e w2 ⟨rfl, hb2⟩))
      go_ret
      rw [HR.out, ← hce, hq2]
      exact ⟨rfl, hb1.trans (hb2.mono hb1.size)⟩
end Go.Proofs.Ytkhcjjdamphbfaa
