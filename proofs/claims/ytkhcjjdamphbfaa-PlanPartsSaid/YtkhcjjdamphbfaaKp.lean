/- The plan in plain terms: the best way, longer texts. -/
import Derived.Test.YtkhcjjdamphbfaaK7
namespace Go.Proofs.Ytkhcjjdamphbfaa

/-- May each way be sized? -/
def sdF (nn size K : Int) (L : Nat → Nat → Bool) (n : Nat) (way : Int) : Bool := sdB way nn size K L n
/-- What each way is told to cost. -/
def tel (nn size K : Int) (L : Nat → Nat → Bool) (n : Nat) (way : Int) : Int := if sdB way nn size K L n then costV way nn size L n else 0
/-- The best of the first k ways, and what it costs. -/
def chs (s : Int → Bool) (c : Int → Int) : Nat → Int × Int
  | 0 => (0, 0)
  | k + 1 => if s ((k : Int) + 1) && (decide ((chs s c k).1 = 0) || decide (c ((k : Int) + 1) < (chs s c k).2)) then ((k : Int) + 1, c ((k : Int) + 1)) else chs s c k
theorem chs_spec (s : Int → Bool) (c : Int → Int) (k : Nat) :
    ((chs s c k).1 = 0 ∧ ∀ y : Int, 1 ≤ y → y ≤ k → s y = false) ∨
    ((1 ≤ (chs s c k).1 ∧ (chs s c k).1 ≤ k) ∧ s (chs s c k).1 = true ∧ (chs s c k).2 = c (chs s c k).1 ∧ ∀ y : Int, 1 ≤ y → y ≤ k → s y = true → (chs s c k).2 ≤ c y ∧ ((chs s c k).2 < c y ∨ (chs s c k).1 ≤ y)) := by
  induction k with
  | zero => exact .inl ⟨rfl, fun y h1 h2 => by omega⟩
  | succ k ih =>
    simp only [chs]
    cases hs : s ((k : Int) + 1)
    · rw [Bool.false_and, if_neg (by decide)]
      rcases ih with ⟨h0, h1⟩ | ⟨⟨h0, h1⟩, h2, h3, h4⟩
      · refine .inl ⟨h0, fun y y1 y2 => ?_⟩
        by_cases he : y = (k : Int) + 1
        · rw [he]; exact hs
        · exact h1 y y1 (by omega)
      · refine .inr ⟨⟨h0, by omega⟩, h2, h3, fun y y1 y2 y3 => ?_⟩
        by_cases he : y = (k : Int) + 1
        · rw [he, hs] at y3; cases y3
        · exact h4 y y1 (by omega) y3
    · rw [Bool.true_and]
      rcases ih with ⟨h0, h1⟩ | ⟨⟨h0, h1⟩, h2, h3, h4⟩
      · rw [decide_eq_true h0, Bool.true_or, if_pos rfl]
        refine .inr ⟨⟨by omega, by omega⟩, hs, rfl, fun y y1 y2 y3 => ?_⟩
        by_cases he : y = (k : Int) + 1
        · rw [he]; exact ⟨Int.le_refl _, .inr (Int.le_refl _)⟩
        · rw [h1 y y1 (by omega)] at y3; cases y3
      · rw [decide_eq_false (show ¬ ((chs s c k).1 = 0) by omega), Bool.false_or]
        by_cases hlt : c ((k : Int) + 1) < (chs s c k).2
        · rw [decide_eq_true hlt, if_pos rfl]
          refine .inr ⟨⟨by omega, by omega⟩, hs, rfl, fun y y1 y2 y3 => ?_⟩
          by_cases he : y = (k : Int) + 1
          · rw [he]; exact ⟨Int.le_refl _, .inr (Int.le_refl _)⟩
          · have := (h4 y y1 (by omega) y3).1
            exact ⟨by omega, .inl (by omega)⟩
        · rw [decide_eq_false hlt, if_neg (by decide)]
          refine .inr ⟨⟨h0, by omega⟩, h2, h3, fun y y1 y2 y3 => ?_⟩
          by_cases he : y = (k : Int) + 1
          · rw [he]; exact ⟨by omega, .inr (by omega)⟩
          · exact h4 y y1 (by omega) y3
/-- The best way of a leaf. -/
def bestV (nn size K : Int) (L : Nat → Nat → Bool) (n : Nat) : Int := (chs (sdF nn size K L n) (tel nn size K L n) 5).1
theorem sd_1 (nn size K : Int) (L : Nat → Nat → Bool) (n : Nat) : sdB 1 nn size K L n = rightB n L K := by
  unfold sdB frB
  rw [decide_eq_true rfl, Bool.true_or, Bool.true_or, Bool.and_true]
  cases h : rightB n L K
  · exact adm_no h
  · exact adm_1 h
theorem best_right (nn size K : Int) (L : Nat → Nat → Bool) (n : Nat) : decide (bestV nn size K L n = 0) = !rightB n L K := by
  unfold bestV
  rcases chs_spec (sdF nn size K L n) (tel nn size K L n) 5 with ⟨h0, h1⟩ | ⟨⟨h0, h1⟩, h2, h3, h4⟩
  · rw [decide_eq_true h0]
    have := h1 1 (by omega) (by omega)
    unfold sdF at this
    rw [sd_1] at this
    rw [this]; rfl
  · rw [decide_eq_false (by omega)]
    unfold sdF at h2
    unfold sdB at h2
    rw [Bool.and_eq_true] at h2
    have h5 := h2.1
    unfold admB at h5
    rw [Bool.and_eq_true] at h5
    rw [h5.1]; rfl
theorem best_sized {nn size K : Int} {L : Nat → Nat → Bool} {n : Nat} (h : bestV nn size K L n ≠ 0) : sdB (bestV nn size K L n) nn size K L n = true := by
  unfold bestV at h ⊢
  rcases chs_spec (sdF nn size K L n) (tel nn size K L n) 5 with ⟨h0, h1⟩ | ⟨⟨h0, h1⟩, h2, h3, h4⟩
  · exact absurd h0 h
  · exact h2
theorem best_least {nn size K : Int} {L : Nat → Nat → Bool} {n : Nat} (h : bestV nn size K L n ≠ 0) (y : Int) (hy : sdB y nn size K L n = true) :
    tel nn size K L n (bestV nn size K L n) ≤ tel nn size K L n y ∧ (tel nn size K L n (bestV nn size K L n) < tel nn size K L n y ∨ bestV nn size K L n ≤ y) := by
  have hr := sd_rng hy
  unfold bestV at h ⊢
  rcases chs_spec (sdF nn size K L n) (tel nn size K L n) 5 with ⟨h0, h1⟩ | ⟨⟨h0, h1⟩, h2, h3, h4⟩
  · exact absurd h0 h
  · rw [← h3]
    exact h4 y hr.2.1 hr.2.2 hy

/-- No cost is below 0. -/
theorem cs_nonneg {way m N x k f r : Int} (hm : 0 ≤ m) (hN : m ≤ N) (hx : 0 ≤ x) (hk : 0 ≤ k) (hf : 0 ≤ f) (hr : 0 ≤ r) : 0 ≤ csW way m N x k f r := by
  unfold csW cs1 cs2 cs3 cs4 cs5
  have h1 := Int.mul_nonneg hm (show 0 ≤ N - m + 1 by omega)
  have h2 := Int.mul_nonneg (show 0 ≤ x + N by omega) hk
  have h3 := Int.mul_nonneg (show 0 ≤ x + N by omega) hf
  have h4 := Int.mul_nonneg (show 0 ≤ N by omega) hr
  split
  · exact h1
  · split
    · omega
    · split
      · omega
      · split <;> omega
theorem cs_mono {way m N N' x x' k f r : Int} (hm : 0 ≤ m) (hk : 0 ≤ k) (hf : 0 ≤ f) (hr : 0 ≤ r) (hNN : N ≤ N') (hxx : x ≤ x') : csW way m N x k f r ≤ csW way m N' x' k f r := by
  unfold csW cs1 cs2 cs3 cs4 cs5
  have h1 := Int.mul_le_mul_of_nonneg_left (show N - m + 1 ≤ N' - m + 1 by omega) hm
  have h2 := Int.mul_le_mul_of_nonneg_right (show x + N ≤ x' + N' by omega) hk
  have h3 := Int.mul_le_mul_of_nonneg_right (show x + N ≤ x' + N' by omega) hf
  have h4 := Int.mul_le_mul_of_nonneg_right hNN hr
  split
  · exact h1
  · split
    · omega
    · split
      · omega
      · split <;> omega
theorem cost_nonneg {way nn size : Int} {L : Nat → Nat → Bool} {n : Nat} (hn : 1 ≤ n) : 0 ≤ costV way nn size L n := by
  unfold costV
  split
  · rename_i h
    exact cs_nonneg (by omega) h (xV_in (by omega) h (by omega)).1 (by omega) (by omega) (by omega)
  · exact Int.le_refl _
theorem tel_nonneg (nn size K : Int) (L : Nat → Nat → Bool) (n : Nat) (way : Int) : 0 ≤ tel nn size K L n way := by
  unfold tel
  split
  · rename_i h
    exact cost_nonneg (sd_rng h).1.1
  · exact Int.le_refl _
theorem cnt_mono {m N N' size : Int} (hNN : N ≤ N') : cntV m N size ≤ cntV m N' size := by
  unfold cntV
  cases hs : szB m size
  · simp
  · rw [if_pos rfl, if_pos rfl]
    unfold szB at hs
    rw [Bool.and_eq_true, decide_eq_true_eq] at hs
    have := Int.ediv_le_ediv (show 0 < size - m + 1 by have := hs.2; omega) (show N - m ≤ N' - m by omega)
    omega
theorem xV_mono {m N N' size : Int} (hNN : N ≤ N') : xV m N size ≤ xV m N' size := by
  unfold xV
  cases hs : szB m size
  · unfold cntV
    rw [hs, if_neg (by decide), if_neg (by decide)]
    exact Int.le_refl _
  · unfold szB at hs
    rw [Bool.and_eq_true] at hs
    have hg := (lg_size hs.1).1
    exact Int.mul_le_mul_of_nonneg_right (Int.mul_le_mul_of_nonneg_right (cnt_mono hNN) (by omega)) (by omega)
theorem cost_mono {way nn size : Int} {L : Nat → Nat → Bool} {n : Nat} (hn : 1 ≤ n) : costV way nn size L n ≤ costV way (nn + 1) size L n := by
  by_cases h : (n : Int) ≤ min nn 100000
  · unfold costV
    rw [if_pos h, if_pos (by omega)]
    exact cs_mono (by omega) (by omega) (by omega) (by omega) (by omega) (xV_mono (by omega))
  · have := cost_nonneg (way := way) (nn := nn + 1) (size := size) (L := L) hn
    unfold costV at this ⊢
    rw [if_neg h]
    exact this
theorem sd_longer {way nn size K : Int} {L : Nat → Nat → Bool} {n : Nat} (h : sdB way (nn + 1) size K L n = true) : sdB way nn size K L n = true := by
  unfold sdB at h ⊢
  simp only [Bool.and_eq_true, Bool.or_eq_true, decide_eq_true_eq] at h ⊢
  refine ⟨h.1, ?_⟩
  rcases h.2 with h2 | h2 | h2
  · exact .inl h2
  · exact .inr (.inl (by omega))
  · exact .inr (.inr h2)
theorem tel_longer {way nn size K : Int} {L : Nat → Nat → Bool} {n : Nat} (h : sdB way nn size K L n = true) (h' : sdB way (nn + 1) size K L n = true) : tel nn size K L n way ≤ tel (nn + 1) size K L n way := by
  unfold tel
  rw [if_pos h, if_pos h']
  exact cost_mono (sd_rng h).1.1

end Go.Proofs.Ytkhcjjdamphbfaa
