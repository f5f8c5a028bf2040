/- How many bytes a class has: bits of a word counted by taking the lowest one away; the first byte; plain arithmetic, no program. -/
import Derived.Test.YtkhcjjdamphbfaaBits
namespace Go.Proofs.Ytkhcjjdamphbfaa

/-- How many bits of a number are 1. -/
def pc (x : Nat) : Nat := if x = 0 then 0 else x % 2 + pc (x / 2)
termination_by x
decreasing_by omega

theorem pc_zero : pc 0 = 0 := by rw [pc, if_pos rfl]
theorem pc_half (x : Nat) : pc x = x % 2 + pc (x / 2) := by
  by_cases h : x = 0
  · subst h; simp [pc_zero]
  · rw [pc, if_neg h]

theorem and_pred (x : Nat) : x ≠ 0 → pc (x &&& (x - 1)) + 1 = pc x := by
  induction x using Nat.strongRecOn with
  | _ x ih =>
    intro hx
    have h2 := pc_half (x &&& (x - 1))
    have hm : (x &&& (x - 1)) % 2 = 0 := by
      rw [Nat.and_mod_two_pow (n := 1)]
      have : x % 2 = 0 ∨ x % 2 = 1 := by omega
      rcases this with h | h
      · simp [h]
      · have : (x - 1) % 2 = 0 := by omega
        simp [this]
    have hd : (x &&& (x - 1)) / 2 = x / 2 &&& (x - 1) / 2 := Nat.and_div_two
    rw [hm, hd] at h2
    have h1 := pc_half x
    by_cases hp : x % 2 = 1
    · have : (x - 1) / 2 = x / 2 := by omega
      rw [this, Nat.and_self] at h2
      omega
    · have hy : x / 2 ≠ 0 := by omega
      have : (x - 1) / 2 = x / 2 - 1 := by omega
      rw [this] at h2
      have := ih (x / 2) (by omega) hy
      omega

theorem and_pred_lt (x : Nat) (h : x ≠ 0) : x &&& (x - 1) < x := by
  have : x &&& (x - 1) ≤ x - 1 := Nat.and_le_right
  omega

/-- How many of the first n numbers are in a set. -/
def cntN (S : Nat → Bool) : Nat → Nat
  | 0 => 0
  | n + 1 => cntN S n + (if S n then 1 else 0)

theorem cntN_le (S : Nat → Bool) (n : Nat) : cntN S n ≤ n := by
  induction n with
  | zero => simp [cntN]
  | succ n ih => simp only [cntN]; split <;> omega

theorem cntN_congr {S T : Nat → Bool} {n : Nat} (h : ∀ i, i < n → S i = T i) : cntN S n = cntN T n := by
  induction n with
  | zero => rfl
  | succ n ih => simp only [cntN]; rw [ih fun i hi => h i (by omega), h n (by omega)]

theorem cntN_add (S : Nat → Bool) (m n : Nat) : cntN S (m + n) = cntN S m + cntN (fun i => S (m + i)) n := by
  induction n with
  | zero => simp [cntN]
  | succ n ih =>
    show cntN S (m + n) + (if S (m + n) then 1 else 0) = cntN S m + (cntN (fun i => S (m + i)) n + (if S (m + n) then 1 else 0))
    rw [ih]; omega

theorem pc_add_pow (n : Nat) : ∀ a, a < 2 ^ n → pc (a + 2 ^ n) = pc a + 1 := by
  induction n with
  | zero =>
    intro a ha
    have : a = 0 := by simpa using ha
    subst this
    have h1 := pc_half 1
    simp only [pc_zero, Nat.reduceDiv, Nat.reduceMod] at h1
    simp [pc_zero, h1]
  | succ n ih =>
    intro a ha
    have hp : 2 ^ (n + 1) = 2 * 2 ^ n := by rw [Nat.pow_succ]; omega
    have h1 := pc_half (a + 2 ^ (n + 1))
    have h2 := pc_half a
    have e1 : (a + 2 ^ (n + 1)) % 2 = a % 2 := by omega
    have e2 : (a + 2 ^ (n + 1)) / 2 = a / 2 + 2 ^ n := by omega
    rw [e1, e2, ih (a / 2) (by omega)] at h1
    omega

theorem pc_wdN (S : Nat → Bool) (k n : Nat) : pc (wdN S k n) = cntN (fun i => S (64 * k + i)) n := by
  induction n with
  | zero => simp [wdN, cntN, pc_zero]
  | succ n ih =>
    simp only [wdN, cntN]
    split
    · rw [pc_add_pow n _ (wdN_lt S k n), ih]
    · rw [Nat.add_zero, ih]; omega

/-- How many bytes a class has. -/
def cnt (S : Nat → Bool) : Nat := cntN S 256

theorem cnt_words (S : Nat → Bool) : cnt S = pc (wd S 0) + pc (wd S 1) + pc (wd S 2) + pc (wd S 3) := by
  unfold cnt wd
  rw [show 256 = 64 + (64 + (64 + 64)) from rfl, cntN_add, cntN_add, cntN_add, pc_wdN, pc_wdN, pc_wdN, pc_wdN]
  have e0 : cntN (fun i => S (64 * 0 + i)) 64 = cntN S 64 := cntN_congr fun i _ => by simp
  have e1 : cntN (fun i => S (64 * 1 + i)) 64 = cntN (fun i => S (64 + i)) 64 := rfl
  have e2 : cntN (fun i => S (64 * 2 + i)) 64 = cntN (fun i => S (64 + (64 + i))) 64 := cntN_congr fun i _ => by congr 1; omega
  have e3 : cntN (fun i => S (64 * 3 + i)) 64 = cntN (fun i => S (64 + (64 + (64 + i)))) 64 := cntN_congr fun i _ => by congr 1; omega
  rw [e0, e1, e2, e3]
  omega

/-- The first of n numbers, from k on, that is in a set; k + n, if none is. -/
def firstN (S : Nat → Bool) : Nat → Nat → Nat
  | k, 0 => k
  | k, n + 1 => if S k then k else firstN S (k + 1) n

theorem firstN_spec (S : Nat → Bool) (n : Nat) : ∀ k, k ≤ firstN S k n ∧ firstN S k n ≤ k + n ∧ (firstN S k n < k + n → S (firstN S k n) = true) ∧ ∀ i, k ≤ i → i < firstN S k n → S i = false := by
  induction n with
  | zero => intro k; simp only [firstN]; exact ⟨by omega, by omega, fun h => by omega, fun i h1 h2 => by omega⟩
  | succ n ih =>
    intro k
    simp only [firstN]
    split
    · rename_i h
      exact ⟨by omega, by omega, fun _ => h, fun i h1 h2 => by omega⟩
    · rename_i h
      obtain ⟨h1, h2, h3, h4⟩ := ih (k + 1)
      refine ⟨by omega, by omega, fun hl => h3 (by omega), fun i hi1 hi2 => ?_⟩
      by_cases he : i = k
      · subst he; simpa using h
      · exact h4 i (by omega) hi2

/-- The first byte of a class; 256, if it has none. -/
def first (S : Nat → Bool) : Nat := firstN S 0 256

theorem first_le (S : Nat → Bool) : first S ≤ 256 := by have := (firstN_spec S 256 0).2.1; unfold first; omega
theorem first_in (S : Nat → Bool) (h : first S < 256) : S (first S) = true := (firstN_spec S 256 0).2.2.1 (by unfold first at h; omega)
theorem first_none (S : Nat → Bool) (i : Nat) (h : i < first S) : S i = false := (firstN_spec S 256 0).2.2.2 i (by omega) h
theorem first_eq (S : Nat → Bool) (k : Nat) (hk : k ≤ 256) (hS : k < 256 → S k = true) (hn : ∀ i, i < k → S i = false) : first S = k := by
  rcases Nat.lt_trichotomy (first S) k with h | h | h
  · have := first_in S (by omega); rw [hn _ h] at this; cases this
  · exact h
  · have h1 := first_none S k h
    have h2 := first_le S
    rw [hS (by omega)] at h1
    cases h1

/-- Whether a class has just one byte. -/
def one (S : Nat → Bool) : Bool := decide (cnt S = 1)

theorem cntN_zero_iff (S : Nat → Bool) (n : Nat) : cntN S n = 0 ↔ ∀ i, i < n → S i = false := by
  induction n with
  | zero => simp [cntN]
  | succ n ih =>
    simp only [cntN]
    constructor
    · intro h i hi
      have h0 : cntN S n = 0 := by omega
      by_cases he : i = n
      · subst he
        cases hs : S i
        · rfl
        · rw [hs] at h; simp at h
      · exact ih.1 h0 i (by omega)
    · intro h
      rw [ih.2 fun i hi => h i (by omega), h n (by omega)]
      simp

/-- One byte: the first one, and no other. -/
theorem one_iff (S : Nat → Bool) : cnt S = 1 ↔ first S < 256 ∧ ∀ n, n < 256 → S n = (n == first S) := by
  have hf := first_le S
  have split : cnt S = cntN S (first S) + cntN (fun i => S (first S + i)) (256 - first S) := by
    unfold cnt
    rw [← cntN_add, show first S + (256 - first S) = 256 by omega]
  have h0 : cntN S (first S) = 0 := (cntN_zero_iff S _).2 fun i hi => first_none S i hi
  rw [h0, Nat.zero_add] at split
  by_cases hl : first S < 256
  · have hs := first_in S hl
    have e : 256 - first S = 1 + (255 - first S) := by omega
    rw [e, cntN_add] at split
    have e1 : cntN (fun i => S (first S + i)) 1 = 1 := by simp [cntN, hs]
    rw [e1] at split
    constructor
    · intro h1
      refine ⟨hl, fun n hn => ?_⟩
      have hz : cntN (fun i => S (first S + (1 + i))) (255 - first S) = 0 := by omega
      have hz' := (cntN_zero_iff _ _).1 hz
      rcases Nat.lt_trichotomy n (first S) with h | h | h
      · rw [first_none S n h]; exact (beq_eq_false_iff_ne.2 (by omega)).symm
      · subst h; simp [hs]
      · have := hz' (n - first S - 1) (by omega)
        rw [show first S + (1 + (n - first S - 1)) = n by omega] at this
        rw [this]; exact (beq_eq_false_iff_ne.2 (by omega)).symm
    · rintro ⟨_, h⟩
      have hz : cntN (fun i => S (first S + (1 + i))) (255 - first S) = 0 := (cntN_zero_iff _ _).2 fun i hi => by
        rw [h _ (by omega), beq_eq_false_iff_ne]; omega
      omega
  · have e : 256 - first S = 0 := by omega
    rw [e] at split
    simp only [cntN] at split
    constructor
    · intro h; omega
    · intro h; omega
end Go.Proofs.Ytkhcjjdamphbfaa
