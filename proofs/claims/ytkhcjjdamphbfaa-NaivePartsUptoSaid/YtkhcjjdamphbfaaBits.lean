/- A class of bytes as four words: which word holds which bytes; plain arithmetic, no program. -/
namespace Go.Proofs.Ytkhcjjdamphbfaa

/-- The low n bits of word k of a set of bytes. -/
def wdN (S : Nat → Bool) (k : Nat) : Nat → Nat
  | 0 => 0
  | n + 1 => wdN S k n + (if S (64 * k + n) then 2 ^ n else 0)

/-- Word k of a set of bytes. -/
def wd (S : Nat → Bool) (k : Nat) : Nat := wdN S k 64

theorem wdN_lt (S : Nat → Bool) (k n : Nat) : wdN S k n < 2 ^ n := by
  induction n with
  | zero => simp [wdN]
  | succ n ih =>
    simp only [wdN]
    have : 2 ^ (n + 1) = 2 ^ n + 2 ^ n := by rw [Nat.pow_succ]; omega
    split <;> omega

theorem wd_lt (S : Nat → Bool) (k : Nat) : wd S k < 18446744073709551616 := wdN_lt S k 64

theorem wdN_testBit (S : Nat → Bool) (k n i : Nat) : (wdN S k n).testBit i = (decide (i < n) && S (64 * k + i)) := by
  induction n with
  | zero => simp [wdN]
  | succ n ih =>
    simp only [wdN]
    have hl := wdN_lt S k n
    by_cases hs : S (64 * k + n) = true
    · rw [if_pos hs, Nat.add_comm]
      rcases Nat.lt_trichotomy i n with hi | hi | hi
      · rw [Nat.testBit_two_pow_add_gt hi, ih]
        simp [hi, Nat.lt_succ_of_lt hi]
      · subst hi
        rw [Nat.testBit_two_pow_add_eq, ih]
        simp [hs]
      · have h2 : 2 ^ n + wdN S k n < 2 ^ i := by
          have h3 : 2 ^ (n + 1) ≤ 2 ^ i := Nat.pow_le_pow_right (by omega) hi
          have h4 : 2 ^ (n + 1) = 2 ^ n + 2 ^ n := by rw [Nat.pow_succ]; omega
          omega
        rw [Nat.testBit_lt_two_pow h2]
        have : ¬ i < n + 1 := by omega
        simp [this]
    · rw [if_neg hs, Nat.add_zero, ih]
      by_cases hi : i < n
      · simp [hi, Nat.lt_succ_of_lt hi]
      · by_cases he : i = n
        · subst he; simp at hs; simp [hs]
        · have : ¬ i < n + 1 := by omega
          simp [hi, this]

theorem wd_testBit (S : Nat → Bool) (k i : Nat) : (wd S k).testBit i = (decide (i < 64) && S (64 * k + i)) := wdN_testBit S k 64 i

theorem wd_ext {S T : Nat → Bool} {k : Nat} (h : ∀ i, i < 64 → S (64 * k + i) = T (64 * k + i)) : wd S k = wd T k := by
  apply Nat.eq_of_testBit_eq
  intro i
  rw [wd_testBit, wd_testBit]
  by_cases hi : i < 64
  · simp [hi, h i hi]
  · simp [hi]

theorem wd_eq_iff (S T : Nat → Bool) (k : Nat) : wd S k = wd T k ↔ ∀ i, i < 64 → S (64 * k + i) = T (64 * k + i) := by
  constructor
  · intro h i hi
    have h1 := wd_testBit S k i
    rw [h, wd_testBit] at h1
    simpa [hi] using h1.symm
  · exact wd_ext

/-- Are two sets of bytes the same? -/
def clsEq (S T : Nat → Bool) : Bool := (List.range 256).all fun n => S n == T n

theorem clsEq_iff (S T : Nat → Bool) : clsEq S T = true ↔ ∀ n, n < 256 → S n = T n := by
  unfold clsEq
  rw [List.all_eq_true]
  simp [List.mem_range]

theorem clsEq_refl (S : Nat → Bool) : clsEq S S = true := (clsEq_iff S S).2 fun _ _ => rfl

theorem words_iff (S T : Nat → Bool) : clsEq S T = true ↔ wd S 0 = wd T 0 ∧ wd S 1 = wd T 1 ∧ wd S 2 = wd T 2 ∧ wd S 3 = wd T 3 := by
  rw [clsEq_iff, wd_eq_iff, wd_eq_iff, wd_eq_iff, wd_eq_iff]
  constructor
  · intro h
    exact ⟨fun i hi => h _ (by omega), fun i hi => h _ (by omega), fun i hi => h _ (by omega), fun i hi => h _ (by omega)⟩
  · rintro ⟨h0, h1, h2, h3⟩ n hn
    have hq : n / 64 = 0 ∨ n / 64 = 1 ∨ n / 64 = 2 ∨ n / 64 = 3 := by omega
    rcases hq with hq | hq | hq | hq
    · have := h0 (n % 64) (by omega); rwa [show 64 * 0 + n % 64 = n by omega] at this
    · have := h1 (n % 64) (by omega); rwa [show 64 * 1 + n % 64 = n by omega] at this
    · have := h2 (n % 64) (by omega); rwa [show 64 * 2 + n % 64 = n by omega] at this
    · have := h3 (n % 64) (by omega); rwa [show 64 * 3 + n % 64 = n by omega] at this

/-- Every four words are those of a set. -/
def setOf4 (a b c d : Nat) (n : Nat) : Bool :=
  if n < 64 then a.testBit n else if n < 128 then b.testBit (n - 64) else if n < 192 then c.testBit (n - 128) else d.testBit (n - 192)

theorem word_of_bits {x : Nat} (hx : x < 18446744073709551616) {S : Nat → Bool} {k : Nat} (h : ∀ i, i < 64 → S (64 * k + i) = x.testBit i) : wd S k = x := by
  apply Nat.eq_of_testBit_eq
  intro i
  rw [wd_testBit]
  by_cases hi : i < 64
  · simp [hi, h i hi]
  · have h2 : x < 2 ^ i := Nat.lt_of_lt_of_le hx (by
      have : (2 : Nat) ^ 64 ≤ 2 ^ i := Nat.pow_le_pow_right (by omega) (by omega)
      exact this)
    rw [Nat.testBit_lt_two_pow h2]
    simp [hi]

theorem setOf4_words {a b c d : Nat} (ha : a < 18446744073709551616) (hb : b < 18446744073709551616) (hc : c < 18446744073709551616) (hd : d < 18446744073709551616) :
    wd (setOf4 a b c d) 0 = a ∧ wd (setOf4 a b c d) 1 = b ∧ wd (setOf4 a b c d) 2 = c ∧ wd (setOf4 a b c d) 3 = d := by
  refine ⟨word_of_bits ha fun i hi => ?_, word_of_bits hb fun i hi => ?_, word_of_bits hc fun i hi => ?_, word_of_bits hd fun i hi => ?_⟩ <;> unfold setOf4
  · rw [if_pos (by omega), show 64 * 0 + i = i by omega]
  · rw [if_neg (by omega), if_pos (by omega), show 64 * 1 + i - 64 = i by omega]
  · rw [if_neg (by omega), if_neg (by omega), if_pos (by omega), show 64 * 2 + i - 128 = i by omega]
  · rw [if_neg (by omega), if_neg (by omega), if_neg (by omega), show 64 * 3 + i - 192 = i by omega]

/-! ### What the operations do to the words -/

theorem wd_or (S T : Nat → Bool) (k : Nat) : wd (fun n => S n || T n) k = wd S k ||| wd T k := by
  apply Nat.eq_of_testBit_eq
  intro i
  rw [Nat.testBit_or, wd_testBit, wd_testBit, wd_testBit]
  by_cases hi : i < 64 <;> simp [hi]

theorem wd_not (S : Nat → Bool) (k : Nat) : wd (fun n => !S n) k = 18446744073709551615 - wd S k := by
  apply Nat.eq_of_testBit_eq
  intro i
  have h := Nat.testBit_two_pow_sub_succ (wd_lt S k) (n := 64) i
  rw [show 18446744073709551615 - wd S k = 2 ^ 64 - (wd S k + 1) by have := wd_lt S k; omega, h, wd_testBit, wd_testBit]
  by_cases hi : i < 64 <;> simp [hi]

/-- A set with a byte. -/
def upd (S : Nat → Bool) (b : Nat) : Nat → Bool := fun n => S n || n == b

theorem wd_upd (S : Nat → Bool) (b k : Nat) : wd (upd S b) k = if k = b / 64 then wd S k ||| 2 ^ (b % 64) else wd S k := by
  apply Nat.eq_of_testBit_eq
  intro i
  split
  · rename_i h
    rw [Nat.testBit_or, wd_testBit, wd_testBit, Nat.testBit_two_pow]
    unfold upd
    by_cases hi : i < 64
    · simp only [hi, decide_true, Bool.true_and]
      congr 1
      rw [Bool.eq_iff_iff]
      simp only [beq_iff_eq, decide_eq_true_eq]
      omega
    · have : ¬ b % 64 = i := by omega
      simp [hi, this]
  · rename_i h
    rw [wd_testBit, wd_testBit]
    unfold upd
    by_cases hi : i < 64
    · have : (64 * k + i == b) = false := by
        rw [beq_eq_false_iff_ne]; omega
      simp [hi, this]
    · simp [hi]

/-- No byte. -/
def noByte : Nat → Bool := fun _ => false
theorem wd_noByte (k : Nat) : wd noByte k = 0 := by
  apply Nat.eq_of_testBit_eq
  intro i
  rw [wd_testBit]
  simp [noByte]

/-- One bit of a word, as the program asks for it. -/
theorem wd_bit (S : Nat → Bool) (b : Nat) : (wd S (b / 64) / 2 ^ (b % 64)) % 2 = if S b then 1 else 0 := by
  have h := wd_testBit S (b / 64) (b % 64)
  rw [Nat.testBit_eq_decide_div_mod_eq] at h
  have hm : b % 64 < 64 := Nat.mod_lt _ (by omega)
  have he : 64 * (b / 64) + b % 64 = b := Nat.div_add_mod b 64
  rw [he] at h
  simp only [hm, decide_true, Bool.true_and] at h
  cases hs : S b
  · rw [hs] at h
    simp at h
    simp
    omega
  · rw [hs] at h
    simp at h
    simp [h]
end Go.Proofs.Ytkhcjjdamphbfaa
