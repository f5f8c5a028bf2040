/- Sums over a ring; the transform in halves; the product that goes round: plain. -/
namespace Go.Proofs.YtjfkmoinldlmaaaGreat

section
variable {md : Nat} [NeZero md]

theorem fpow_zero (a : Fin md) : a ^ 0 = 1 := by grind
theorem fpow_succ (a : Fin md) (n : Nat) : a ^ (n + 1) = a ^ n * a := by grind
theorem fpow_add (a : Fin md) (m n : Nat) : a ^ (m + n) = a ^ m * a ^ n := by grind
/-- The sum of the first n. -/
def sumR (f : Nat → Fin md) : Nat → Fin md
  | 0 => 0
  | n + 1 => sumR f n + f n
theorem sumR_congr {f g : Nat → Fin md} {n : Nat} (h : ∀ i, i < n → f i = g i) : sumR f n = sumR g n := by
  induction n with
  | zero => rfl
  | succ n ih => simp only [sumR]; rw [ih fun i hi => h i (by omega), h n (by omega)]
theorem sumR_zero {f : Nat → Fin md} {n : Nat} (h : ∀ i, i < n → f i = 0) : sumR f n = 0 := by
  induction n with
  | zero => rfl
  | succ n ih => simp only [sumR]; rw [ih fun i hi => h i (by omega), h n (by omega)]; grind
theorem sumR_add (f g : Nat → Fin md) (n : Nat) : sumR (fun i => f i + g i) n = sumR f n + sumR g n := by
  induction n with
  | zero => simp only [sumR]; grind
  | succ n ih => simp only [sumR]; rw [ih]; grind
theorem sumR_mul (c : Fin md) (f : Nat → Fin md) (n : Nat) : sumR (fun i => c * f i) n = c * sumR f n := by
  induction n with
  | zero => simp only [sumR]; grind
  | succ n ih => simp only [sumR]; rw [ih]; grind
theorem sumR_one (f : Nat → Fin md) (n k : Nat) (hk : k < n) (h : ∀ i, i < n → i ≠ k → f i = 0) : sumR f n = f k := by
  induction n with
  | zero => omega
  | succ n ih =>
    simp only [sumR]
    by_cases he : k = n
    · subst he
      rw [sumR_zero (fun i hi => h i (by omega) (by omega))]; grind
    · rw [ih (by omega) (fun i hi hne => h i (by omega) hne), h n (by omega) (by omega)]; grind
theorem sumR_swap (f : Nat → Nat → Fin md) (n m : Nat) : sumR (fun i => sumR (fun j => f i j) m) n = sumR (fun j => sumR (fun i => f i j) n) m := by
  induction m with
  | zero => simp only [sumR]; exact sumR_zero fun _ _ => rfl
  | succ m ih => simp only [sumR]; rw [sumR_add, ih]
/-- The even ones, and the odd ones. -/
theorem sumR_halves (f : Nat → Fin md) (n : Nat) : sumR f (2 * n) = sumR (fun i => f (2 * i)) n + sumR (fun i => f (2 * i + 1)) n := by
  induction n with
  | zero => simp only [sumR]; grind
  | succ n ih =>
    rw [show 2 * (n + 1) = 2 * n + 1 + 1 by omega]
    simp only [sumR]
    rw [ih]; grind
/-- The lower half, and the upper one. -/
theorem sumR_split (f : Nat → Fin md) (n m : Nat) : sumR f (n + m) = sumR f n + sumR (fun i => f (n + i)) m := by
  induction m with
  | zero => simp only [sumR, Nat.add_zero]; grind
  | succ m ih => rw [← Nat.add_assoc]; simp only [sumR]; rw [ih]; grind

theorem pow_pow (a : Fin md) (m n : Nat) : (a ^ m) ^ n = a ^ (m * n) := by
  induction n with
  | zero => rw [Nat.mul_zero, fpow_zero, fpow_zero]
  | succ n ih => rw [fpow_succ, ih, Nat.mul_succ, fpow_add]
theorem mul_pow (a b : Fin md) (n : Nat) : (a * b) ^ n = a ^ n * b ^ n := by
  induction n with
  | zero => rw [fpow_zero, fpow_zero, fpow_zero]; grind
  | succ n ih => rw [fpow_succ, fpow_succ, fpow_succ, ih]; grind
theorem one_pow (n : Nat) : (1 : Fin md) ^ n = 1 := by
  induction n with
  | zero => exact fpow_zero _
  | succ n ih => rw [fpow_succ, ih]; grind
theorem neg_one_sq : (-1 : Fin md) * (-1) = 1 := by grind

/-- Part c of stage s, at place j: W is a root of 2^t; every 2^(t-s)th one from c on. -/
def stg (l : Nat → Fin md) (W : Fin md) (t s c j : Nat) : Fin md := sumR (fun i => l (c + i * 2 ^ (t - s)) * (W ^ 2 ^ (t - s)) ^ (i * j)) (2 ^ s)
theorem stg_zero (l : Nat → Fin md) (W : Fin md) (t c : Nat) : stg l W t 0 c 0 = l c := by
  unfold stg
  simp only [sumR, Nat.zero_mul, Nat.add_zero, fpow_zero]
  grind
theorem root_all {W : Fin md} {t : Nat} (ht : 0 < t) (hW : W ^ 2 ^ (t - 1) = -1) : W ^ 2 ^ t = 1 := by
  obtain ⟨u, rfl⟩ : ∃ u, t = u + 1 := ⟨t - 1, by omega⟩
  rw [Nat.add_sub_cancel] at hW
  rw [Nat.pow_succ, ← pow_pow, hW, show (2 : Nat) = 1 + 1 by rfl, fpow_succ, show (1 : Nat) = 0 + 1 by rfl, fpow_succ, fpow_zero]
  grind
theorem stg_around (l : Nat → Fin md) (W : Fin md) (t s c j : Nat) (hs : s ≤ t) (hW : W ^ 2 ^ t = 1) : stg l W t s c (j + 2 ^ s) = stg l W t s c j := by
  unfold stg
  refine sumR_congr fun i _ => ?_
  rw [Nat.mul_add, fpow_add]
  have e : (W ^ 2 ^ (t - s)) ^ (i * 2 ^ s) = 1 := by
    rw [Nat.mul_comm, ← pow_pow (W ^ 2 ^ (t - s)), pow_pow W, ← Nat.pow_add, show t - s + s = t by omega, hW, one_pow]
  rw [e]; grind
theorem stg_even (l : Nat → Fin md) (W : Fin md) (t s c j : Nat) (hs : s < t) : sumR (fun i => l (c + 2 * i * 2 ^ (t - (s + 1))) * (W ^ 2 ^ (t - (s + 1))) ^ (2 * i * j)) (2 ^ s) = stg l W t s c j := by
  unfold stg
  refine sumR_congr fun i _ => ?_
  have h2 : 2 ^ (t - s) = 2 * 2 ^ (t - (s + 1)) := by rw [show t - s = t - (s + 1) + 1 by omega, Nat.pow_succ, Nat.mul_comm]
  rw [h2, show 2 * i * 2 ^ (t - (s + 1)) = i * (2 * 2 ^ (t - (s + 1))) by rw [Nat.mul_comm 2 i, Nat.mul_assoc], pow_pow, pow_pow]
  congr 2
  rw [Nat.mul_assoc 2 i j, ← Nat.mul_assoc, Nat.mul_comm 2]
theorem stg_odd (l : Nat → Fin md) (W : Fin md) (t s c j : Nat) (hs : s < t) : sumR (fun i => l (c + (2 * i + 1) * 2 ^ (t - (s + 1))) * (W ^ 2 ^ (t - (s + 1))) ^ ((2 * i + 1) * j)) (2 ^ s) = (W ^ 2 ^ (t - (s + 1))) ^ j * stg l W t s (c + 2 ^ (t - (s + 1))) j := by
  rw [← stg_even l W t s (c + 2 ^ (t - (s + 1))) j hs, ← sumR_mul]
  refine sumR_congr fun i _ => ?_
  have e1 : c + (2 * i + 1) * 2 ^ (t - (s + 1)) = c + 2 ^ (t - (s + 1)) + 2 * i * 2 ^ (t - (s + 1)) := by rw [Nat.add_mul, Nat.one_mul]; omega
  have e2 : (2 * i + 1) * j = 2 * i * j + j := by rw [Nat.add_mul, Nat.one_mul]
  rw [e1, e2, fpow_add]
  grind
/-- One step, in the lower half. -/
theorem stg_low (l : Nat → Fin md) (W : Fin md) (t s c j : Nat) (hs : s < t) : stg l W t (s + 1) c j = stg l W t s c j + (W ^ 2 ^ (t - (s + 1))) ^ j * stg l W t s (c + 2 ^ (t - (s + 1))) j := by
  rw [← stg_even l W t s c j hs, ← stg_odd l W t s c j hs]
  show sumR _ (2 ^ (s + 1)) = _
  rw [Nat.pow_succ, Nat.mul_comm, sumR_halves]
/-- .. and in the upper one. -/
theorem stg_high (l : Nat → Fin md) (W : Fin md) (t s c j : Nat) (hs : s < t) (hW : W ^ 2 ^ (t - 1) = -1) : stg l W t (s + 1) c (j + 2 ^ s) = stg l W t s c j - (W ^ 2 ^ (t - (s + 1))) ^ j * stg l W t s (c + 2 ^ (t - (s + 1))) j := by
  have hW1 := root_all (by omega) hW
  rw [stg_low l W t s c _ hs, stg_around l W t s _ j (by omega) hW1, stg_around l W t s _ j (by omega) hW1, fpow_add]
  have e : (W ^ 2 ^ (t - (s + 1))) ^ 2 ^ s = -1 := by
    rw [pow_pow, ← Nat.pow_add, show t - (s + 1) + s = t - 1 by omega, hW]
  rw [e]; grind
/-- The whole transform. -/
def dft (l : Nat → Fin md) (W : Fin md) (n j : Nat) : Fin md := sumR (fun i => l i * W ^ (i * j)) n
theorem stg_all (l : Nat → Fin md) (W : Fin md) (t j : Nat) : stg l W t t 0 j = dft l W (2 ^ t) j := by
  unfold stg dft
  refine sumR_congr fun i _ => ?_
  rw [Nat.sub_self, Nat.pow_zero, Nat.mul_one, Nat.zero_add]
  have e : W ^ 1 = W := by rw [show (1 : Nat) = 0 + 1 by rfl, fpow_succ, fpow_zero]; grind
  rw [e]

/-- The sum of the powers. -/
theorem geo_step (x : Fin md) (t : Nat) : sumR (fun j => x ^ j) (2 ^ (t + 1)) = sumR (fun j => x ^ j) (2 ^ t) * (1 + x ^ 2 ^ t) := by
  rw [Nat.pow_succ, Nat.mul_two, sumR_split]
  have e : sumR (fun i => x ^ (2 ^ t + i)) (2 ^ t) = x ^ 2 ^ t * sumR (fun j => x ^ j) (2 ^ t) := by
    rw [← sumR_mul]
    exact sumR_congr fun i _ => fpow_add _ _ _
  rw [e]; grind
theorem geo_nil (x : Fin md) (t : Nat) (u : Nat) (hu : u < t) (hx : x ^ 2 ^ u = -1) : sumR (fun j => x ^ j) (2 ^ t) = 0 := by
  induction t with
  | zero => omega
  | succ t ih =>
    rw [geo_step]
    by_cases he : u = t
    · subst he; rw [hx]; grind
    · rw [ih (by omega)]; grind
theorem geo_one (n : Nat) : sumR (fun j => (1 : Fin md) ^ j) n = sumR (fun _ => (1 : Fin md)) n := sumR_congr fun j _ => one_pow j

/-- A power of a root of 2^t that is no multiple: some power of it of a power of two is -1. -/
theorem root_part {W : Fin md} {t : Nat} (ht : 0 < t) (hW : W ^ 2 ^ (t - 1) = -1) (d : Nat) (hd : d % 2 ^ t ≠ 0) : ∃ u, u < t ∧ (W ^ d) ^ 2 ^ u = -1 := by
  induction t generalizing W d with
  | zero => omega
  | succ t ih =>
    rw [Nat.add_sub_cancel] at hW
    by_cases he : d % 2 = 1
    · refine ⟨t, by omega, ?_⟩
      rw [pow_pow, Nat.mul_comm, ← pow_pow, hW]
      obtain ⟨q, rfl⟩ : ∃ q, d = 2 * q + 1 := ⟨d / 2, by omega⟩
      rw [fpow_succ, ← pow_pow]
      have e2 : (-1 : Fin md) ^ 2 = 1 := by rw [show (2 : Nat) = 1 + 1 by rfl, fpow_succ, show (1 : Nat) = 0 + 1 by rfl, fpow_succ, fpow_zero]; grind
      rw [e2, one_pow]; grind
    · obtain ⟨q, rfl⟩ : ∃ q, d = 2 * q := ⟨d / 2, by omega⟩
      have ht0 : 0 < t := by
        rcases Nat.eq_zero_or_pos t with h | h
        · subst h; exfalso; apply hd; rw [show 2 ^ (0 + 1) = 2 by rfl]; omega
        · exact h
      have hW2 : (W ^ 2) ^ 2 ^ (t - 1) = -1 := by
        rw [pow_pow, Nat.mul_comm, ← Nat.pow_succ, show (t - 1).succ = t by omega]; exact hW
      obtain ⟨u, hu, hx⟩ := ih ht0 hW2 q (by
        intro h
        apply hd
        rw [Nat.pow_succ, Nat.mul_comm (2 ^ t) 2, Nat.mul_mod_mul_left, h])
      exact ⟨u, by omega, by rw [← pow_pow W 2 q]; exact hx⟩

/-- THE PRODUCT THAT GOES ROUND: transformed, multiplied place by place, and transformed back. -/
theorem round_prod (a x : Nat → Fin md) (W V N : Fin md) (t : Nat) (hW : t = 0 → W = 1) (hW1 : 0 < t → W ^ 2 ^ (t - 1) = -1) (hV : W * V = 1) (hN : sumR (fun _ => (1 : Fin md)) (2 ^ t) * N = 1) (i : Nat) (hi : i < 2 ^ t) :
    dft (fun j => dft a W (2 ^ t) j * dft x W (2 ^ t) j) V (2 ^ t) i * N = sumR (fun u => a u * x ((i + (2 ^ t - u)) % 2 ^ t)) (2 ^ t) := by
  obtain ⟨n, hn⟩ : ∃ n, n = 2 ^ t := ⟨_, rfl⟩
  have hin : i < n := by rw [hn]; exact hi
  have hn0 : 0 < n := by rw [hn]; exact Nat.pow_pos (by omega)
  have hWn : W ^ n = 1 := by
    rcases Nat.eq_zero_or_pos t with h | h
    · rw [hW h, one_pow]
    · rw [hn]; exact root_all h (hW1 h)
  have hVn : V ^ n = 1 := by
    have : (W * V) ^ n = 1 := by rw [hV, one_pow]
    rw [mul_pow, hWn] at this
    grind
  -- the sum of the powers of W^u W^v V^i
  have key : ∀ u v, u < n → v < n → sumR (fun j => (W ^ (u + v) * V ^ i) ^ j) n = if v = (i + (n - u)) % n then sumR (fun _ => (1 : Fin md)) n else 0 := by
    intro u v hu hv
    by_cases he : v = (i + (n - u)) % n
    · rw [if_pos he, ← geo_one]
      refine sumR_congr fun j _ => ?_
      have e : W ^ (u + v) * V ^ i = 1 := by
        have hq : ∃ q, u + v = i + q * n := by
          have hdm := Nat.div_add_mod (i + (n - u)) n
          rw [← he] at hdm
          clear he
          generalize (i + (n - u)) / n = q at hdm
          have hq3 : q < 3 := by
            rcases Nat.lt_or_ge q 3 with h3 | h3
            · exact h3
            · have := Nat.mul_le_mul_left n h3; omega
          have : q = 0 ∨ q = 1 ∨ q = 2 := by omega
          rcases this with rfl | rfl | rfl
          · exact ⟨1, by omega⟩
          · exact ⟨0, by omega⟩
          · omega
        obtain ⟨q, hq⟩ := hq
        rw [hq, fpow_add, Nat.mul_comm, ← pow_pow, hWn, one_pow]
        have : W ^ i * V ^ i = 1 := by rw [← mul_pow, hV, one_pow]
        grind
      rw [e]
    · rw [if_neg he]
      have ht : 0 < t := by
        rcases Nat.eq_zero_or_pos t with h | h
        · subst h; exfalso; apply he
          have : n = 1 := hn
          subst this
          rw [Nat.mod_one]; omega
        · exact h
      obtain ⟨w2, hw2⟩ := root_part ht (hW1 ht) (u + v + (n - i)) (by
        rw [← hn]
        intro h
        apply he
        obtain ⟨q, hq⟩ : ∃ q, u + v + (n - i) = q * n := ⟨(u + v + (n - i)) / n, by have := Nat.div_add_mod (u + v + (n - i)) n; rw [h] at this; rw [Nat.mul_comm]; omega⟩
        have hq3 : q < 3 := by
          rcases Nat.lt_or_ge q 3 with h3 | h3
          · exact h3
          · have := Nat.mul_le_mul_right n h3; omega
        have : q = 0 ∨ q = 1 ∨ q = 2 := by omega
        rcases this with rfl | rfl | rfl
        · omega
        · by_cases hz : i + (n - u) < n
          · rw [Nat.mod_eq_of_lt hz]; omega
          · rw [show i + (n - u) = (i - u) + n by omega, Nat.add_mod_right, Nat.mod_eq_of_lt (by omega)]; omega
        · by_cases hz : i + (n - u) < n
          · rw [Nat.mod_eq_of_lt hz]; omega
          · rw [show i + (n - u) = (i - u) + n by omega, Nat.add_mod_right, Nat.mod_eq_of_lt (by omega)]; omega)
      have e : W ^ (u + v) * V ^ i = W ^ (u + v + (n - i)) := by
        have h1 : V ^ i = W ^ (n - i) := by
          have h2 : W ^ i * V ^ i = 1 := by rw [← mul_pow, hV, one_pow]
          have h3 : W ^ i * W ^ (n - i) = 1 := by rw [← fpow_add, show i + (n - i) = n by omega, hWn]
          have h4 : V ^ i = V ^ i * (W ^ i * W ^ (n - i)) := by rw [h3]; grind
          rw [h4]; grind
        rw [h1, ← fpow_add]
      rw [e]
      have hz := geo_nil (W ^ (u + v + (n - i))) t w2 hw2.1 hw2.2
      rw [← hn] at hz
      exact hz
  unfold dft
  rw [← hn]
  have e1 : sumR (fun j => sumR (fun i => a i * W ^ (i * j)) n * sumR (fun i => x i * W ^ (i * j)) n * V ^ (j * i)) n
      = sumR (fun u => sumR (fun v => a u * x v * sumR (fun j => (W ^ (u + v) * V ^ i) ^ j) n) n) n := by
    have h1 : ∀ j, sumR (fun i => a i * W ^ (i * j)) n * sumR (fun i => x i * W ^ (i * j)) n * V ^ (j * i) = sumR (fun u => sumR (fun v => a u * x v * (W ^ (u + v) * V ^ i) ^ j) n) n := by
      intro j
      have h2 : ∀ u, sumR (fun v => a u * x v * (W ^ (u + v) * V ^ i) ^ j) n = (V ^ (j * i) * sumR (fun i => x i * W ^ (i * j)) n) * (a u * W ^ (u * j)) := by
        intro u
        rw [show V ^ (j * i) * sumR (fun i => x i * W ^ (i * j)) n * (a u * W ^ (u * j)) = (V ^ (j * i) * (a u * W ^ (u * j))) * sumR (fun i => x i * W ^ (i * j)) n by grind, ← sumR_mul]
        refine sumR_congr fun v _ => ?_
        rw [mul_pow, pow_pow, pow_pow, Nat.add_mul, fpow_add, Nat.mul_comm i j]
        grind
      rw [sumR_congr (fun u _ => h2 u), sumR_mul]
      grind
    rw [sumR_congr (fun j _ => h1 j), sumR_swap]
    refine sumR_congr fun u _ => ?_
    rw [sumR_swap]
    exact sumR_congr fun v _ => sumR_mul _ _ _
  rw [e1]
  have e2 : sumR (fun u => sumR (fun v => a u * x v * sumR (fun j => (W ^ (u + v) * V ^ i) ^ j) n) n) n = sumR (fun _ => (1 : Fin md)) n * sumR (fun u => a u * x ((i + (n - u)) % n)) n := by
    rw [← sumR_mul]
    refine sumR_congr fun u hu => ?_
    rw [sumR_one _ n ((i + (n - u)) % n) (Nat.mod_lt _ hn0) (fun v hv hne => by rw [key u v hu hv, if_neg hne]; grind), key u _ hu (Nat.mod_lt _ hn0), if_pos rfl]
    grind
  rw [e2]
  rw [← hn] at hN
  grind
end
end Go.Proofs.YtjfkmoinldlmaaaGreat

/- Numbers modulo a prime as a ring; bits the other way round; the number of three residues: plain. -/
namespace Go.Proofs.YtjfkmoinldlmaaaGreat

section
variable {p : Nat} [NeZero p]
/-- A number, modulo p. -/
def ph (a : Nat) : Fin p := Fin.ofNat p a
theorem ph_val (a : Nat) : (ph a : Fin p).val = a % p := rfl
theorem ph_eq {a b : Nat} (h : a % p = b % p) : (ph a : Fin p) = ph b := Fin.ext h
theorem ph_mod (a : Nat) : (ph (a % p) : Fin p) = ph a := ph_eq (Nat.mod_mod _ _)
theorem ph_inj {a b : Nat} (h : (ph a : Fin p) = ph b) : a % p = b % p := by
  have := congrArg Fin.val h
  exact this
theorem ph_add (a b : Nat) : (ph (a + b) : Fin p) = ph a + ph b := by
  apply Fin.ext
  show (a + b) % p = ((a % p) + (b % p)) % p
  exact Nat.add_mod _ _ _
theorem ph_mul (a b : Nat) : (ph (a * b) : Fin p) = ph a * ph b := by
  apply Fin.ext
  show (a * b) % p = ((a % p) * (b % p)) % p
  exact Nat.mul_mod _ _ _
theorem ph_zero : (ph 0 : Fin p) = 0 := by
  apply Fin.ext
  show 0 % p = _
  rw [Nat.zero_mod]; rfl
theorem ph_one : (ph 1 : Fin p) = 1 := rfl
theorem ph_self : (ph p : Fin p) = 0 := by
  rw [← ph_mod, Nat.mod_self, ph_zero]
theorem ph_sub {a b : Nat} (h : b ≤ a) : (ph (a - b) : Fin p) = ph a - ph b := by
  have : (ph (a - b + b) : Fin p) = ph a := by rw [Nat.sub_add_cancel h]
  rw [ph_add] at this
  grind
theorem ph_pow (a n : Nat) : (ph (a ^ n) : Fin p) = ph a ^ n := by
  induction n with
  | zero => rw [Nat.pow_zero, fpow_zero, ph_one]
  | succ n ih => rw [Nat.pow_succ, ph_mul, ih, fpow_succ]
end

/-- The lowest m bits, the other way round. -/
def rev : Nat → Nat → Nat
  | 0, _ => 0
  | m + 1, i => 2 * rev m i + i / 2 ^ m % 2
theorem rev_lt (m i : Nat) : rev m i < 2 ^ m := by
  induction m with
  | zero => exact Nat.one_pos
  | succ m ih => simp only [rev]; rw [Nat.pow_succ]; omega
theorem rev_even (m b : Nat) : rev (m + 1) (2 * b) = rev m b := by
  induction m with
  | zero => simp only [rev]; omega
  | succ m ih =>
    rw [rev, ih, rev, Nat.pow_succ, Nat.mul_comm (2 ^ m) 2, Nat.mul_div_mul_left _ _ (by omega)]
theorem rev_odd (m b : Nat) : rev (m + 1) (2 * b + 1) = rev m b + 2 ^ m := by
  induction m with
  | zero => simp only [rev]; omega
  | succ m ih =>
    have e : (2 * b + 1) / (2 * 2 ^ m) = b / 2 ^ m := by
      rw [← Nat.div_div_eq_div_mul, show (2 * b + 1) / 2 = b by omega]
    rw [rev, ih, rev, Nat.pow_succ, Nat.mul_comm (2 ^ m) 2, e]
    omega
theorem rev_low (m j b : Nat) : rev m (j + 2 ^ m * b) = rev m j := by
  induction m generalizing b with
  | zero => rfl
  | succ m ih =>
    simp only [rev]
    have e1 : j + 2 ^ (m + 1) * b = j + 2 ^ m * (2 * b) := by rw [Nat.pow_succ, Nat.mul_assoc]
    rw [e1, ih, Nat.add_mul_div_left _ _ (Nat.pow_pos (by omega)), Nat.add_mul_mod_self_left]
theorem rev_top (m j b : Nat) (hj : j < 2 ^ m) (hb : b < 2) : rev (m + 1) (j + 2 ^ m * b) = 2 * rev m j + b := by
  simp only [rev]
  rw [rev_low, Nat.add_mul_div_left _ _ (Nat.pow_pos (by omega)), Nat.div_eq_of_lt hj]
  omega
theorem rev_rev (m i : Nat) (hi : i < 2 ^ m) : rev m (rev m i) = i := by
  induction m generalizing i with
  | zero => rw [Nat.pow_zero] at hi; simp only [rev]; omega
  | succ m ih =>
    have hp : 0 < 2 ^ m := Nat.pow_pos (by omega)
    have hdm := Nat.div_add_mod i (2 ^ m)
    have hj := Nat.mod_lt i hp
    have hb : i / 2 ^ m < 2 := by rw [Nat.div_lt_iff_lt_mul hp, Nat.mul_comm, ← Nat.pow_succ]; exact hi
    obtain ⟨j, hje⟩ : ∃ j, j = i % 2 ^ m := ⟨_, rfl⟩
    obtain ⟨b, hbe⟩ : ∃ b, b = i / 2 ^ m := ⟨_, rfl⟩
    rw [← hje] at hdm hj
    rw [← hbe] at hdm hb
    have hie : i = j + 2 ^ m * b := by omega
    rw [hie, rev_top m j b hj hb]
    have : b = 0 ∨ b = 1 := by omega
    rcases this with rfl | rfl
    · simp only [Nat.add_zero, Nat.mul_zero]; rw [rev_even, ih j hj]
    · rw [rev_odd, ih j hj]; omega

/-- The three primes. -/
def P3 : Nat → Nat
  | 0 => 998244353
  | 1 => 167772161
  | 2 => 469762049
  | _ => 1
/-- The digits of a number, by its residues. -/
theorem crt_mid {q : Nat} [NeZero q] (p x z0 z1 d f : Nat) (h0 : z0 = x % p) (hd : d < q) (h1 : (ph z1 : Fin q) = ph x) (hf : (ph f : Fin q) * ph p = 1) (e : (ph d : Fin q) = (ph z1 - ph z0) * ph f) : d = x / p % q := by
  have hx : (ph x : Fin q) = ph z0 + ph p * ph (x / p) := by
    rw [← ph_mul, ← ph_add, h0]
    congr 1
    exact (Nat.mod_add_div x p).symm
  have : (ph d : Fin q) = ph (x / p) := by rw [e, h1, hx]; grind
  have := ph_inj this
  rwa [Nat.mod_eq_of_lt hd] at this
theorem crt_high {r : Nat} [NeZero r] (p q x z0 z2 d1 d2 f : Nat) (h0 : z0 = x % p) (h1 : d1 = x / p % q) (hd : d2 < r) (h2 : (ph z2 : Fin r) = ph x) (hf : (ph f : Fin r) * (ph p * ph q) = 1) (hx : x < p * q * r)
    (e : (ph d2 : Fin r) = (ph z2 - ph z0 - ph d1 * ph p) * ph f) : d2 = x / p / q := by
  have hxe : (ph x : Fin r) = ph z0 + ph p * (ph d1 + ph q * ph (x / p / q)) := by
    rw [← ph_mul, ← ph_add, ← ph_mul, ← ph_add, h0, h1]
    congr 1
    rw [Nat.mod_add_div, Nat.mod_add_div]
  have : (ph d2 : Fin r) = ph (x / p / q) := by rw [e, h2, hxe]; grind
  have := ph_inj this
  rw [Nat.mod_eq_of_lt hd, Nat.mod_eq_of_lt (by
    rw [Nat.div_div_eq_div_mul]
    exact Nat.div_lt_of_lt_mul hx)] at this
  exact this
theorem crt_all (p q x z0 d1 d2 : Nat) (h0 : z0 = x % p) (h1 : d1 = x / p % q) (h2 : d2 = x / p / q) : z0 + (d1 + d2 * q) * p = x := by
  rw [h0, h1, h2, Nat.mul_comm _ q, Nat.mod_add_div, Nat.mul_comm, Nat.mod_add_div]
/-- A power, with its squares. -/
def mpow (p a n : Nat) : Nat := if n = 0 then 1 % p else if n % 2 = 1 then mpow p (a * a % p) (n / 2) * a % p else mpow p (a * a % p) (n / 2)
theorem mpow_ph {p : Nat} [NeZero p] (a n : Nat) : (ph (mpow p a n) : Fin p) = ph a ^ n := by
  induction n using Nat.strongRecOn generalizing a with
  | _ n ih =>
    rw [mpow]
    by_cases h0 : n = 0
    · rw [if_pos h0, h0, fpow_zero, ph_mod, ph_one]
    · rw [if_neg h0]
      have hi := ih (n / 2) (by omega) (a * a % p)
      rw [ph_mod, ph_mul] at hi
      have h2 : ((ph a : Fin p) * ph a) ^ (n / 2) = ph a ^ (2 * (n / 2)) := by
        generalize n / 2 = k
        induction k with
        | zero => rw [Nat.mul_zero, fpow_zero, fpow_zero]
        | succ k ihk => rw [fpow_succ, ihk, show 2 * (k + 1) = 2 * k + 1 + 1 by omega, fpow_succ, fpow_succ]; grind
      rw [h2] at hi
      by_cases h1 : n % 2 = 1
      · rw [if_pos h1, ph_mod, ph_mul, hi]
        conv => rhs; rw [show n = 2 * (n / 2) + 1 by omega, fpow_succ]
      · rw [if_neg h1, hi, show 2 * (n / 2) = n by omega]
/-- 3 is a root of -1, and 2 one of 1. -/
theorem prim (k : Nat) (hk : k < 3) : mpow (P3 k) 3 ((P3 k - 1) / 2) = P3 k - 1 ∧ mpow (P3 k) 2 (P3 k - 1) = 1 ∧ (P3 k - 1) % 8192 = 0 := by
  have : k = 0 ∨ k = 1 ∨ k = 2 := by omega
  rcases this with rfl | rfl | rfl <;> decide +kernel
end Go.Proofs.YtjfkmoinldlmaaaGreat

/- Roots of one modulo each prime; the slid row: plain. -/
namespace Go.Proofs.YtjfkmoinldlmaaaGreat

theorem P3_pos (k : Nat) : 0 < P3 k := by
  match k with
  | 0 => decide
  | 1 => decide
  | 2 => decide
  | _ + 3 => exact Nat.one_pos
instance (k : Nat) : NeZero (P3 k) := ⟨Nat.ne_of_gt (P3_pos k)⟩
theorem P3_lt (k : Nat) : P3 k < 1073741824 := by
  match k with
  | 0 => decide
  | 1 => decide
  | 2 => decide
  | _ + 3 => show 1 < 1073741824; decide
theorem P3_big (k : Nat) (hk : k < 3) : 100000000 < P3 k := by
  have : k = 0 ∨ k = 1 ∨ k = 2 := by omega
  rcases this with rfl | rfl | rfl <;> decide
/-- The root of 2^t. -/
def rootN (k t : Nat) : Nat := mpow (P3 k) 3 ((P3 k - 1) / 2 ^ t)
theorem half_exp {q t : Nat} (h : q % 8192 = 0) (h0 : 0 < t) (ht : t ≤ 12) : q / 2 ^ t * 2 ^ (t - 1) = q / 2 := by
  obtain ⟨c, rfl⟩ : ∃ c, q = 8192 * c := ⟨q / 8192, by omega⟩
  have : t = 1 ∨ t = 2 ∨ t = 3 ∨ t = 4 ∨ t = 5 ∨ t = 6 ∨ t = 7 ∨ t = 8 ∨ t = 9 ∨ t = 10 ∨ t = 11 ∨ t = 12 := by omega
  rcases this with rfl | rfl | rfl | rfl | rfl | rfl | rfl | rfl | rfl | rfl | rfl | rfl <;> simp only [Nat.reducePow, Nat.reduceSub] <;> omega
theorem three_half (k : Nat) (hk : k < 3) : (ph 3 : Fin (P3 k)) ^ ((P3 k - 1) / 2) = -1 := by
  have h := (prim k hk).1
  have h2 := mpow_ph (p := P3 k) 3 ((P3 k - 1) / 2)
  rw [h] at h2
  rw [← h2, ph_sub (P3_pos k), ph_self, ph_one]
  grind
theorem three_all (k : Nat) (hk : k < 3) : (ph 3 : Fin (P3 k)) ^ (P3 k - 1) = 1 := by
  have h := three_half k hk
  have hd := (prim k hk).2.2
  rw [show P3 k - 1 = (P3 k - 1) / 2 * 2 by omega, ← pow_pow, h, show (2 : Nat) = 1 + 1 by rfl, fpow_succ, show (1 : Nat) = 0 + 1 by rfl, fpow_succ, fpow_zero]
  grind
theorem two_all (k : Nat) (hk : k < 3) : (ph 2 : Fin (P3 k)) ^ (P3 k - 1) = 1 := by
  have h := (prim k hk).2.1
  have h2 := mpow_ph (p := P3 k) 2 (P3 k - 1)
  rw [h] at h2
  rw [← h2, ph_one]
theorem root_neg (k t : Nat) (hk : k < 3) (h0 : 0 < t) (ht : t ≤ 12) : (ph (rootN k t) : Fin (P3 k)) ^ 2 ^ (t - 1) = -1 := by
  unfold rootN
  rw [mpow_ph, pow_pow, half_exp (prim k hk).2.2 h0 ht, three_half k hk]
theorem root_unit (k : Nat) (hk : k < 3) : (ph (rootN k 0) : Fin (P3 k)) = 1 := by
  unfold rootN
  rw [mpow_ph, Nat.pow_zero, Nat.div_one, three_all k hk]
/-- The inverse, by Fermat's theorem. -/
def invN (k a : Nat) : Nat := mpow (P3 k) a (P3 k - 2)
theorem inv_of {k a : Nat} (hk : k < 3) (h : (ph a : Fin (P3 k)) ^ (P3 k - 1) = 1) : (ph a : Fin (P3 k)) * ph (invN k a) = 1 := by
  unfold invN
  have hb := P3_big k hk
  rw [mpow_ph, ← h, show P3 k - 1 = P3 k - 2 + 1 by omega, fpow_succ]
  grind
theorem inv_root (k t : Nat) (hk : k < 3) : (ph (rootN k t) : Fin (P3 k)) * ph (invN k (rootN k t)) = 1 := by
  apply inv_of hk
  unfold rootN
  rw [mpow_ph, pow_pow, Nat.mul_comm, ← pow_pow, three_all k hk, one_pow]
theorem inv_size (k t : Nat) (hk : k < 3) : (ph (2 ^ t) : Fin (P3 k)) * ph (invN k (2 ^ t)) = 1 := by
  apply inv_of hk
  rw [ph_pow, pow_pow, Nat.mul_comm, ← pow_pow, two_all k hk, one_pow]
theorem ph_ones {p : Nat} [NeZero p] (n : Nat) : sumR (fun _ => (1 : Fin p)) n = ph n := by
  induction n with
  | zero => rw [ph_zero]; rfl
  | succ n ih => simp only [sumR]; rw [ih, ph_add, ph_one]

section
variable {md : Nat} [NeZero md]
/-- The other way round. -/
theorem sumR_turn (g : Nat → Fin md) (n : Nat) : sumR (fun u => g (n - 1 - u)) n = sumR g n := by
  induction n generalizing g with
  | zero => rfl
  | succ n ih =>
    have h1 : sumR (fun u => g (n + 1 - 1 - u)) (n + 1) = sumR (fun u => g (n - u)) n + g 0 := by
      simp only [sumR, Nat.add_sub_cancel, Nat.sub_self]
    have h2 : sumR (fun u => g (n - u)) n = sumR (fun u => g (u + 1)) n := by
      rw [← ih (fun u => g (u + 1))]
      exact sumR_congr fun u hu => by rw [show n - u = n - 1 - u + 1 by omega]
    have h3 : sumR g (n + 1) = g 0 + sumR (fun u => g (u + 1)) n := by
      rw [Nat.add_comm n 1, sumR_split]
      have : sumR g 1 = g 0 := by simp only [sumR]; grind
      rw [this]
      congr 1
      exact sumR_congr fun u _ => by rw [Nat.add_comm]
    rw [h1, h2, h3]; grind
theorem sumR_around (g : Nat → Fin md) (n : Nat) : sumR (fun u => g ((n - u) % n)) n = sumR g n := by
  rcases Nat.eq_zero_or_pos n with h | h
  · subst h; rfl
  obtain ⟨m, rfl⟩ : ∃ m, n = m + 1 := ⟨n - 1, by omega⟩
  have h3 : sumR (fun u => g ((m + 1 - u) % (m + 1))) (m + 1) = g 0 + sumR (fun u => g (m - u)) m := by
    rw [Nat.add_comm m 1, sumR_split]
    have : sumR (fun u => g ((1 + m - u) % (1 + m))) 1 = g 0 := by
      simp only [sumR, Nat.sub_zero, Nat.mod_self]; grind
    rw [this]
    congr 1
    refine sumR_congr fun u hu => ?_
    rw [show 1 + m - (1 + u) = m - u by omega, Nat.mod_eq_of_lt (by omega)]
  rw [h3, ← sumR_turn g (m + 1)]
  simp only [sumR, Nat.add_sub_cancel, Nat.sub_self]
  grind
/-- The row p, turned, against x that goes round. -/
theorem slid (p x : Nat → Fin md) (n m i : Nat) (hm : m ≤ n) (hi : i + m ≤ n) (a : Nat → Fin md) (ha : ∀ u, u < n → a u = if (n - u) % n < m then p ((n - u) % n) else 0) :
    sumR (fun u => a u * x ((i + (n - u)) % n)) n = sumR (fun j => p j * x (i + j)) m := by
  have h1 : sumR (fun u => a u * x ((i + (n - u)) % n)) n = sumR (fun j => (if j < m then p j else 0) * x ((i + j) % n)) n := by
    rw [← sumR_around (fun j => (if j < m then p j else 0) * x ((i + j) % n)) n]
    refine sumR_congr fun u hu => ?_
    rw [ha u hu]
    congr 2
    rw [Nat.add_mod_mod]
  rw [h1, show n = m + (n - m) by omega, sumR_split]
  have h2 : sumR (fun j => (if m + j < m then p (m + j) else 0) * x ((i + (m + j)) % (m + (n - m)))) (n - m) = 0 := by
    refine sumR_zero fun j _ => ?_
    rw [if_neg (by omega)]; grind
  rw [h2, show sumR (fun j => (if j < m then p j else 0) * x ((i + j) % (m + (n - m)))) m + 0 = sumR (fun j => (if j < m then p j else 0) * x ((i + j) % (m + (n - m)))) m by grind]
  refine sumR_congr fun j hj => ?_
  rw [if_pos hj, Nat.mod_eq_of_lt (by omega)]
end
/-- The sum of products, from place i on. -/
def sumP (p x : Nat → Nat) (i : Nat) : Nat → Nat
  | 0 => 0
  | j + 1 => sumP p x i j + p j * x (i + j)
theorem sumP_ph {q : Nat} [NeZero q] (p x : Nat → Nat) (i m : Nat) : (ph (sumP p x i m) : Fin q) = sumR (fun j => ph (p j) * ph (x (i + j))) m := by
  induction m with
  | zero => exact ph_zero
  | succ m ih => simp only [sumP, sumR]; rw [ph_add, ih, ph_mul]
theorem sumP_le (p x : Nat → Nat) (i m A B : Nat) (hp : ∀ j, j < m → p j ≤ A) (hx : ∀ j, j < m → x (i + j) ≤ B) : sumP p x i m ≤ m * (A * B) := by
  induction m with
  | zero => exact Nat.zero_le _
  | succ m ih =>
    simp only [sumP]
    have h1 := ih (fun j hj => hp j (by omega)) (fun j hj => hx j (by omega))
    have h2 := Nat.mul_le_mul (hp m (by omega)) (hx m (by omega))
    rw [Nat.succ_mul]; omega
/-- Sums, differences and products modulo a prime. -/
def addN (k a b : Nat) : Nat := (a % P3 k + b % P3 k) % P3 k
def subN (k a b : Nat) : Nat := (a % P3 k + P3 k - b % P3 k) % P3 k
def mulN (k a b : Nat) : Nat := a % P3 k * (b % P3 k) % P3 k
theorem addN_lt (k a b : Nat) : addN k a b < P3 k := Nat.mod_lt _ (P3_pos k)
theorem subN_lt (k a b : Nat) : subN k a b < P3 k := Nat.mod_lt _ (P3_pos k)
theorem mulN_lt (k a b : Nat) : mulN k a b < P3 k := Nat.mod_lt _ (P3_pos k)
theorem addN_ph (k a b : Nat) : (ph (addN k a b) : Fin (P3 k)) = ph a + ph b := by unfold addN; rw [ph_mod, ph_add, ph_mod, ph_mod]
theorem mulN_ph (k a b : Nat) : (ph (mulN k a b) : Fin (P3 k)) = ph a * ph b := by unfold mulN; rw [ph_mod, ph_mul, ph_mod, ph_mod]
theorem subN_ph (k a b : Nat) : (ph (subN k a b) : Fin (P3 k)) = ph a - ph b := by
  unfold subN
  rw [ph_mod, ph_sub (by have := Nat.mod_lt b (P3_pos k); omega), ph_add, ph_mod, ph_mod, ph_self]
  grind
theorem mpow_lt {p : Nat} (hp : 0 < p) (a n : Nat) : mpow p a n < p := by
  rw [mpow]
  by_cases h0 : n = 0
  · rw [if_pos h0]; exact Nat.mod_lt _ hp
  · rw [if_neg h0]
    by_cases h1 : n % 2 = 1
    · rw [if_pos h1]; exact Nat.mod_lt _ hp
    · rw [if_neg h1]; exact mpow_lt hp _ _
  termination_by n
theorem inv_01 : (ph (invN 1 (P3 0)) : Fin (P3 1)) * ph (P3 0) = 1 := by
  have h : mpow (P3 1) (P3 0) (P3 1 - 1) = 1 := by decide +kernel
  have h2 := mpow_ph (p := P3 1) (P3 0) (P3 1 - 1)
  rw [h, ph_one] at h2
  have := inv_of (k := 1) (by omega) h2.symm
  grind
theorem inv_012 : (ph (invN 2 (mulN 2 (P3 0) (P3 1))) : Fin (P3 2)) * (ph (P3 0) * ph (P3 1)) = 1 := by
  have h : mpow (P3 2) (mulN 2 (P3 0) (P3 1)) (P3 2 - 1) = 1 := by decide +kernel
  have h2 := mpow_ph (p := P3 2) (mulN 2 (P3 0) (P3 1)) (P3 2 - 1)
  rw [h, ph_one] at h2
  have := inv_of (k := 2) (by omega) h2.symm
  rw [mulN_ph] at this
  grind
/-- The digits of three residues. -/
def dg1 (z0 z1 : Nat) : Nat := mulN 1 (subN 1 z1 (z0 % P3 0)) (invN 1 (P3 0))
def dg2 (z0 z1 z2 : Nat) : Nat := mulN 2 (subN 2 (subN 2 z2 (z0 % P3 0)) (mulN 2 (dg1 z0 z1) (P3 0))) (invN 2 (mulN 2 (P3 0) (P3 1)))
theorem join_eq (x z0 z1 z2 : Nat) (hx : x < 18446744073709551616) (h0 : z0 % P3 0 = x % P3 0) (h1 : z1 % P3 1 = x % P3 1) (h2 : z2 % P3 2 = x % P3 2) :
    z0 % P3 0 + (dg1 z0 z1 + dg2 z0 z1 z2 * P3 1) * P3 0 = x := by
  have e1 : dg1 z0 z1 = x / P3 0 % P3 1 := by
    refine crt_mid (P3 0) x (z0 % P3 0) z1 _ (invN 1 (P3 0)) h0 (mulN_lt _ _ _) (ph_eq h1) inv_01 ?_
    unfold dg1
    rw [mulN_ph, subN_ph]
  have e2 : dg2 z0 z1 z2 = x / P3 0 / P3 1 := by
    refine crt_high (P3 0) (P3 1) x (z0 % P3 0) z2 (dg1 z0 z1) _ (invN 2 (mulN 2 (P3 0) (P3 1))) h0 e1 (mulN_lt _ _ _) (ph_eq h2) inv_012 ?_ ?_
    · exact Nat.lt_of_lt_of_le hx (by decide)
    · unfold dg2
      rw [mulN_ph, subN_ph, subN_ph, mulN_ph]
  exact crt_all (P3 0) (P3 1) x _ _ _ h0 e1 e2
end Go.Proofs.YtjfkmoinldlmaaaGreat

/- A class of bytes as four words: which word holds which bytes; plain arithmetic, no program. -/
namespace Go.Proofs.YtjfkmoinldlmaaaGreat

/-- The low n bits of word k of a set of bytes. -/
def wdN (S : Nat → Bool) (k : Nat) : Nat → Nat
  | 0 => 0
  | n + 1 => wdN S k n + (if S (64 * k + n) then 2 ^ n else 0)

/-- Word k of a set of bytes. -/
def wd (S : Nat → Bool) (k : Nat) : Nat := wdN S k 64

theorem wdN_lt (S : Nat → Bool) (k n : Nat) : wdN S k n < 2 ^ n := by
  induction n with
  | zero => simp [wdN]
  | succ n ih =>
    simp only [wdN]
    have : 2 ^ (n + 1) = 2 ^ n + 2 ^ n := by rw [Nat.pow_succ]; omega
    split <;> omega

theorem wd_lt (S : Nat → Bool) (k : Nat) : wd S k < 18446744073709551616 := wdN_lt S k 64

theorem wdN_testBit (S : Nat → Bool) (k n i : Nat) : (wdN S k n).testBit i = (decide (i < n) && S (64 * k + i)) := by
  induction n with
  | zero => simp [wdN]
  | succ n ih =>
    simp only [wdN]
    have hl := wdN_lt S k n
    by_cases hs : S (64 * k + n) = true
    · rw [if_pos hs, Nat.add_comm]
      rcases Nat.lt_trichotomy i n with hi | hi | hi
      · rw [Nat.testBit_two_pow_add_gt hi, ih]
        simp [hi, Nat.lt_succ_of_lt hi]
      · subst hi
        rw [Nat.testBit_two_pow_add_eq, ih]
        simp [hs]
      · have h2 : 2 ^ n + wdN S k n < 2 ^ i := by
          have h3 : 2 ^ (n + 1) ≤ 2 ^ i := Nat.pow_le_pow_right (by omega) hi
          have h4 : 2 ^ (n + 1) = 2 ^ n + 2 ^ n := by rw [Nat.pow_succ]; omega
          omega
        rw [Nat.testBit_lt_two_pow h2]
        have : ¬ i < n + 1 := by omega
        simp [this]
    · rw [if_neg hs, Nat.add_zero, ih]
      by_cases hi : i < n
      · simp [hi, Nat.lt_succ_of_lt hi]
      · by_cases he : i = n
        · subst he; simp at hs; simp [hs]
        · have : ¬ i < n + 1 := by omega
          simp [hi, this]

theorem wd_testBit (S : Nat → Bool) (k i : Nat) : (wd S k).testBit i = (decide (i < 64) && S (64 * k + i)) := wdN_testBit S k 64 i

theorem wd_ext {S T : Nat → Bool} {k : Nat} (h : ∀ i, i < 64 → S (64 * k + i) = T (64 * k + i)) : wd S k = wd T k := by
  apply Nat.eq_of_testBit_eq
  intro i
  rw [wd_testBit, wd_testBit]
  by_cases hi : i < 64
  · simp [hi, h i hi]
  · simp [hi]

theorem wd_eq_iff (S T : Nat → Bool) (k : Nat) : wd S k = wd T k ↔ ∀ i, i < 64 → S (64 * k + i) = T (64 * k + i) := by
  constructor
  · intro h i hi
    have h1 := wd_testBit S k i
    rw [h, wd_testBit] at h1
    simpa [hi] using h1.symm
  · exact wd_ext

/-- Are two sets of bytes the same? -/
def clsEq (S T : Nat → Bool) : Bool := (List.range 256).all fun n => S n == T n

theorem clsEq_iff (S T : Nat → Bool) : clsEq S T = true ↔ ∀ n, n < 256 → S n = T n := by
  unfold clsEq
  rw [List.all_eq_true]
  simp [List.mem_range]

theorem clsEq_refl (S : Nat → Bool) : clsEq S S = true := (clsEq_iff S S).2 fun _ _ => rfl

theorem words_iff (S T : Nat → Bool) : clsEq S T = true ↔ wd S 0 = wd T 0 ∧ wd S 1 = wd T 1 ∧ wd S 2 = wd T 2 ∧ wd S 3 = wd T 3 := by
  rw [clsEq_iff, wd_eq_iff, wd_eq_iff, wd_eq_iff, wd_eq_iff]
  constructor
  · intro h
    exact ⟨fun i hi => h _ (by omega), fun i hi => h _ (by omega), fun i hi => h _ (by omega), fun i hi => h _ (by omega)⟩
  · rintro ⟨h0, h1, h2, h3⟩ n hn
    have hq : n / 64 = 0 ∨ n / 64 = 1 ∨ n / 64 = 2 ∨ n / 64 = 3 := by omega
    rcases hq with hq | hq | hq | hq
    · have := h0 (n % 64) (by omega); rwa [show 64 * 0 + n % 64 = n by omega] at this
    · have := h1 (n % 64) (by omega); rwa [show 64 * 1 + n % 64 = n by omega] at this
    · have := h2 (n % 64) (by omega); rwa [show 64 * 2 + n % 64 = n by omega] at this
    · have := h3 (n % 64) (by omega); rwa [show 64 * 3 + n % 64 = n by omega] at this

/-- Every four words are those of a set. -/
def setOf4 (a b c d : Nat) (n : Nat) : Bool :=
  if n < 64 then a.testBit n else if n < 128 then b.testBit (n - 64) else if n < 192 then c.testBit (n - 128) else d.testBit (n - 192)

theorem word_of_bits {x : Nat} (hx : x < 18446744073709551616) {S : Nat → Bool} {k : Nat} (h : ∀ i, i < 64 → S (64 * k + i) = x.testBit i) : wd S k = x := by
  apply Nat.eq_of_testBit_eq
  intro i
  rw [wd_testBit]
  by_cases hi : i < 64
  · simp [hi, h i hi]
  · have h2 : x < 2 ^ i := Nat.lt_of_lt_of_le hx (by
      have : (2 : Nat) ^ 64 ≤ 2 ^ i := Nat.pow_le_pow_right (by omega) (by omega)
      exact this)
    rw [Nat.testBit_lt_two_pow h2]
    simp [hi]

theorem setOf4_words {a b c d : Nat} (ha : a < 18446744073709551616) (hb : b < 18446744073709551616) (hc : c < 18446744073709551616) (hd : d < 18446744073709551616) :
    wd (setOf4 a b c d) 0 = a ∧ wd (setOf4 a b c d) 1 = b ∧ wd (setOf4 a b c d) 2 = c ∧ wd (setOf4 a b c d) 3 = d := by
  refine ⟨word_of_bits ha fun i hi => ?_, word_of_bits hb fun i hi => ?_, word_of_bits hc fun i hi => ?_, word_of_bits hd fun i hi => ?_⟩ <;> unfold setOf4
  · rw [if_pos (by omega), show 64 * 0 + i = i by omega]
  · rw [if_neg (by omega), if_pos (by omega), show 64 * 1 + i - 64 = i by omega]
  · rw [if_neg (by omega), if_neg (by omega), if_pos (by omega), show 64 * 2 + i - 128 = i by omega]
  · rw [if_neg (by omega), if_neg (by omega), if_neg (by omega), show 64 * 3 + i - 192 = i by omega]

/-! ### What the operations do to the words -/

theorem wd_or (S T : Nat → Bool) (k : Nat) : wd (fun n => S n || T n) k = wd S k ||| wd T k := by
  apply Nat.eq_of_testBit_eq
  intro i
  rw [Nat.testBit_or, wd_testBit, wd_testBit, wd_testBit]
  by_cases hi : i < 64 <;> simp [hi]

theorem wd_not (S : Nat → Bool) (k : Nat) : wd (fun n => !S n) k = 18446744073709551615 - wd S k := by
  apply Nat.eq_of_testBit_eq
  intro i
  have h := Nat.testBit_two_pow_sub_succ (wd_lt S k) (n := 64) i
  rw [show 18446744073709551615 - wd S k = 2 ^ 64 - (wd S k + 1) by have := wd_lt S k; omega, h, wd_testBit, wd_testBit]
  by_cases hi : i < 64 <;> simp [hi]

/-- A set with a byte. -/
def upd (S : Nat → Bool) (b : Nat) : Nat → Bool := fun n => S n || n == b

theorem wd_upd (S : Nat → Bool) (b k : Nat) : wd (upd S b) k = if k = b / 64 then wd S k ||| 2 ^ (b % 64) else wd S k := by
  apply Nat.eq_of_testBit_eq
  intro i
  split
  · rename_i h
    rw [Nat.testBit_or, wd_testBit, wd_testBit, Nat.testBit_two_pow]
    unfold upd
    by_cases hi : i < 64
    · simp only [hi, decide_true, Bool.true_and]
      congr 1
      rw [Bool.eq_iff_iff]
      simp only [beq_iff_eq, decide_eq_true_eq]
      omega
    · have : ¬ b % 64 = i := by omega
      simp [hi, this]
  · rename_i h
    rw [wd_testBit, wd_testBit]
    unfold upd
    by_cases hi : i < 64
    · have : (64 * k + i == b) = false := by
        rw [beq_eq_false_iff_ne]; omega
      simp [hi, this]
    · simp [hi]

/-- No byte. -/
def noByte : Nat → Bool := fun _ => false
theorem wd_noByte (k : Nat) : wd noByte k = 0 := by
  apply Nat.eq_of_testBit_eq
  intro i
  rw [wd_testBit]
  simp [noByte]

/-- One bit of a word, as the program asks for it. -/
theorem wd_bit (S : Nat → Bool) (b : Nat) : (wd S (b / 64) / 2 ^ (b % 64)) % 2 = if S b then 1 else 0 := by
  have h := wd_testBit S (b / 64) (b % 64)
  rw [Nat.testBit_eq_decide_div_mod_eq] at h
  have hm : b % 64 < 64 := Nat.mod_lt _ (by omega)
  have he : 64 * (b / 64) + b % 64 = b := Nat.div_add_mod b 64
  rw [he] at h
  simp only [hm, decide_true, Bool.true_and] at h
  cases hs : S b
  · rw [hs] at h
    simp at h
    simp
    omega
  · rw [hs] at h
    simp at h
    simp [h]
end Go.Proofs.YtjfkmoinldlmaaaGreat

/- How many bytes a class has: bits of a word counted by taking the lowest one away; the first byte; plain arithmetic, no program. -/
namespace Go.Proofs.YtjfkmoinldlmaaaGreat

/-- How many bits of a number are 1. -/
def pc (x : Nat) : Nat := if x = 0 then 0 else x % 2 + pc (x / 2)
  termination_by x
  decreasing_by omega

theorem pc_zero : pc 0 = 0 := by rw [pc, if_pos rfl]
theorem pc_half (x : Nat) : pc x = x % 2 + pc (x / 2) := by
  by_cases h : x = 0
  · subst h; simp [pc_zero]
  · rw [pc, if_neg h]

theorem and_pred (x : Nat) : x ≠ 0 → pc (x &&& (x - 1)) + 1 = pc x := by
  induction x using Nat.strongRecOn with
  | _ x ih =>
    intro hx
    have h2 := pc_half (x &&& (x - 1))
    have hm : (x &&& (x - 1)) % 2 = 0 := by
      rw [Nat.and_mod_two_pow (n := 1)]
      have : x % 2 = 0 ∨ x % 2 = 1 := by omega
      rcases this with h | h
      · simp [h]
      · have : (x - 1) % 2 = 0 := by omega
        simp [this]
    have hd : (x &&& (x - 1)) / 2 = x / 2 &&& (x - 1) / 2 := Nat.and_div_two
    rw [hm, hd] at h2
    have h1 := pc_half x
    by_cases hp : x % 2 = 1
    · have : (x - 1) / 2 = x / 2 := by omega
      rw [this, Nat.and_self] at h2
      omega
    · have hy : x / 2 ≠ 0 := by omega
      have : (x - 1) / 2 = x / 2 - 1 := by omega
      rw [this] at h2
      have := ih (x / 2) (by omega) hy
      omega

theorem and_pred_lt (x : Nat) (h : x ≠ 0) : x &&& (x - 1) < x := by
  have : x &&& (x - 1) ≤ x - 1 := Nat.and_le_right
  omega

/-- How many of the first n numbers are in a set. -/
def cntN (S : Nat → Bool) : Nat → Nat
  | 0 => 0
  | n + 1 => cntN S n + (if S n then 1 else 0)

theorem cntN_le (S : Nat → Bool) (n : Nat) : cntN S n ≤ n := by
  induction n with
  | zero => simp [cntN]
  | succ n ih => simp only [cntN]; split <;> omega

theorem cntN_congr {S T : Nat → Bool} {n : Nat} (h : ∀ i, i < n → S i = T i) : cntN S n = cntN T n := by
  induction n with
  | zero => rfl
  | succ n ih => simp only [cntN]; rw [ih fun i hi => h i (by omega), h n (by omega)]

theorem cntN_add (S : Nat → Bool) (m n : Nat) : cntN S (m + n) = cntN S m + cntN (fun i => S (m + i)) n := by
  induction n with
  | zero => simp [cntN]
  | succ n ih =>
    show cntN S (m + n) + (if S (m + n) then 1 else 0) = cntN S m + (cntN (fun i => S (m + i)) n + (if S (m + n) then 1 else 0))
    rw [ih]; omega

theorem pc_add_pow (n : Nat) : ∀ a, a < 2 ^ n → pc (a + 2 ^ n) = pc a + 1 := by
  induction n with
  | zero =>
    intro a ha
    have : a = 0 := by simpa using ha
    subst this
    have h1 := pc_half 1
    simp only [pc_zero, Nat.reduceDiv, Nat.reduceMod] at h1
    simp [pc_zero, h1]
  | succ n ih =>
    intro a ha
    have hp : 2 ^ (n + 1) = 2 * 2 ^ n := by rw [Nat.pow_succ]; omega
    have h1 := pc_half (a + 2 ^ (n + 1))
    have h2 := pc_half a
    have e1 : (a + 2 ^ (n + 1)) % 2 = a % 2 := by omega
    have e2 : (a + 2 ^ (n + 1)) / 2 = a / 2 + 2 ^ n := by omega
    rw [e1, e2, ih (a / 2) (by omega)] at h1
    omega

theorem pc_wdN (S : Nat → Bool) (k n : Nat) : pc (wdN S k n) = cntN (fun i => S (64 * k + i)) n := by
  induction n with
  | zero => simp [wdN, cntN, pc_zero]
  | succ n ih =>
    simp only [wdN, cntN]
    split
    · rw [pc_add_pow n _ (wdN_lt S k n), ih]
    · rw [Nat.add_zero, ih]; omega

/-- How many bytes a class has. -/
def cnt (S : Nat → Bool) : Nat := cntN S 256

theorem cnt_words (S : Nat → Bool) : cnt S = pc (wd S 0) + pc (wd S 1) + pc (wd S 2) + pc (wd S 3) := by
  unfold cnt wd
  rw [show 256 = 64 + (64 + (64 + 64)) from rfl, cntN_add, cntN_add, cntN_add, pc_wdN, pc_wdN, pc_wdN, pc_wdN]
  have e0 : cntN (fun i => S (64 * 0 + i)) 64 = cntN S 64 := cntN_congr fun i _ => by simp
  have e1 : cntN (fun i => S (64 * 1 + i)) 64 = cntN (fun i => S (64 + i)) 64 := rfl
  have e2 : cntN (fun i => S (64 * 2 + i)) 64 = cntN (fun i => S (64 + (64 + i))) 64 := cntN_congr fun i _ => by congr 1; omega
  have e3 : cntN (fun i => S (64 * 3 + i)) 64 = cntN (fun i => S (64 + (64 + (64 + i)))) 64 := cntN_congr fun i _ => by congr 1; omega
  rw [e0, e1, e2, e3]
  omega

/-- The first of n numbers, from k on, that is in a set; k + n, if none is. -/
def firstN (S : Nat → Bool) : Nat → Nat → Nat
  | k, 0 => k
  | k, n + 1 => if S k then k else firstN S (k + 1) n

theorem firstN_spec (S : Nat → Bool) (n : Nat) : ∀ k, k ≤ firstN S k n ∧ firstN S k n ≤ k + n ∧ (firstN S k n < k + n → S (firstN S k n) = true) ∧ ∀ i, k ≤ i → i < firstN S k n → S i = false := by
  induction n with
  | zero => intro k; simp only [firstN]; exact ⟨by omega, by omega, fun h => by omega, fun i h1 h2 => by omega⟩
  | succ n ih =>
    intro k
    simp only [firstN]
    split
    · rename_i h
      exact ⟨by omega, by omega, fun _ => h, fun i h1 h2 => by omega⟩
    · rename_i h
      obtain ⟨h1, h2, h3, h4⟩ := ih (k + 1)
      refine ⟨by omega, by omega, fun hl => h3 (by omega), fun i hi1 hi2 => ?_⟩
      by_cases he : i = k
      · subst he; simpa using h
      · exact h4 i (by omega) hi2

/-- The first byte of a class; 256, if it has none. -/
def first (S : Nat → Bool) : Nat := firstN S 0 256

theorem first_le (S : Nat → Bool) : first S ≤ 256 := by have := (firstN_spec S 256 0).2.1; unfold first; omega
theorem first_in (S : Nat → Bool) (h : first S < 256) : S (first S) = true := (firstN_spec S 256 0).2.2.1 (by unfold first at h; omega)
theorem first_none (S : Nat → Bool) (i : Nat) (h : i < first S) : S i = false := (firstN_spec S 256 0).2.2.2 i (by omega) h
theorem first_eq (S : Nat → Bool) (k : Nat) (hk : k ≤ 256) (hS : k < 256 → S k = true) (hn : ∀ i, i < k → S i = false) : first S = k := by
  rcases Nat.lt_trichotomy (first S) k with h | h | h
  · have := first_in S (by omega); rw [hn _ h] at this; cases this
  · exact h
  · have h1 := first_none S k h
    have h2 := first_le S
    rw [hS (by omega)] at h1
    cases h1

/-- Whether a class has just one byte. -/
def one (S : Nat → Bool) : Bool := decide (cnt S = 1)

theorem cntN_zero_iff (S : Nat → Bool) (n : Nat) : cntN S n = 0 ↔ ∀ i, i < n → S i = false := by
  induction n with
  | zero => simp [cntN]
  | succ n ih =>
    simp only [cntN]
    constructor
    · intro h i hi
      have h0 : cntN S n = 0 := by omega
      by_cases he : i = n
      · subst he
        cases hs : S i
        · rfl
        · rw [hs] at h; simp at h
      · exact ih.1 h0 i (by omega)
    · intro h
      rw [ih.2 fun i hi => h i (by omega), h n (by omega)]
      simp

/-- One byte: the first one, and no other. -/
theorem one_iff (S : Nat → Bool) : cnt S = 1 ↔ first S < 256 ∧ ∀ n, n < 256 → S n = (n == first S) := by
  have hf := first_le S
  have split : cnt S = cntN S (first S) + cntN (fun i => S (first S + i)) (256 - first S) := by
    unfold cnt
    rw [← cntN_add, show first S + (256 - first S) = 256 by omega]
  have h0 : cntN S (first S) = 0 := (cntN_zero_iff S _).2 fun i hi => first_none S i hi
  rw [h0, Nat.zero_add] at split
  by_cases hl : first S < 256
  · have hs := first_in S hl
    have e : 256 - first S = 1 + (255 - first S) := by omega
    rw [e, cntN_add] at split
    have e1 : cntN (fun i => S (first S + i)) 1 = 1 := by simp [cntN, hs]
    rw [e1] at split
    constructor
    · intro h1
      refine ⟨hl, fun n hn => ?_⟩
      have hz : cntN (fun i => S (first S + (1 + i))) (255 - first S) = 0 := by omega
      have hz' := (cntN_zero_iff _ _).1 hz
      rcases Nat.lt_trichotomy n (first S) with h | h | h
      · rw [first_none S n h]; exact (beq_eq_false_iff_ne.2 (by omega)).symm
      · subst h; simp [hs]
      · have := hz' (n - first S - 1) (by omega)
        rw [show first S + (1 + (n - first S - 1)) = n by omega] at this
        rw [this]; exact (beq_eq_false_iff_ne.2 (by omega)).symm
    · rintro ⟨_, h⟩
      have hz : cntN (fun i => S (first S + (1 + i))) (255 - first S) = 0 := (cntN_zero_iff _ _).2 fun i hi => by
        rw [h _ (by omega), beq_eq_false_iff_ne]; omega
      omega
  · have e : 256 - first S = 0 := by omega
    rw [e] at split
    simp only [cntN] at split
    constructor
    · intro h; omega
    · intro h; omega
end Go.Proofs.YtjfkmoinldlmaaaGreat

/- The runs of a set of numbers: first and last of each row of numbers that follow one another; plain lists, no program. -/
namespace Go.Proofs.YtjfkmoinldlmaaaGreat

/-- The last run goes on to n. -/
def setLast (l : List (Nat × Nat)) (n : Nat) : List (Nat × Nat) :=
  match l.getLast? with
  | some p => l.dropLast ++ [(p.1, n)]
  | none => l

/-- The runs of the numbers below n that are in a set. -/
def runsTo (S : Nat → Bool) : Nat → List (Nat × Nat)
  | 0 => []
  | n + 1 => if S n then (if n > 0 && S (n - 1) then setLast (runsTo S n) n else runsTo S n ++ [(n, n)]) else runsTo S n

theorem setLast_snoc (l : List (Nat × Nat)) (f t n : Nat) : setLast (l ++ [(f, t)]) n = l ++ [(f, n)] := by
  unfold setLast
  simp

theorem setLast_length (l : List (Nat × Nat)) (n : Nat) : (setLast l n).length = l.length := by
  unfold setLast
  cases h : l.getLast? with
  | none => rfl
  | some p =>
    have hne : l ≠ [] := by rintro rfl; simp at h
    have : 0 < l.length := List.length_pos_iff.2 hne
    simp
    omega

theorem runsTo_length (S : Nat → Bool) (n : Nat) : (runsTo S n).length ≤ n := by
  induction n with
  | zero => simp [runsTo]
  | succ n ih =>
    simp only [runsTo]
    split
    · split
      · rw [setLast_length]; omega
      · simp; omega
    · omega

theorem runsTo_out (S : Nat → Bool) (n : Nat) (h : S n = false) : runsTo S (n + 1) = runsTo S n := by
  simp [runsTo, h]
theorem runsTo_new (S : Nat → Bool) (n : Nat) (h : S n = true) (h0 : n = 0 ∨ S (n - 1) = false) : runsTo S (n + 1) = runsTo S n ++ [(n, n)] := by
  rcases h0 with rfl | h0
  · simp [runsTo, h]
  · simp [runsTo, h, h0]
theorem runsTo_on (S : Nat → Bool) (n : Nat) (h : S n = true) (hn : 0 < n) (h0 : S (n - 1) = true) : runsTo S (n + 1) = setLast (runsTo S n) n := by
  simp [runsTo, h, h0, hn]

/-- A run that began at f, with none ahead, and has come to t. -/
theorem runsTo_row (S : Nat → Bool) (f : Nat) (h0 : f = 0 ∨ S (f - 1) = false) (d : Nat) (h : ∀ i, f ≤ i → i ≤ f + d → S i = true) : runsTo S (f + d + 1) = runsTo S f ++ [(f, f + d)] := by
  induction d with
  | zero => exact runsTo_new S f (h f (Nat.le_refl _) (by omega)) h0
  | succ d ih =>
    have h1 := ih fun i hi hi2 => h i hi (by omega)
    have h2 := runsTo_on S (f + (d + 1)) (h _ (by omega) (by omega)) (by omega) (h _ (by omega) (by omega))
    rw [show f + (d + 1) + 1 = f + (d + 1) + 1 from rfl, h2, show f + (d + 1) = f + d + 1 by omega, h1, setLast_snoc]

/-- The numbers of the runs below n are those of the set below n. -/
def inRuns (l : List (Nat × Nat)) (n : Nat) : Bool := l.any fun p => decide (p.1 ≤ n) && decide (n ≤ p.2)

/-- What runs look like, as far as they have come: each begins ahead of its end; the last one ends where it must. -/
theorem runsTo_spec (S : Nat → Bool) (n : Nat) : (∀ p ∈ runsTo S n, p.1 ≤ p.2 ∧ p.2 < n) ∧ (0 < n → S (n - 1) = true → ∃ l f, runsTo S n = l ++ [(f, n - 1)]) ∧ ∀ i, inRuns (runsTo S n) i = (decide (i < n) && S i) := by
  induction n with
  | zero => exact ⟨by simp [runsTo], fun h => by omega, fun i => by simp [runsTo, inRuns]⟩
  | succ n ih =>
    obtain ⟨h1, h2, h3⟩ := ih
    by_cases hs : S n = true
    · by_cases h0 : n = 0 ∨ S (n - 1) = false
      · rw [runsTo_new S n hs h0]
        refine ⟨?_, fun _ _ => ⟨runsTo S n, n, by simp⟩, fun i => ?_⟩
        · intro p hp
          rcases List.mem_append.1 hp with hp | hp
          · have := h1 p hp; omega
          · simp at hp; subst hp; simp
        · have := h3 i
          unfold inRuns at this ⊢
          rw [List.any_append, this]
          simp only [List.any_cons, List.any_nil, Bool.or_false]
          rw [Bool.eq_iff_iff]
          simp only [Bool.or_eq_true, Bool.and_eq_true, decide_eq_true_eq]
          constructor
          · rintro (⟨a, b⟩ | ⟨a, b⟩)
            · exact ⟨by omega, b⟩
            · have : i = n := by omega
              subst this; exact ⟨by omega, hs⟩
          · rintro ⟨a, b⟩
            by_cases he : i = n
            · right; omega
            · left; exact ⟨by omega, b⟩
      · have hn : 0 < n := by
          rcases Nat.eq_zero_or_pos n with h | h
          · exact absurd (Or.inl h) h0
          · exact h
        have hp : S (n - 1) = true := by
          cases h : S (n - 1)
          · exact absurd (Or.inr h) h0
          · rfl
        obtain ⟨l, f, hl⟩ := h2 hn hp
        rw [runsTo_on S n hs hn hp, hl, setLast_snoc]
        have hf := h1 (f, n - 1) (by rw [hl]; simp)
        refine ⟨?_, fun _ _ => ⟨l, f, by simp⟩, fun i => ?_⟩
        · intro p hp
          rcases List.mem_append.1 hp with hp | hp
          · have := h1 p (by rw [hl]; exact List.mem_append_left _ hp); omega
          · simp at hp; subst hp; simp at hf ⊢; omega
        · have := h3 i
          rw [hl] at this
          unfold inRuns at this ⊢
          rw [List.any_append] at this ⊢
          simp only [List.any_cons, List.any_nil, Bool.or_false] at this ⊢
          rw [Bool.eq_iff_iff] at this ⊢
          simp only [Bool.or_eq_true, Bool.and_eq_true, decide_eq_true_eq] at this ⊢
          simp at hf
          constructor
          · rintro (a | ⟨a, b⟩)
            · have := this.1 (Or.inl a); exact ⟨by omega, this.2⟩
            · by_cases he : i = n
              · subst he; exact ⟨by omega, hs⟩
              · have := this.1 (Or.inr ⟨a, by omega⟩); exact ⟨by omega, this.2⟩
          · rintro ⟨a, b⟩
            by_cases he : i = n
            · right; omega
            · rcases this.2 ⟨by omega, b⟩ with c | ⟨c, d⟩
              · exact Or.inl c
              · right; omega
    · have hs' : S n = false := by simpa using hs
      rw [runsTo_out S n hs']
      refine ⟨fun p hp => by have := h1 p hp; omega, fun _ h => absurd h (by simp [hs']), fun i => ?_⟩
      rw [h3 i, Bool.eq_iff_iff]
      simp only [Bool.and_eq_true, decide_eq_true_eq]
      constructor
      · rintro ⟨a, b⟩; exact ⟨by omega, b⟩
      · rintro ⟨a, b⟩
        have : i ≠ n := by rintro rfl; rw [hs'] at b; cases b
        exact ⟨by omega, b⟩

/-- The runs of a class. -/
def runs (S : Nat → Bool) : List (Nat × Nat) := runsTo S 256
end Go.Proofs.YtjfkmoinldlmaaaGreat
