/- The kinds of a leaf, and how often each stands, in plain terms. -/
import Derived.Test.YtkhcjjdamphbfaaK2
import Derived.Test.YtkhcjjdamphbfaaWLOnce
namespace Go.Proofs.Ytkhcjjdamphbfaa

/-- The sum of those that are 3 or more. -/
def prN (f : Nat → Nat) : Nat → Nat
  | 0 => 0
  | k + 1 => prN f k + (if 3 ≤ f k then f k else 0)
/-- The sum. -/
def sumN (f : Nat → Nat) : Nat → Nat
  | 0 => 0
  | k + 1 => sumN f k + f k
theorem prN_le (f : Nat → Nat) (n : Nat) (h : ∀ j, f j ≤ n) (k : Nat) : prN f k ≤ k * n := by
  induction k with
  | zero => exact Nat.zero_le _
  | succ k ih =>
    have := h k
    rw [Nat.succ_mul]
    simp only [prN]
    split <;> omega
theorem pr_sum (f : Nat → Nat) (k : Nat) : prN f k + prR f k = sumN f k := by
  induction k with
  | zero => rfl
  | succ k ih => simp only [prN, prR, sumN]; split <;> omega
theorem pr_least (f : Nat → Nat) (k : Nat) : 3 * prF f k ≤ prN f k := by
  induction k with
  | zero => exact Nat.le_refl _
  | succ k ih => simp only [prN, prF]; split <;> omega
theorem sumN_add (f g : Nat → Nat) (k : Nat) : sumN (fun i => f i + g i) k = sumN f k + sumN g k := by
  induction k with
  | zero => rfl
  | succ k ih => simp only [sumN, ih]; omega
theorem sumN_zero (k : Nat) : sumN (fun _ => 0) k = 0 := by
  induction k with
  | zero => rfl
  | succ k ih => simp only [sumN, ih]
theorem sumN_cnt (p : Nat → Bool) (k : Nat) : sumN (fun i => (p i).toNat) k = cntN p k := by
  induction k with
  | zero => rfl
  | succ k ih => simp only [sumN, cntN, ih, ite_toNat]
theorem sumN_congr {f g : Nat → Nat} {k : Nat} (h : ∀ i, i < k → f i = g i) : sumN f k = sumN g k := by
  induction k with
  | zero => rfl
  | succ k ih => simp only [sumN]; rw [ih (fun i hi => h i (by omega)), h k (by omega)]
theorem sum_swap (p : Nat → Nat → Bool) (m n : Nat) : sumN (fun r => cntN (fun j => p j r) n) m = sumN (fun j => cntN (fun r => p j r) m) n := by
  induction n with
  | zero => simp only [cntN, sumN]; exact sumN_zero m
  | succ n ih =>
    simp only [cntN, sumN, ite_toNat]
    rw [sumN_add, ih, sumN_cnt]
theorem kinds_all (L : Nat → Nat → Bool) (n : Nat) : sumN (wl L n) (kindsTo L n).length = boundN L n := by
  have e : sumN (wl L n) (kindsTo L n).length = sumN (fun r => cntN (fun j => clsEq (L j) (gc (kindsTo L n) r)) n) (kindsTo L n).length :=
    sumN_congr fun r _ => by unfold wl; rw [whereTo_length]
  rw [e, sum_swap]
  unfold boundN
  rw [← sumN_cnt]
  exact sumN_congr fun j hj => occ_at L n j hj
theorem parts_all (L : Nat → Nat → Bool) (n : Nat) : prN (wl L n) (kindsTo L n).length + rst L n = boundN L n := by
  unfold rst
  rw [pr_sum, kinds_all]
end Go.Proofs.Ytkhcjjdamphbfaa
