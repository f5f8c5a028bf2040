/- Leaves in plain terms: free elements, letters, places, kinds; rows of classes as lists. -/
import Derived.Test.YtkhcjjdamphbfaaL1
import Derived.Test.YtkhcjjdamphbfaaN1
namespace Go.Proofs.Ytkhcjjdamphbfaa
open Go.RowKit

/-- All bytes. -/
def fullS : Nat → Bool := fun _ => true
theorem cntN_full (S : Nat → Bool) (k : Nat) : cntN S k = k ↔ ∀ n, n < k → S n = true := by
  induction k with
  | zero => simp [cntN]
  | succ k ih =>
    have hle := cntN_le S k
    simp only [cntN]
    by_cases hk : S k = true
    · simp only [hk, if_true]
      constructor
      · intro h n hn
        by_cases he : n = k
        · subst he; exact hk
        · exact ih.1 (by omega) n (by omega)
      · intro h
        have := ih.2 fun n hn => h n (by omega)
        omega
    · simp only [hk]
      constructor
      · intro h; exfalso; simp at h; omega
      · intro h; exact absurd (h k (by omega)) hk
theorem free_cnt (S : Nat → Bool) : decide (cnt S = 256) = clsEq S fullS := by
  rw [Bool.eq_iff_iff, decide_eq_true_eq, clsEq_iff]
  exact cntN_full S 256

/-- Do all below k? -/
def allN (p : Nat → Bool) : Nat → Bool
  | 0 => true
  | k + 1 => allN p k && p k
theorem allN_iff (p : Nat → Bool) (k : Nat) : allN p k = true ↔ ∀ j, j < k → p j = true := by
  induction k with
  | zero => simp [allN]
  | succ k ih =>
    simp only [allN, Bool.and_eq_true, ih]
    constructor
    · rintro ⟨h, h2⟩ j hj
      by_cases he : j = k
      · subst he; exact h2
      · exact h j (by omega)
    · intro h; exact ⟨fun j hj => h j (by omega), h k (by omega)⟩
theorem allN_miss {p : Nat → Bool} {k n : Nat} (hk : k < n) (h : p k = false) : allN p n = false := by
  rw [Bool.eq_false_iff]; intro hh; rw [(allN_iff p n).1 hh k hk] at h; cases h

/-- Is each element free, or of one byte? -/
def plainB (L : Nat → Nat → Bool) (n : Nat) : Bool := allN (fun j => one (L j) || clsEq (L j) fullS) n
/-- Has each element one byte? -/
def lettersB (L : Nat → Nat → Bool) (n : Nat) : Bool := allN (fun j => one (L j)) n
/-- These bytes. -/
def lets (L : Nat → Nat → Bool) (n : Nat) : List Int := (List.range n).map fun j => ((sgl (L j) : Nat) : Int)
theorem lets_succ (L : Nat → Nat → Bool) (n : Nat) : lets L (n + 1) = lets L n ++ [((sgl (L n) : Nat) : Int)] := by simp [lets, List.range_succ]
theorem lets_length (L : Nat → Nat → Bool) (n : Nat) : (lets L n).length = n := by simp [lets]
/-- The text of them. -/
def letsT (L : Nat → Nat → Bool) (n : Nat) : ByteArray := ⟨((lets L n).map fun x => UInt8.ofNat x.toNat).toArray⟩
/-- The cells of them. -/
def u8s (l : List Int) : List Value := l.map fun x => .int .u8 x
theorem u8s_snoc (l : List Int) (x : Int) : u8s (l ++ [x]) = u8s l ++ [.int .u8 x] := by simp [u8s]

/-- The places below k at which a class stands. -/
def whereTo (S : Nat → Bool) (L : Nat → Nat → Bool) : Nat → List Int
  | 0 => []
  | k + 1 => if clsEq (L k) S then whereTo S L k ++ [(k : Int)] else whereTo S L k
theorem whereTo_length (S : Nat → Bool) (L : Nat → Nat → Bool) (k : Nat) : (whereTo S L k).length = cntN (fun j => clsEq (L j) S) k := by
  induction k with
  | zero => rfl
  | succ k ih =>
    simp only [whereTo, cntN]
    split
    · rename_i h; rw [List.length_append, List.length_singleton, ih]
    · rename_i h; rw [ih]; rfl
theorem whereTo_mem (S : Nat → Bool) (L : Nat → Nat → Bool) (k : Nat) (x : Int) : x ∈ whereTo S L k ↔ ∃ j : Nat, x = j ∧ j < k ∧ clsEq (L j) S = true := by
  induction k with
  | zero => simp [whereTo]
  | succ k ih =>
    simp only [whereTo]
    split
    · rename_i h
      rw [List.mem_append, List.mem_singleton, ih]
      constructor
      · rintro (⟨j, rfl, hj, hc⟩ | rfl)
        · exact ⟨j, rfl, by omega, hc⟩
        · exact ⟨k, rfl, by omega, h⟩
      · rintro ⟨j, rfl, hj, hc⟩
        by_cases he : j = k
        · subst he; exact .inr rfl
        · exact .inl ⟨j, rfl, by omega, hc⟩
    · rename_i h
      rw [ih]
      constructor
      · rintro ⟨j, rfl, hj, hc⟩; exact ⟨j, rfl, by omega, hc⟩
      · rintro ⟨j, rfl, hj, hc⟩
        by_cases he : j = k
        · subst he; exact absurd hc h
        · exact ⟨j, rfl, by omega, hc⟩

/-- Does a class stand in a list? -/
def inL (S : Nat → Bool) (l : List (Nat → Bool)) : Bool := l.any fun T => clsEq T S
/-- The kinds of the first k elements. -/
def kindsTo (L : Nat → Nat → Bool) : Nat → List (Nat → Bool)
  | 0 => []
  | k + 1 => if clsEq (L k) fullS || inL (L k) (kindsTo L k) then kindsTo L k else kindsTo L k ++ [L k]
theorem kindsTo_length (L : Nat → Nat → Bool) (k : Nat) : (kindsTo L k).length ≤ k := by
  induction k with
  | zero => exact Nat.le_refl _
  | succ k ih =>
    simp only [kindsTo]
    split
    · omega
    · rw [List.length_append, List.length_singleton]; omega

/-- Classes as cells. -/
def clsL (l : List (Nat → Bool)) : List Value := l.flatMap fun S => [.int .u64 (wd S 0 : Nat), .int .u64 (wd S 1 : Nat), .int .u64 (wd S 2 : Nat), .int .u64 (wd S 3 : Nat)]
theorem clsL_snoc (l : List (Nat → Bool)) (S : Nat → Bool) : clsL (l ++ [S]) = clsL l ++ [.int .u64 (wd S 0 : Nat), .int .u64 (wd S 1 : Nat), .int .u64 (wd S 2 : Nat), .int .u64 (wd S 3 : Nat)] := by simp [clsL]
theorem clsL_length (l : List (Nat → Bool)) : (clsL l).length = l.length * 4 := by
  induction l with
  | nil => rfl
  | cons S l ih => simp only [clsL, List.flatMap_cons, List.length_append, List.length_cons, List.length_nil] at ih ⊢; omega
/-- The class at a place. -/
def gc (l : List (Nat → Bool)) (j : Nat) : Nat → Bool := (l[j]?).getD noByte
theorem clsL_cells (l : List (Nat → Bool)) : clsL l = clsCells (gc l) l.length := by
  have h : ∀ k, k ≤ l.length → clsL (l.take k) = clsCells (gc l) k := by
    intro k
    induction k with
    | zero => intro _; rfl
    | succ k ih =>
      intro hk
      rw [List.take_succ_eq_append_getElem (by omega), clsL_snoc, ih (by omega)]
      have e : gc l k = l[k] := by unfold gc; rw [List.getElem?_eq_getElem (by omega)]; rfl
      simp only [clsCells, e]
  have := h l.length (Nat.le_refl _)
  rwa [List.take_length] at this
theorem rowC_of_list {w : World} {base cap : Nat} {ad : Option Addr} {l : List (Nat → Bool)} (h : w.ownsRow base 26 4 (.slice ad l.length cap) l.length (clsL l)) : RowC w ad l.length (gc l) w.heap.size := by
  rw [clsL_cells] at h
  exact rowC_of_own h

/-- Are two rows of classes alike below k? -/
def agC (L M : Nat → Nat → Bool) : Nat → Bool
  | 0 => true
  | k + 1 => agC L M k && clsEq (L k) (M k)
theorem agC_iff (L M : Nat → Nat → Bool) (k : Nat) : agC L M k = true ↔ ∀ n, n < k → clsEq (L n) (M n) = true := by
  induction k with
  | zero => simp [agC]
  | succ k ih =>
    simp only [agC, Bool.and_eq_true, ih]
    constructor
    · rintro ⟨h1, h2⟩ n hn
      by_cases he : n = k
      · subst he; exact h2
      · exact h1 n (by omega)
    · intro h; exact ⟨fun n hn => h n (by omega), h k (by omega)⟩
theorem agC_refl (L : Nat → Nat → Bool) (k : Nat) : agC L L k = true := (agC_iff L L k).2 fun _ _ => clsEq_refl _
theorem clsEq_comm (S T : Nat → Bool) : clsEq S T = clsEq T S := by
  rw [Bool.eq_iff_iff, clsEq_iff, clsEq_iff]
  exact ⟨fun h n hn => (h n hn).symm, fun h n hn => (h n hn).symm⟩
theorem clsEq_trans {S T U : Nat → Bool} (h : clsEq S T = true) (k : clsEq T U = true) : clsEq S U = true :=
  (clsEq_iff _ _).2 fun n hn => ((clsEq_iff _ _).1 h n hn).trans ((clsEq_iff _ _).1 k n hn)
theorem agC_comm (L M : Nat → Nat → Bool) (k : Nat) : agC L M k = agC M L k := by
  rw [Bool.eq_iff_iff, agC_iff, agC_iff]
  exact ⟨fun h n hn => by rw [clsEq_comm]; exact h n hn, fun h n hn => by rw [clsEq_comm]; exact h n hn⟩
/-- Are two leaves the same? -/
def sameB (n : Nat) (L : Nat → Nat → Bool) (K : Int) (n' : Nat) (L' : Nat → Nat → Bool) (K' : Int) : Bool := decide (K = K') && (decide (n = n') && agC L L' n)

/-- How many elements are bound. -/
def boundN (L : Nat → Nat → Bool) (n : Nat) : Nat := cntN (fun j => !clsEq (L j) fullS) n
theorem bound_where (L : Nat → Nat → Bool) (n : Nat) : boundN L n + (whereTo fullS L n).length = n := by
  rw [whereTo_length]
  unfold boundN
  induction n with
  | zero => rfl
  | succ n ih =>
    simp only [cntN]
    by_cases h : clsEq (L n) fullS = true
    · simp only [h, Bool.not_true, Bool.false_eq_true, if_false, if_true]; omega
    · rw [Bool.not_eq_true] at h
      simp only [h, Bool.not_false, Bool.false_eq_true, if_false, if_true]; omega
end Go.Proofs.Ytkhcjjdamphbfaa
