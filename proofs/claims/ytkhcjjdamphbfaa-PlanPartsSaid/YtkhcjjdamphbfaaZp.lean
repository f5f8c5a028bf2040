/- How far a text goes on like another one, from each of its places: plain. -/
import Derived.Test.YtkhcjjdamphbfaaN1
namespace Go.Proofs.Ytkhcjjdamphbfaa

/-- Is byte n of s there, and that of t at i + n? -/
def good (s t : ByteArray) (i n : Nat) : Bool := decide (n < s.size) && (decide (i + n < t.size) && (tb s n == tb t (i + n)))
theorem good_iff (s t : ByteArray) (i n : Nat) : good s t i n = true ↔ n < s.size ∧ i + n < t.size ∧ tb s n = tb t (i + n) := by simp [good]
/-- How far t goes on from i like s from its beginning. -/
def lc (s t : ByteArray) (i : Nat) : Nat := firstN (fun n => !good s t i n) 0 s.size
theorem lc_spec (s t : ByteArray) (i : Nat) : (∀ j, j < lc s t i → good s t i j = true) ∧ good s t i (lc s t i) = false := by
  obtain ⟨_, h2, h3, h4⟩ := firstN_spec (fun n => !good s t i n) s.size 0
  refine ⟨fun j hj => by simpa using h4 j (by omega) hj, ?_⟩
  by_cases h : lc s t i < 0 + s.size
  · have h5 := h3 h
    rw [Bool.not_eq_true'] at h5
    exact h5
  · rw [Bool.eq_false_iff]
    intro hg
    have := (good_iff _ _ _ _).1 hg
    omega
theorem lc_eq {s t : ByteArray} {i r : Nat} (h : ∀ j, j < r → good s t i j = true) (h2 : good s t i r = false) : lc s t i = r := by
  obtain ⟨a, b⟩ := lc_spec s t i
  rcases Nat.lt_trichotomy (lc s t i) r with hl | hl | hl
  · rw [h _ hl] at b; cases b
  · exact hl
  · rw [a _ hl] at h2; cases h2
theorem lc_le (s t : ByteArray) (i : Nat) : lc s t i ≤ s.size := by
  by_cases h : lc s t i = 0
  · omega
  · have := (good_iff _ _ _ _).1 ((lc_spec s t i).1 (lc s t i - 1) (by omega))
    omega
theorem lc_fits (s t : ByteArray) (i : Nat) (hi : i ≤ t.size) : i + lc s t i ≤ t.size := by
  by_cases h : lc s t i = 0
  · omega
  · have := (good_iff _ _ _ _).1 ((lc_spec s t i).1 (lc s t i - 1) (by omega))
    omega
theorem lc_self (s : ByteArray) : lc s s 0 = s.size := lc_eq (fun j hj => (good_iff _ _ _ _).2 ⟨hj, by omega, by rw [Nat.zero_add]⟩) (by
  rw [Bool.eq_false_iff]; intro hg; have := (good_iff _ _ _ _).1 hg; omega)
/-- The rows. -/
def rowsL (s t : ByteArray) : List Int := (List.range t.size).map fun i => ((lc s t i : Nat) : Int)
theorem rowsL_length (s t : ByteArray) : (rowsL s t).length = t.size := by simp [rowsL]
theorem rowsL_gi (s t : ByteArray) (i : Nat) (hi : i < t.size) : gi (rowsL s t) i = ((lc s t i : Nat) : Int) := by
  unfold gi rowsL
  rw [List.getElem?_map, List.getElem?_range hi]
  rfl
theorem rowsL_take (s t : ByteArray) (k : Nat) (hk : k < t.size) : (rowsL s t).take (k + 1) = (rowsL s t).take k ++ [((lc s t k : Nat) : Int)] := by
  rw [List.take_succ_eq_append_getElem (by rw [rowsL_length]; exact hk)]
  simp [rowsL]

/-- What was seen farthest. -/
structure ZInv (s t : ByteArray) (fr to i : Nat) : Prop where
  fi : fr ≤ i
  tt : to ≤ t.size
  ts : to ≤ fr + s.size
  eq : ∀ j, fr + j < to → tb t (fr + j) = tb s j
theorem ZInv.good {s t : ByteArray} {fr to i : Nat} (h : ZInv s t fr to i) (hi : i < to) {j : Nat} (h1 : j < lc s s (i - fr)) (h2 : j < to - i) : Go.Proofs.Ytkhcjjdamphbfaa.good s t i j = true := by
  have a := (good_iff _ _ _ _).1 ((lc_spec s s (i - fr)).1 j h1)
  have b := h.eq (i - fr + j) (by have := h.fi; omega)
  have hf := h.fi
  have ht := h.tt
  refine (good_iff _ _ _ _).2 ⟨a.1, by omega, ?_⟩
  rw [a.2.2, ← b]
  congr 1
  omega
theorem ZInv.next {s t : ByteArray} {fr to i : Nat} (h : ZInv s t fr to i) : ZInv s t fr to (i + 1) := ⟨by have := h.fi; omega, h.tt, h.ts, h.eq⟩
theorem ZInv.new (s t : ByteArray) (i : Nat) (hi : i ≤ t.size) : ZInv s t i (i + lc s t i) (i + 1) where
  fi := by omega
  tt := lc_fits s t i hi
  ts := by have := lc_le s t i; omega
  eq j hj := ((good_iff _ _ _ _).1 ((lc_spec s t i).1 j (by omega))).2.2.symm
theorem ZInv.start (s t : ByteArray) : ZInv s t 0 0 0 := ⟨by omega, by omega, by omega, fun j hj => by omega⟩
end Go.Proofs.Ytkhcjjdamphbfaa
