/- What naive counts, finds and finds first is what the document says: plain lists. -/
import Derived.Test.YtkhcjjdamphbfaaN7
namespace Go.Proofs.Ytkhcjjdamphbfaa

theorem many_at (t : ByteArray) (n : Nat) (L : Nat → Nat → Bool) (K : Int) (k : Nat) : okAt t n L K (k : Nat) = decide (k < many t n L K 0) := by
  unfold okAt many
  cases rightB n L K
  · simp
  · simp only [Bool.true_and, if_true]
    rw [Bool.eq_iff_iff]
    simp
    omega
theorem cnts_to (t : ByteArray) (n : Nat) (L : Nat → Nat → Bool) (K : Int) (k : Nat) : cntsTo t n L K k = (plc 0 (min k (many t n L K 0))).map fun i => ((mis t L i n : Nat) : Int) := by
  induction k with
  | zero => simp [cntsTo, plc]
  | succ k ih =>
    simp only [cntsTo]
    rw [many_at, ih]
    by_cases h : k < many t n L K 0
    · rw [decide_eq_true h, if_pos rfl, Nat.min_eq_left (by omega), Nat.min_eq_left (by omega), plc_succ, List.map_append, Nat.zero_add]
      rfl
    · rw [decide_eq_false h, if_neg (by decide), Nat.min_eq_right (by omega), Nat.min_eq_right (by omega)]
theorem many_le (t : ByteArray) (n : Nat) (L : Nat → Nat → Bool) (K : Int) (s : Nat) : many t n L K s ≤ t.size + 1 := by unfold many; split <;> omega
theorem cnts_eq (t : ByteArray) (n : Nat) (L : Nat → Nat → Bool) (K : Int) : cntsTo t n L K (t.size + 1) = (plc 0 (many t n L K 0)).map fun i => ((mis t L i n : Nat) : Int) := by
  rw [cnts_to, Nat.min_eq_right (many_le _ _ _ _ _)]
theorem hits_plc (t : ByteArray) (n : Nat) (L : Nat → Nat → Bool) (K : Int) (m k : Nat) (hk : k ≤ m) : hitsTo (gi ((plc 0 m).map fun i => ((mis t L i n : Nat) : Int))) K k = fnd t n L K (plc 0 k) := by
  induction k with
  | zero => simp [hitsTo, plc, fnd]
  | succ k ih =>
    simp only [hitsTo]
    rw [ih (by omega), plc_succ, fnd_snoc, Nat.zero_add]
    have e : gi ((plc 0 m).map fun i => ((mis t L i n : Nat) : Int)) k = ((mis t L k n : Nat) : Int) := by
      unfold gi plc
      rw [List.getElem?_map, List.getElem?_map, List.getElem?_range (by omega)]
      simp
    rw [e]
theorem find_eq (t : ByteArray) (n : Nat) (L : Nat → Nat → Bool) (K : Int) : findL t n L K = fnd t n L K (plc 0 (many t n L K 0)) := by
  unfold findL
  rw [cnts_eq, List.length_map, plc_length]
  exact hits_plc t n L K _ _ (Nat.le_refl _)
theorem fnd_mem {t : ByteArray} {n : Nat} {L : Nat → Nat → Bool} {K : Int} {l : List Nat} {x : Int} (h : x ∈ fnd t n L K l) : ∃ q, q ∈ l ∧ x = (q : Int) := by
  unfold fnd at h
  obtain ⟨q, hq, rfl⟩ := List.mem_map.1 h
  exact ⟨q, (List.mem_filter.1 hq).1, rfl⟩
theorem plc_mem {s k x : Nat} (h : x ∈ plc s k) : s ≤ x ∧ x < s + k := by
  unfold plc at h
  obtain ⟨j, hj, rfl⟩ := List.mem_map.1 h
  have := List.mem_range.1 hj
  omega
theorem many_from (t : ByteArray) (n : Nat) (L : Nat → Nat → Bool) (K : Int) (s : Nat) : many t n L K s = many t n L K 0 - s := by unfold many; split <;> omega
theorem find_head {l : List Int} {p : Int → Bool} (h : ∀ x ∈ l, p x = true) : l.find? p = l.head? := by
  cases l with
  | nil => rfl
  | cons a r => rw [List.find?_cons_of_pos (h a (by simp))]; rfl
theorem first_ref (t : ByteArray) (n : Nat) (L : Nat → Nat → Bool) (K b : Int) (s : Nat) (hs : max 0 b = (s : Int)) : fge (findL t n L K) b = firstF t n L K s := by
  unfold fge firstF
  rw [find_eq, many_from t n L K s]
  generalize many t n L K 0 = m
  by_cases hm : s ≤ m
  · obtain ⟨r, rfl⟩ : ∃ r, m = s + r := ⟨m - s, by omega⟩
    rw [plc_add, fnd_append, List.find?_append, Nat.add_sub_cancel_left, Nat.zero_add]
    have h1 : (fnd t n L K (plc 0 s)).find? (fun x => decide (b ≤ x)) = none := by
      rw [List.find?_eq_none]
      intro x hx
      obtain ⟨q, hq, rfl⟩ := fnd_mem hx
      have := plc_mem hq
      simp
      omega
    rw [h1, Option.none_or]
    refine find_head fun x hx => ?_
    obtain ⟨q, hq, rfl⟩ := fnd_mem hx
    have := plc_mem hq
    simp
    omega
  · rw [show m - s = 0 by omega]
    have h0 : fnd t n L K (plc s 0) = [] := rfl
    rw [h0, List.head?_nil, List.find?_eq_none]
    intro x hx
    obtain ⟨q, hq, rfl⟩ := fnd_mem hx
    have := plc_mem hq
    simp
    omega
end Go.Proofs.Ytkhcjjdamphbfaa
