/- What is found with a lesser K is found with a greater one: plain lists. -/
import Derived.Test.YtkhcjjdamphbfaaNp
import Derived.Test.YtkhcjjdamphbfaaLp
namespace Go.Proofs.Ytkhcjjdamphbfaa

theorem plc_pairwise (s k : Nat) : (plc s k).Pairwise (· < ·) := by
  unfold plc
  rw [List.pairwise_map]
  exact List.pairwise_lt_range.imp fun h => by omega
theorem fnd_pairwise (t : ByteArray) (n : Nat) (L : Nat → Nat → Bool) (K : Int) (s m : Nat) : (fnd t n L K (plc s m)).Pairwise (· < ·) := by
  unfold fnd
  rw [List.pairwise_map]
  exact ((plc_pairwise s m).filter _).imp fun h => by omega
theorem gi_get {l : List Int} {a : Nat} (h : a < l.length) : gi l a = l[a] := by
  unfold gi
  rw [List.getElem?_eq_getElem h]; rfl
theorem gi_lt {l : List Int} (h : l.Pairwise (· < ·)) {a b : Nat} (hab : a < b) (hb : b < l.length) : gi l a < gi l b := by
  rw [gi_get (by omega), gi_get hb]
  exact List.pairwise_iff_getElem.1 h a b (by omega) hb hab
theorem gi_mem {l : List Int} {x : Int} (h : x ∈ l) : ∃ p, p < l.length ∧ gi l p = x := by
  obtain ⟨p, hp, hx⟩ := List.mem_iff_getElem.1 h
  exact ⟨p, hp, by rw [gi_get hp]; exact hx⟩
theorem fnd_sub {t : ByteArray} {n : Nat} {L : Nat → Nat → Bool} {K k : Int} (hk : K ≤ k) {l : List Nat} {x : Int} (h : x ∈ fnd t n L K l) : x ∈ fnd t n L k l := by
  unfold fnd at h ⊢
  obtain ⟨q, hq, rfl⟩ := List.mem_map.1 h
  obtain ⟨h1, h2⟩ := List.mem_filter.1 hq
  refine List.mem_map.2 ⟨q, List.mem_filter.2 ⟨h1, ?_⟩, rfl⟩
  rw [decide_eq_true_eq] at h2 ⊢
  omega
theorem sub_at {t : ByteArray} {n : Nat} {L : Nat → Nat → Bool} {K k : Int} (hk : K ≤ k) {l : List Nat} {j : Nat} (hj : j < (fnd t n L K l).length) : ∃ p, p < (fnd t n L k l).length ∧ gi (fnd t n L k l) p = gi (fnd t n L K l) j :=
  gi_mem (fnd_sub hk (by rw [gi_get hj]; exact List.getElem_mem hj))
theorem fnd_all {t : ByteArray} {n : Nat} {L : Nat → Nat → Bool} {K : Int} {l : List Nat} (h : ∀ q, (mis t L q n : Int) ≤ K) : (fnd t n L K l).length = l.length := by
  unfold fnd
  rw [List.length_map, List.filter_eq_self.2]
  intro q _
  exact decide_eq_true (h q)
theorem mis_free (t : ByteArray) (i n : Nat) : mis t (fun _ => fullS) i n = 0 := by
  induction n with
  | zero => rfl
  | succ n ih => simp [mis, ih, fullS]
theorem right_free {n : Nat} (h1 : 1 ≤ n) (h2 : n ≤ 64) : rightB n (fun _ => fullS) 0 = true := by
  unfold rightB
  have h : anyN (fun _ => clsEq noByte fullS) n = false := by
    rw [Bool.eq_false_iff]
    intro hh
    obtain ⟨j, -, hj⟩ := (anyN_iff _ _).1 hh
    have : clsEq noByte fullS = false := by decide +kernel
    rw [this] at hj; cases hj
  rw [h, decide_eq_true h1, decide_eq_true h2]; rfl
theorem right_K {n : Nat} {L : Nat → Nat → Bool} {K k : Int} (h : rightB n L K = true) (h0 : 0 ≤ k) (h1 : k ≤ 64) : rightB n L k = true := by
  unfold rightB at h ⊢
  simp only [Bool.and_eq_true, decide_eq_true_eq] at h ⊢
  exact ⟨h.1, h.2.1, h.2.2.1, h0, h1⟩
theorem right_in {n : Nat} {L : Nat → Nat → Bool} {K : Int} (h : rightB n L K = true) : (1 ≤ n ∧ n ≤ 64) ∧ 0 ≤ K ∧ K ≤ 64 := by
  unfold rightB at h
  simp only [Bool.and_eq_true, decide_eq_true_eq] at h
  exact ⟨⟨h.1, h.2.1⟩, h.2.2.2⟩
theorem many_len {t : ByteArray} {n : Nat} {L : Nat → Nat → Bool} {K : Int} (h : rightB n L K = true) : many t n L K 0 = t.size + 1 - n := by
  unfold many
  rw [h, if_pos rfl]; omega
end Go.Proofs.Ytkhcjjdamphbfaa
