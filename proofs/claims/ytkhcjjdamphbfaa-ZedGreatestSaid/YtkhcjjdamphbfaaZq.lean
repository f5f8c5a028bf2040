/- Where a text stands in another one, by its rows: plain. -/
import Derived.Test.YtkhcjjdamphbfaaZp
namespace Go.Proofs.Ytkhcjjdamphbfaa

/-- The places below k at which p stands. -/
def zfTo (p t : ByteArray) : Nat → List Int
  | 0 => []
  | k + 1 => if lc p t k = p.size then zfTo p t k ++ [(k : Int)] else zfTo p t k
theorem zfTo_length (p t : ByteArray) (k : Nat) : (zfTo p t k).length ≤ k := by
  induction k with
  | zero => exact Nat.le_refl _
  | succ k ih =>
    simp only [zfTo]
    split
    · rw [List.length_append, List.length_singleton]; omega
    · omega
/-- The places at which p stands in t. -/
def zf (p t : ByteArray) : List Int := if p.size = 0 then [] else zfTo p t t.size
theorem zfTo_stop (p t : ByteArray) (a b : Nat) (hb : b ≤ t.size) (ha : a ≤ b) (h : t.size < a + p.size) : zfTo p t b = zfTo p t a := by
  obtain ⟨d, rfl⟩ : ∃ d, b = a + d := ⟨b - a, by omega⟩
  clear ha
  induction d with
  | zero => rfl
  | succ d ih =>
    have hne : ¬ (lc p t (a + d) = p.size) := by
      have := lc_fits p t (a + d) (by omega)
      omega
    show (if lc p t (a + d) = p.size then _ else _) = _
    rw [if_neg hne]
    exact ih (by omega)
theorem sub_eq (p t : ByteArray) (i : Nat) (h : i + p.size ≤ t.size) : (t.extract i (i + p.size) = p) ↔ lc p t i = p.size := by
  have hl : (t.extract i (i + p.size)).data.toList = (t.data.toList.drop i).take p.size := by
    rw [ByteArray.data_extract, Array.toList_extract, List.extract_eq_take_drop, Nat.add_sub_cancel_left]
  have hsz : t.data.toList.length = t.size := by simp
  have hps : p.data.toList.length = p.size := by simp
  have key : ∀ j, j < p.size → (tb p j = tb t (i + j) ↔ p.data.toList[j]? = t.data.toList[i + j]?) := by
    intro j hj
    unfold tb
    rw [List.getElem?_eq_getElem (by omega), List.getElem?_eq_getElem (by omega)]
    simp only [Option.map_some, Option.getD_some, Option.some.injEq]
    exact UInt8.toNat_inj
  constructor
  · intro he
    refine lc_eq (fun j hj => ?_) (by rw [Bool.eq_false_iff]; intro hg; have := (good_iff _ _ _ _).1 hg; omega)
    refine (good_iff _ _ _ _).2 ⟨hj, by omega, (key j hj).2 ?_⟩
    rw [← he, hl, List.getElem?_take_of_lt hj, List.getElem?_drop]
  · intro he
    have hg := (lc_spec p t i).1
    rw [he] at hg
    apply ByteArray.ext
    apply Array.toList_inj.1
    rw [hl]
    refine List.ext_getElem? fun j => ?_
    by_cases hj : j < p.size
    · rw [List.getElem?_take_of_lt hj, List.getElem?_drop]
      exact ((key j hj).1 ((good_iff _ _ _ _).1 (hg j hj)).2.2).symm
    · rw [List.getElem?_eq_none (by rw [List.length_take]; omega), List.getElem?_eq_none (by omega)]
theorem empty_of_size (p : ByteArray) (h : p.size = 0) : p.toList.isEmpty = true := by
  rw [List.isEmpty_iff]
  unfold ByteArray.toList
  unfold ByteArray.toList.loop
  rw [if_neg (by omega)]; rfl
theorem full_of_size (p : ByteArray) (h : 0 < p.size) : p.toList.isEmpty = false := by
  rw [List.isEmpty_eq_false_iff]
  intro he
  unfold ByteArray.toList at he
  have : ∀ (n i : Nat) (r : List UInt8), p.size - i = n → r.length ≤ (ByteArray.toList.loop p i r).length := by
    intro n
    induction n with
    | zero => intro i r hn; unfold ByteArray.toList.loop; rw [if_neg (by omega)]; simp
    | succ n ih => intro i r hn; unfold ByteArray.toList.loop; rw [if_pos (by omega)]; have := ih (i + 1) (p.get! i :: r) (by omega); simp at this; omega
  unfold ByteArray.toList.loop at he
  rw [if_pos h] at he
  have h2 := this _ 1 [p.get! 0] rfl
  rw [he] at h2
  simp at h2
end Go.Proofs.Ytkhcjjdamphbfaa
