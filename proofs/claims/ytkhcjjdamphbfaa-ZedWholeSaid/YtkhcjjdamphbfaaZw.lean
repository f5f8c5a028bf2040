/- A text in itself, written twice: plain. -/
import Derived.Test.YtkhcjjdamphbfaaZ8
namespace Go.Proofs.Ytkhcjjdamphbfaa

/-- A text in a ring. -/
def ring (s : ByteArray) (j : Nat) : Nat := tb s (j % s.size)
/-- Is the ring the same, turned by i? -/
def turns (f : Nat → Nat) (i : Nat) : Prop := ∀ j, f (i + j) = f j
theorem turns_add {f : Nat → Nat} {a b : Nat} (ha : turns f a) (hb : turns f b) : turns f (a + b) := fun j => by rw [Nat.add_assoc, ha, hb]
theorem turns_sub {f : Nat → Nat} {a b : Nat} (ha : turns f a) (h : turns f (a + b)) : turns f b := fun j => by rw [← ha (b + j), ← Nat.add_assoc, h]
theorem turns_mul {f : Nat → Nat} {a : Nat} (ha : turns f a) (m : Nat) : turns f (a * m) := by
  induction m with
  | zero => intro j; rw [Nat.mul_zero, Nat.zero_add]
  | succ m ih => rw [Nat.mul_succ]; exact turns_add ih ha
theorem turns_mod {f : Nat → Nat} {a i : Nat} (ha : turns f a) (h : turns f i) : turns f (i % a) := by
  refine turns_sub (turns_mul ha (i / a)) ?_
  rw [Nat.div_add_mod]
  exact h
theorem turns_least {f : Nat → Nat} {n : Nat} (hn : 0 < n) (h : turns f n) : ∃ g, 0 < g ∧ turns f g ∧ ∀ i, 0 < i → turns f i → g ≤ i := by
  induction n using Nat.strongRecOn with
  | ind n ih =>
    by_cases hx : ∃ i, 0 < i ∧ i < n ∧ turns f i
    · obtain ⟨i, h0, hi, ht⟩ := hx
      exact ih i hi h0 ht
    · exact ⟨n, hn, h, fun i h0 hi => by
        rcases Nat.lt_or_ge i n with hl | hl
        · exact absurd ⟨i, h0, hl, hi⟩ hx
        · exact hl⟩
theorem turns_dvd {f : Nat → Nat} {g i : Nat} (hg : 0 < g) (h : turns f g) (hmin : ∀ i, 0 < i → turns f i → g ≤ i) (hi : turns f i) : i % g = 0 := by
  rcases Nat.eq_zero_or_pos (i % g) with h0 | h0
  · exact h0
  · have := hmin _ h0 (turns_mod h hi)
    have := Nat.mod_lt i hg
    omega
theorem ring_lt (s : ByteArray) (j : Nat) (h : j < s.size) : ring s j = tb s j := by unfold ring; rw [Nat.mod_eq_of_lt h]
theorem ring_mod (s : ByteArray) (j : Nat) : ring s (j % s.size) = ring s j := by unfold ring; rw [Nat.mod_mod]
theorem ring_full (s : ByteArray) : turns (ring s) s.size := fun j => by unfold ring; rw [Nat.add_mod_left]
/-- Does the text repeat itself, moved on by i? -/
theorem hitP_iff (s : ByteArray) (i : Nat) (hi : i ≤ s.size) : hitP s i = true ↔ ∀ j, i + j < s.size → ring s (i + j) = ring s j := by
  unfold hitP
  rw [decide_eq_true_eq]
  constructor
  · intro h j hj
    have := ((good_iff _ _ _ _).1 ((lc_spec s s i).1 j (by omega))).2.2
    rw [ring_lt s _ hj, ring_lt s j (by omega), this]
  · intro h
    have : lc s s i = s.size - i := by
      refine lc_eq (fun j hj => (good_iff _ _ _ _).2 ⟨by omega, by omega, ?_⟩) (by rw [Bool.eq_false_iff]; intro hg; have := (good_iff _ _ _ _).1 hg; omega)
      have := h j (by omega)
      rw [ring_lt s _ (by omega), ring_lt s j (by omega)] at this
      exact this.symm
    omega
theorem turns_hit {s : ByteArray} {i : Nat} (hi : i ≤ s.size) (h : turns (ring s) i) : hitP s i = true := (hitP_iff s i hi).2 fun j _ => h j
/-- A step that parts the text turns its ring. -/
theorem turns_part {s : ByteArray} {p : Nat} (hp : p ≤ s.size) (h : hitP s p = true) (hd : s.size % p = 0) (hp0 : 0 < p) : turns (ring s) p := by
  have hh := (hitP_iff s p hp).1 h
  obtain ⟨q, hq⟩ : ∃ q, s.size = p * q := ⟨s.size / p, (Nat.mul_div_cancel' (Nat.dvd_of_mod_eq_zero hd)).symm⟩
  have hsz : 0 < s.size := by omega
  have hit : ∀ x m, x + p * m < s.size → ring s (x + p * m) = ring s x := by
    intro x m
    induction m with
    | zero => intro _; rw [Nat.mul_zero, Nat.add_zero]
    | succ m ih =>
      intro hlt
      rw [Nat.mul_succ] at hlt ⊢
      have := hh (x + p * m) (by omega)
      rw [show x + (p * m + p) = p + (x + p * m) by omega, this]
      exact ih (by omega)
  intro j
  have hr := Nat.mod_lt j hsz
  have e1 : ring s (p + j) = ring s (p + j % s.size) := by
    unfold ring
    rw [Nat.add_mod_mod]
  rw [e1, ← ring_mod s j]
  generalize j % s.size = r at hr
  by_cases hlt : p + r < s.size
  · exact hh r hlt
  · obtain ⟨x, hx⟩ : ∃ x, p + r = s.size + x := ⟨p + r - s.size, by omega⟩
    rw [hx, ring_full s x]
    have hq0 : 0 < q := by
      rcases Nat.eq_zero_or_pos q with h0 | h0
      · rw [h0] at hq; omega
      · exact h0
    obtain ⟨m, rfl⟩ : ∃ m, q = m + 1 := ⟨q - 1, by omega⟩
    rw [Nat.mul_succ] at hq
    have hrx : r = x + p * m := by omega
    have := hit x m (by omega)
    rw [← hrx] at this
    exact this.symm
/-- A step no longer than one that turns the ring more than once turns it, too. -/
theorem turns_short {s : ByteArray} {p g : Nat} (hp : p ≤ g) (h : hitP s p = true) (hg : turns (ring s) g) (h2 : 2 * g ≤ s.size) (hsz : 0 < s.size) : turns (ring s) p := by
  have hh := (hitP_iff s p (by omega)).1 h
  intro j
  have hr := Nat.mod_lt j hsz
  have e1 : ring s (p + j) = ring s (p + j % s.size) := by
    unfold ring
    rw [Nat.add_mod_mod]
  rw [e1, ← ring_mod s j]
  generalize j % s.size = r at hr
  by_cases hlt : p + r < s.size
  · exact hh r hlt
  · have a := hg (r - g)
    have b := hh (r - g) (by omega)
    have c := hg (p + (r - g))
    rw [show g + (r - g) = r by omega] at a
    rw [show g + (p + (r - g)) = p + r by omega] at c
    rw [c, a, b]
/-- The step of the places. -/
def stepW (s : ByteArray) : Nat := if s.size % per s = 0 then per s else s.size
theorem per_pos (s : ByteArray) (h : 0 < s.size) : 1 ≤ per s := by
  unfold per
  rw [if_neg (by omega)]
  exact (firstN_spec (hitP s) (s.size - 1) 1).1
theorem per_le' (s : ByteArray) : per s ≤ s.size := by
  unfold per
  split
  · exact Nat.zero_le _
  · have := (firstN_spec (hitP s) (s.size - 1) 1).2.1
    omega
theorem per_hits (s : ByteArray) (h0 : 0 < s.size) : hitP s (per s) = true := by
  by_cases h : per s < s.size
  · have hs : ¬ s.size = 0 := by omega
    unfold per at h ⊢
    rw [if_neg hs] at h ⊢
    exact (firstN_spec (hitP s) (s.size - 1) 1).2.2.1 (by omega)
  · have : per s = s.size := by have := per_le' s; omega
    rw [this]
    exact (hitP_iff s _ (Nat.le_refl _)).2 fun j hj => by omega
theorem per_min (s : ByteArray) (i : Nat) (h1 : 1 ≤ i) (_ : i ≤ s.size) (hh : hitP s i = true) : per s ≤ i := by
  rcases Nat.lt_or_ge i (per s) with h | h
  · unfold per at h
    split at h
    · omega
    · rw [(firstN_spec (hitP s) (s.size - 1) 1).2.2.2 i h1 h] at hh
      cases hh
  · exact h
theorem stepW_pos (s : ByteArray) (h0 : 0 < s.size) : 0 < stepW s := by
  unfold stepW
  split
  · exact per_pos s h0
  · exact h0
theorem stepW_turns (s : ByteArray) (h0 : 0 < s.size) (i : Nat) : turns (ring s) i ↔ i % stepW s = 0 := by
  obtain ⟨g, hg0, hg, hmin⟩ := turns_least h0 (ring_full s)
  have hgn := turns_dvd hg0 hg hmin (ring_full s)
  have hgle := hmin _ h0 (ring_full s)
  have hpg := per_min s g hg0 hgle (turns_hit hgle hg)
  have hp1 := per_pos s h0
  have hph := per_hits s h0
  have hs : stepW s = g := by
    unfold stepW
    split
    · have := hmin _ hp1 (turns_part (per_le' s) hph (by assumption) hp1)
      omega
    · rename_i hnd
      rcases Nat.lt_or_ge g s.size with hl | hl
      · exfalso
        obtain ⟨q, hq⟩ : ∃ q, s.size = g * q := ⟨s.size / g, (Nat.mul_div_cancel' (Nat.dvd_of_mod_eq_zero hgn)).symm⟩
        have hq2 : 2 ≤ q := by
          rcases Nat.lt_or_ge q 2 with h | h
          · have : q = 0 ∨ q = 1 := by omega
            rcases this with rfl | rfl <;> omega
          · exact h
        have h2 : 2 * g ≤ s.size := by rw [hq, Nat.mul_comm 2 g]; exact Nat.mul_le_mul_left g hq2
        have := hmin _ hp1 (turns_short hpg hph hg h2 h0)
        have e : per s = g := by omega
        rw [e] at hnd
        exact hnd hgn
      · omega
  rw [hs]
  constructor
  · exact turns_dvd hg0 hg hmin
  · intro h
    have := turns_mul hg (i / g)
    rwa [Nat.mul_div_cancel' (Nat.dvd_of_mod_eq_zero h)] at this
theorem tb_twice (s : ByteArray) (j : Nat) (hj : j < s.size + s.size) : tb (s ++ s) j = ring s j := by
  have hl : s.data.toList.length = s.size := by simp
  unfold ring tb
  rw [ByteArray.data_append, Array.toList_append]
  by_cases h : j < s.size
  · rw [List.getElem?_append_left (by omega), Nat.mod_eq_of_lt h]
  · rw [List.getElem?_append_right (by omega), hl]
    have : j % s.size = j - s.size := by
      rw [show j = s.size + (j - s.size) by omega, Nat.add_mod_left, Nat.mod_eq_of_lt (by omega)]
      omega
    rw [this]
theorem twice_hit (s : ByteArray) (h0 : 0 < s.size) (i : Nat) (_ : i ≤ s.size) : lc s (s ++ s) i = s.size ↔ i % stepW s = 0 := by
  rw [← stepW_turns s h0]
  have hsz : (s ++ s).size = s.size + s.size := ByteArray.size_append
  constructor
  · intro h j
    have hr := Nat.mod_lt j h0
    have e1 : ring s (i + j) = ring s (i + j % s.size) := by
      unfold ring
      rw [Nat.add_mod_mod]
    have := ((good_iff _ _ _ _).1 ((lc_spec s (s ++ s) i).1 (j % s.size) (by omega))).2.2
    rw [tb_twice s _ (by omega)] at this
    rw [e1, ← this]
    rfl
  · intro h
    refine lc_eq (fun j hj => (good_iff _ _ _ _).2 ⟨hj, by omega, ?_⟩) (by rw [Bool.eq_false_iff]; intro hg; have := (good_iff _ _ _ _).1 hg; omega)
    rw [tb_twice s _ (by omega), h j, ring_lt s j hj]
/-- The multiples of g below k. -/
def mults (g k : Nat) : List Int := (List.range ((k + g - 1) / g)).map fun m => ((m * g : Nat) : Int)
theorem mults_zero (g : Nat) (hg : 0 < g) : mults g 0 = [] := by
  unfold mults
  rw [Nat.div_eq_of_lt (by omega)]
  rfl
theorem mults_succ (g k : Nat) (hg : 0 < g) : mults g (k + 1) = if k % g = 0 then mults g k ++ [(k : Int)] else mults g k := by
  unfold mults
  have hk := Nat.div_add_mod k g
  have hm := Nat.mod_lt k hg
  have e1 : (k + 1 + g - 1) / g = k / g + 1 := by rw [show k + 1 + g - 1 = k + g by omega, Nat.add_div_right k hg]
  rw [e1]
  split
  · rename_i h
    have e2 : (k + g - 1) / g = k / g := by
      rw [show k + g - 1 = g * (k / g) + (g - 1) by omega, Nat.mul_add_div hg, Nat.div_eq_of_lt (by omega : g - 1 < g), Nat.add_zero]
    rw [e2, List.range_succ, List.map_append, List.map_singleton]
    have : k / g * g = k := by rw [Nat.mul_comm]; omega
    rw [this]
  · rename_i h
    have e2 : (k + g - 1) / g = k / g + 1 := by
      rw [show k + g - 1 = g * (k / g) + (g + (k % g - 1)) by omega, Nat.mul_add_div hg, Nat.add_div_left _ hg, Nat.div_eq_of_lt (by omega : k % g - 1 < g)]
    rw [e2]
theorem twice_zf (s : ByteArray) (h0 : 0 < s.size) : zf s (s ++ s) = (List.range (s.size / stepW s + 1)).map fun m => ((m * stepW s : Nat) : Int) := by
  have hsz : (s ++ s).size = s.size + s.size := ByteArray.size_append
  have hg := stepW_pos s h0
  unfold zf
  rw [if_neg (by omega), zfTo_stop s (s ++ s) (s.size + 1) (s ++ s).size (Nat.le_refl _) (by omega) (by omega)]
  have key : ∀ k, k ≤ s.size + 1 → zfTo s (s ++ s) k = mults (stepW s) k := by
    intro k
    induction k with
    | zero => intro _; rw [mults_zero _ hg]; rfl
    | succ k ih =>
      intro hk
      rw [mults_succ _ _ hg]
      simp only [zfTo]
      rw [ih (by omega)]
      have := twice_hit s h0 k (by omega)
      by_cases h : lc s (s ++ s) k = s.size
      · rw [if_pos h, if_pos (this.1 h)]
      · rw [if_neg h, if_neg (fun x => h (this.2 x))]
  rw [key _ (Nat.le_refl _)]
  unfold mults
  rw [show s.size + 1 + stepW s - 1 = s.size + stepW s by omega, Nat.add_div_right _ hg]
end Go.Proofs.Ytkhcjjdamphbfaa
