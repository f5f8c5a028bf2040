/- Walk of the law ZedLeaves. -/
import Derived.Test.YtkhcjjdamphbfaaWZRows
import Derived.Test.YtkhcjjdamphbfaaNp
namespace Go.Proofs.Ytkhcjjdamphbfaa
open Go.RowKit Go.Shelf

theorem mis_zero (t : ByteArray) (L : Nat → Nat → Bool) (i n : Nat) : mis t L i n = 0 ↔ ∀ j, j < n → L j (tb t (i + j)) = true := by
  induction n with
  | zero => simp [mis]
  | succ n ih =>
    simp only [mis]
    constructor
    · intro h j hj
      have h1 : mis t L i n = 0 := by omega
      by_cases hjn : j < n
      · exact ih.1 h1 j hjn
      · obtain rfl : j = n := by omega
        cases hL : L j (tb t (i + j))
        · rw [hL] at h; simp at h
        · rfl
    · intro h
      rw [ih.2 (fun j hj => h j (by omega)), h n (by omega)]
      rfl
theorem tb_lt (s : ByteArray) (j : Nat) : tb s j < 256 := by
  unfold tb
  cases h : s.data.toList[j]? with
  | none => simp
  | some x => simpa using x.toNat_lt
theorem letters_tb (L : Nat → Nat → Bool) (n : Nat) (h : lettersB L n = true) (j : Nat) (hj : j < n) (m : Nat) (hm : m < 256) : L j m = true ↔ tb (txt L n) j = m := by
  have hs := txt_size L n h
  have ha := (clsEq_iff _ _).1 ((agC_iff _ _ _).1 (txt_same L n h) j hj) m hm
  rw [← ha]
  unfold byteS tb
  rw [List.getElem?_eq_getElem (by simpa [hs] using hj)]
  simp
theorem zf_find (L : Nat → Nat → Bool) (n : Nat) (t : ByteArray) (h : lettersB L n = true) (hr : rightB n L 0 = true) : zf (txt L n) t = findL t n L 0 := by
  have hs := txt_size L n h
  have hn : 1 ≤ n := by unfold rightB at hr; simp at hr; omega
  have hm : many t n L 0 0 = t.size + 1 - n := by unfold many; rw [hr]; simp
  rw [find_eq, hm]
  unfold zf
  rw [if_neg (by omega), zfTo_stop (txt L n) t (t.size + 1 - n) t.size (Nat.le_refl _) (by omega) (by omega)]
  have key : ∀ k, k ≤ t.size + 1 - n → zfTo (txt L n) t k = fnd t n L 0 (plc 0 k) := by
    intro k
    induction k with
    | zero => intro _; simp [zfTo, fnd, plc]
    | succ k ih =>
      intro hk
      rw [plc_succ, fnd_snoc, Nat.zero_add, ← ih (by omega)]
      simp only [zfTo]
      have e : lc (txt L n) t k = (txt L n).size ↔ ((mis t L k n : Nat) : Int) ≤ 0 := by
        have e2 : ((mis t L k n : Nat) : Int) ≤ 0 ↔ mis t L k n = 0 := by omega
        rw [e2, mis_zero, hs]
        constructor
        · intro hl j hj
          have := ((good_iff _ _ _ _).1 ((lc_spec (txt L n) t k).1 j (by omega))).2.2
          exact (letters_tb L n h j hj _ (tb_lt _ _)).2 this
        · intro ha
          refine lc_eq (fun j hj => (good_iff _ _ _ _).2 ⟨by omega, by omega, (letters_tb L n h j hj _ (tb_lt _ _)).1 (ha j hj)⟩) ?_
          rw [Bool.eq_false_iff]
          intro hg
          have := (good_iff _ _ _ _).1 hg
          omega
      by_cases hc : lc (txt L n) t k = (txt L n).size
      · rw [if_pos hc, if_pos (e.1 hc)]
      · rw [if_neg hc, if_neg (fun x => hc (e.2 x))]
  exact key _ (Nat.le_refl _)

set_option maxRecDepth 100000 in
set_option maxHeartbeats 4000000 in
theorem zedLeaves_walk (ad : Option Addr) (n cap : Nat) (K : Int) (L : Nat → Nat → Bool) (hn : (n : Int) ≤ 4611686018427387904) (t : ByteArray) (ht : t.size ≤ 140737488351232) (w : World) (hR : RowC w ad n L w.heap.size) :
    Calls Try.prog 23 #[lv ad n cap K, .string t] w fun e w' => e = .returned (.bool true) ∧ Below w.heap.size w w' := by
  have hl := HoldsL.new w ad n cap K
  have HB : Below w.heap.size w (w.alloc (.cells #[.slice ad n cap, .int .i64 K] 43)) := (Below.refl _ _).alloc (Nat.le_refl _) _
  have hR0 := (hR.below HB (Nat.le_refl _)).mono HB.size
  by_cases hf : (n : Int) ≤ 100
  · by_cases hf2 : ((t.size : Nat) : Int) ≤ 300
    · have hz := fun w h => zleaf_any ad n cap K L (by omega) t (by omega) w h
      have hr := fun w h => rzleaf_any ad n cap K L (by omega) t (by omega) w h
      have hfd := fun w h => rfind_any ad n cap K L (by omega) t (by omega) w h
      have hle : (zl L n K t).length ≤ 100000 := by
        unfold zl
        split
        · have := zf_le (txt L n) t; omega
        · exact Nat.zero_le _
      have hsame : zok L n K = true → findL t n L K = zl L n K t := by
        intro hk
        unfold zl
        rw [hk, if_pos rfl]
        unfold zok at hk
        simp only [Bool.and_eq_true, decide_eq_true_eq] at hk
        obtain ⟨h1, h2, rfl⟩ := hk
        exact (zf_find L n t h1 h2).symm
      have HF := Lib.hid hfd
      clear hfd
      generalize zl L n K t = l at hz hr hle hsame
      have HZ := Lib.hid hz
      have HQ := Lib.hid hr
      have HS := Lib.hid hsame
      clear hz hr hsame
      cases hzo : zok L n K
      · rw [hzo] at HZ HQ
        clear hzo HS HF
        go_enter Try.func23, Try.ntmps23
        go_wp2_with fail
        refine (HZ.out _ hR0).mono ?_
        rintro e w1 ⟨v1, rfl, ho1, hb1⟩
        obtain ⟨ad1, cp1, rfl⟩ := own_slice ho1
        have hl1 := hl.below hb1 hl.2.2
        have hR1 := (hR0.below hb1 (Nat.le_refl _)).mono hb1.size
        have HB1 := HB.trans (hb1.mono HB.size)
        clear hl hR0 HB hb1 HZ hR
        obtain ⟨c0, c1, cl⟩ := id hl1
        go_wp2_with fail
        refine (HQ.out _ hR1).mono ?_
        rintro e w2 ⟨v2, rfl, ho2, hb2⟩
        obtain ⟨ad2, cp2, rfl⟩ := own_slice ho2
        have HB2 := HB1.trans (hb2.mono HB1.size)
        have ho1' := own_below ho1 hb2
        clear hl1 hR1 HB1 hb2 HQ c0 c1 cl ho1
        go_wp2_with fail
        refine (alive09 _).mono ?_
        rintro e w3 ⟨rfl, hb3⟩
        have HB3 := HB2.trans (hb3.mono HB2.size)
        have ho1'' := own_below ho1' hb3
        have ho2' := own_below ho2 hb3
        clear HB2 hb3 ho1' ho2
        go_wp2_with (go_at_call 56; refine (places_own l l hle hle _ ho1'' ho2').mono ?_; rw [decide_eq_true rfl]; rintro e w4 ⟨rfl, hb4⟩)
        go_ret
        exact ⟨rfl, HB3.trans (hb4.mono HB3.size)⟩
      · rw [hzo] at HZ HQ
        have HFL := HS.out hzo
        rw [HFL] at HF
        clear hzo HS HFL
        go_enter Try.func23, Try.ntmps23
        go_wp2_with fail
        refine (HZ.out _ hR0).mono ?_
        rintro e w1 ⟨v1, rfl, ho1, hb1⟩
        obtain ⟨ad1, cp1, rfl⟩ := own_slice ho1
        have hl1 := hl.below hb1 hl.2.2
        have hR1 := (hR0.below hb1 (Nat.le_refl _)).mono hb1.size
        have HB1 := HB.trans (hb1.mono HB.size)
        clear hl hR0 HB hb1 HZ hR
        obtain ⟨c0, c1, cl⟩ := id hl1
        go_wp2_with fail
        refine (HQ.out _ hR1).mono ?_
        rintro e w2 ⟨v2, rfl, ho2, hb2⟩
        obtain ⟨ad2, cp2, rfl⟩ := own_slice ho2
        have hl2 := hl1.below hb2 hl1.2.2
        have hR2 := (hR1.below hb2 (Nat.le_refl _)).mono hb2.size
        have HB2 := HB1.trans (hb2.mono HB1.size)
        have ho1' := own_below ho1 hb2
        clear hl1 hR1 HB1 hb2 HQ c0 c1 cl ho1
        go_wp2_with fail
        refine (alive09 _).mono ?_
        rintro e w3 ⟨rfl, hb3⟩
        have hl3 := hl2.below hb3 hl2.2.2
        have hR3 := (hR2.below hb3 (Nat.le_refl _)).mono hb3.size
        have HB3 := HB2.trans (hb3.mono HB2.size)
        have ho1'' := own_below ho1' hb3
        have ho2' := own_below ho2 hb3
        clear HB2 hb3 ho1' ho2 hR2 hl2
        go_wp2_with fail
        refine (places_own l l hle hle _ ho1'' ho2').mono ?_
        rw [decide_eq_true rfl]
        rintro e w4 ⟨rfl, hb4⟩
        have hl4 := hl3.below hb4 hl3.2.2
        have hR4 := (hR3.below hb4 (Nat.le_refl _)).mono hb4.size
        have HB4 := HB3.trans (hb4.mono HB3.size)
        have ho1 := own_below ho1'' hb4
        clear HB3 hb4 ho1'' ho2' hR3 hl3
        obtain ⟨c0, c1, cl⟩ := id hl4
        go_wp2_with fail
        refine (HF.out _ hR4).mono ?_
        rintro e w5 ⟨v5, rfl, ho5, hb5⟩
        obtain ⟨ad5, cp5, rfl⟩ := own_slice ho5
        have HB5 := HB4.trans (hb5.mono HB4.size)
        have ho1' := own_below ho1 hb5
        clear HB4 hb5 ho1 hR4 hl4 c0 c1 cl HF
        go_wp2_with fail
        refine (places_own l l hle hle _ ho1' ho5).mono ?_
        rw [decide_eq_true rfl]
        rintro e w6 ⟨rfl, hb6⟩
        go_wp2
        go_ret
        exact ⟨rfl, HB5.trans (hb6.mono HB5.size)⟩
    · have hgt : (300 : Int) < (t.size : Nat) := by omega
      go_enter Try.func23, Try.ntmps23
      go_wp2_with (go_at_call 84; refine (alive09 _).mono ?_; rintro e w1 ⟨rfl, hb1⟩)
      go_ret
      exact ⟨rfl, HB.trans (hb1.mono HB.size)⟩
  · have hgt : (100 : Int) < (n : Int) := by omega
    go_enter Try.func23, Try.ntmps23
    go_wp2_with (go_at_call 84; refine (alive09 _).mono ?_; rintro e w1 ⟨rfl, hb1⟩)
    go_ret
    exact ⟨rfl, HB.trans (hb1.mono HB.size)⟩
end Go.Proofs.Ytkhcjjdamphbfaa
