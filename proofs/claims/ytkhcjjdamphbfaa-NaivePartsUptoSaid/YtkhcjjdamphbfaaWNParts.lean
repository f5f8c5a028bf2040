/- Walk of the law NaiveParts, where both leaves are of bulk at most 1048576. -/
import Derived.Test.YtkhcjjdamphbfaaAl08
import Derived.Test.YtkhcjjdamphbfaaPt
import Derived.BigQuiet
import Derived.Deep.QuietTactic
import Derived.IntWalk
namespace Go.Proofs.Ytkhcjjdamphbfaa
open Go.RowKit

theorem Old.drewG {W w : World} (h : Old W w) : Old W w.drew := .of h.2.2.2.drew
theorem Old.setG {W w : World} {p : Addr} {v : Value} (h : Old W w) (hp : W.heap.size ≤ p.block) : Old W (w.setCell p v) := .of (h.2.2.2.setCell hp v)
theorem mis_both (t : ByteArray) (n n' : Nat) (L L' : Nat → Nat → Bool) (i : Nat) : mis t (bothC n L L') i (n + n') = mis t L i n + mis t L' (i + n) n' := by
  have h1 : ∀ k, k ≤ n → mis t (bothC n L L') i k = mis t L i k := by
    intro k
    induction k with
    | zero => intro _; rfl
    | succ k ih =>
      intro hk
      simp only [mis]
      rw [ih (by omega)]
      have e : bothC n L L' k = L k := by unfold bothC; rw [if_pos (by omega)]
      rw [e]
  induction n' with
  | zero => rw [Nat.add_zero, h1 n (Nat.le_refl _)]; rfl
  | succ n' ih =>
    rw [← Nat.add_assoc]
    simp only [mis]
    rw [ih]
    have e : bothC n L L' (n + n') = L' n' := by unfold bothC; rw [if_neg (by omega), Nat.add_sub_cancel_left]
    rw [e, Nat.add_assoc i n n']
    omega

theorem rowI_own {w : World} {base n cap : Nat} {ad : Option Addr} {l : List Int} (h : w.ownsRow base 3 1 (.slice ad n cap) n (ints l)) : RowI w ad n (gi l) w.heap.size := by
  have e : l.length = n := by have := h.1; rw [ints_length] at this; omega
  subst e
  exact rowI_of_ints h

set_option maxRecDepth 100000 in
set_option maxHeartbeats 8000000 in
theorem naiveParts_walk (ad : Option Addr) (n cap : Nat) (K : Int) (L : Nat → Nat → Bool) (hn : n ≤ 1048576) (hc : n ≤ cap) (ad' : Option Addr) (n' cap' : Nat) (K' : Int) (L' : Nat → Nat → Bool) (hn' : n' ≤ 1048576) (t : ByteArray) (ht : t.size ≤ 140737488351232) (w : World) (hR : RowC w ad n L w.heap.size) (hR' : RowC w ad' n' L' w.heap.size) :
    Calls Try.prog 12 #[lv ad n cap K, lv ad' n' cap' K', .string t] w fun e w' => e = .returned (.bool true) ∧ Below w.heap.size w w' := by
  obtain ⟨W0, hW0⟩ : ∃ W0, W0 = ((w.alloc (.cells #[.slice ad n cap, .int .i64 K] 43)).alloc (.cells #[.slice ad' n' cap', .int .i64 K'] 43)) := ⟨_, rfl⟩
  have HB : Below w.heap.size w W0 := by rw [hW0]; exact (((Below.refl _ _).alloc (Nat.le_refl _) _).alloc (by simp) _)
  have hR0 := (hR.below HB (Nat.le_refl _)).mono HB.size
  have hR0' := (hR'.below HB (Nat.le_refl _)).mono HB.size
  have hl : HoldsL W0 (w.heap.size) ad n cap K := by rw [hW0]; exact ⟨by simp [go_sem], by simp [go_sem], by simp <;> omega⟩
  have hl' : HoldsL W0 (w.heap.size + 1) ad' n' cap' K' := by rw [hW0]; exact ⟨by simp [go_sem], by simp [go_sem], by simp <;> omega⟩
  have hni : (n : Int) ≤ 1048576 := by omega
  have hni' : (n' : Int) ≤ 1048576 := by omega
  have hci : (n : Int) ≤ cap := by omega
  have hn0 : (0 : Int) ≤ n := by omega
  go_enter Try.func12, Try.ntmps12
  go_wp2_with fail
  rw [← hW0]
  clear hW0 hR hR'
  obtain ⟨c0, c1, cl⟩ := id hl
  obtain ⟨d0, d1, dl⟩ := id hl'
  refine Code.wp_mono (Q := fun e a w' => ∃ (B7 : Nat) (ad2 : Option Addr) (cap2 : Nat) (u12 u13 u14 u15 u16 u17 u18 u19 u20 u21 u22 u23 u24 : Value), e = .normal ∧ a = { tmps := List.toArray (lv ad n cap K :: lv ad' n' cap' K' :: .string t :: .pointer (some ⟨w.heap.size, 0, none⟩) :: .pointer (some ⟨w.heap.size + 1, 0, none⟩) :: undef :: .bool false :: .pointer (some ⟨B7, 0, none⟩) :: undef :: undef :: undef :: undef :: u12 :: u13 :: u14 :: u15 :: u16 :: u17 :: u18 :: u19 :: u20 :: u21 :: u22 :: u23 :: u24 :: undef :: undef :: undef :: undef :: undef :: undef :: undef :: undef :: undef :: undef :: undef :: undef :: undef :: undef :: undef :: undef :: undef :: undef :: undef :: undef :: undef :: undef :: undef :: undef :: undef :: undef :: undef :: undef :: undef :: undef :: undef :: undef :: undef :: undef :: undef :: undef :: undef :: undef :: undef :: undef :: undef :: undef :: undef :: undef :: undef :: undef :: undef :: undef :: undef :: undef :: undef :: undef :: undef :: undef :: undef :: undef :: undef :: undef :: undef :: undef :: undef :: undef :: undef :: undef :: undef :: undef :: undef :: undef :: undef :: undef :: undef :: undef :: undef :: undef :: undef :: undef :: undef :: undef :: undef :: undef :: undef :: undef :: undef :: []), defers := [] } ∧ HoldsL w' B7 ad2 (n + n') cap2 0 ∧ RowC w' ad2 (n + n') (bothC n L L') w'.heap.size ∧ Old W0 w') ?_ ?_
  · rintro e a w1 ⟨B7, ad2, cap2, u12, u13, u14, u15, u16, u17, u18, u19, u20, u21, u22, u23, u24, rfl, rfl, hB, hRB, hO⟩
    have hl1 := hl.below hO.2.2.2 hl.2.2
    have hl1' := hl'.below hO.2.2.2 hl'.2.2
    have hR1 := (hR0.below hO.2.2.2 (Nat.le_refl _)).mono hO.2.2.1
    have hR1' := (hR0'.below hO.2.2.2 (Nat.le_refl _)).mono hO.2.2.1
    have HB1 := HB.trans (hO.2.2.2.mono HB.size)
    clear hO HB hR0 hR0' hl hl' c0 c1 cl d0 d1 dl
    obtain ⟨c0, c1, cl⟩ := id hl1
    obtain ⟨d0, d1, dl⟩ := id hl1'
    obtain ⟨b0, b1, bl⟩ := id hB
    have hfew := few08_any ad2 (n + n') cap2 0 (by omega) t ht
    have q1 := fun w' h' => rright_any ad2 (n + n') cap2 0 (bothC n L L') (by omega) w' h'
    have q2 := fun w' h' => rright_any ad n cap K L (by omega) w' h'
    have q3 := fun w' h' => rright_any ad' n' cap' K' L' (by omega) w' h'
    cases hf : (decide (n + n' ≤ 100) && decide (t.size ≤ 300))
    · rw [hf] at hfew
      have HF := Lib.hid hfew
      clear hfew q1 q2 q3
      go_wp2_with fail
      refine (HF.out _).mono ?_
      rintro e x1 ⟨rfl, hb1⟩
      replace HB1 := HB1.trans (hb1.mono HB1.size)
      replace hR1 := (hR1.below hb1 (Nat.le_refl _)).mono hb1.size
      replace hR1' := (hR1'.below hb1 (Nat.le_refl _)).mono hb1.size
      replace hRB := (hRB.below hb1 (Nat.le_refl _)).mono hb1.size
      replace hl1 := hl1.below hb1 hl1.2.2
      replace hl1' := hl1'.below hb1 hl1'.2.2
      replace hB := hB.below hb1 hB.2.2
      clear hb1 c0 c1 cl d0 d1 dl b0 b1 bl
      obtain ⟨c0, c1, cl⟩ := id hl1
      obtain ⟨d0, d1, dl⟩ := id hl1'
      obtain ⟨b0, b1, bl⟩ := id hB
      go_wp2_with (first | (go_at_call 53; refine (alive08 _).mono ?_; rintro e x2 ⟨rfl, hb2⟩))
      go_ret
      exact ⟨rfl, HB1.trans (hb2.mono HB1.size)⟩
    · rw [hf] at hfew
      simp only [Bool.and_eq_true, decide_eq_true_eq] at hf
      obtain ⟨hf1, hf2⟩ := hf
      have HF := Lib.hid hfew
      clear hfew
      cases hr1 : rightB (n + n') (bothC n L L') 0
      · rw [hr1] at q1
        have Q1 := Lib.hid q1
        clear q1 q2 q3 hr1
        go_wp2_with fail
        refine (HF.out _).mono ?_
        rintro e x1 ⟨rfl, hb1⟩
        replace HB1 := HB1.trans (hb1.mono HB1.size)
        replace hR1 := (hR1.below hb1 (Nat.le_refl _)).mono hb1.size
        replace hR1' := (hR1'.below hb1 (Nat.le_refl _)).mono hb1.size
        replace hRB := (hRB.below hb1 (Nat.le_refl _)).mono hb1.size
        replace hl1 := hl1.below hb1 hl1.2.2
        replace hl1' := hl1'.below hb1 hl1'.2.2
        replace hB := hB.below hb1 hB.2.2
        clear hb1 c0 c1 cl d0 d1 dl b0 b1 bl
        obtain ⟨c0, c1, cl⟩ := id hl1
        obtain ⟨d0, d1, dl⟩ := id hl1'
        obtain ⟨b0, b1, bl⟩ := id hB
        go_wp2_with fail
        refine (Q1.out _ hRB).mono ?_
        rintro e x2 ⟨rfl, hb2⟩
        replace HB1 := HB1.trans (hb2.mono HB1.size)
        replace hR1 := (hR1.below hb2 (Nat.le_refl _)).mono hb2.size
        replace hR1' := (hR1'.below hb2 (Nat.le_refl _)).mono hb2.size
        replace hRB := (hRB.below hb2 (Nat.le_refl _)).mono hb2.size
        replace hl1 := hl1.below hb2 hl1.2.2
        replace hl1' := hl1'.below hb2 hl1'.2.2
        replace hB := hB.below hb2 hB.2.2
        clear hb2 c0 c1 cl d0 d1 dl b0 b1 bl
        obtain ⟨c0, c1, cl⟩ := id hl1
        obtain ⟨d0, d1, dl⟩ := id hl1'
        obtain ⟨b0, b1, bl⟩ := id hB
        go_wp2_with (first | (go_at_call 53; refine (alive08 _).mono ?_; rintro e x3 ⟨rfl, hb3⟩))
        go_ret
        exact ⟨rfl, HB1.trans (hb3.mono HB1.size)⟩
      · rw [hr1] at q1
        have Q1 := Lib.hid q1
        clear q1
        cases hr2 : rightB n L K
        · rw [hr2] at q2
          have Q2 := Lib.hid q2
          clear q2 q3 hr1 hr2
          go_wp2_with fail
          refine (HF.out _).mono ?_
          rintro e x1 ⟨rfl, hb1⟩
          replace HB1 := HB1.trans (hb1.mono HB1.size)
          replace hR1 := (hR1.below hb1 (Nat.le_refl _)).mono hb1.size
          replace hR1' := (hR1'.below hb1 (Nat.le_refl _)).mono hb1.size
          replace hRB := (hRB.below hb1 (Nat.le_refl _)).mono hb1.size
          replace hl1 := hl1.below hb1 hl1.2.2
          replace hl1' := hl1'.below hb1 hl1'.2.2
          replace hB := hB.below hb1 hB.2.2
          clear hb1 c0 c1 cl d0 d1 dl b0 b1 bl
          obtain ⟨c0, c1, cl⟩ := id hl1
          obtain ⟨d0, d1, dl⟩ := id hl1'
          obtain ⟨b0, b1, bl⟩ := id hB
          go_wp2_with fail
          refine (Q1.out _ hRB).mono ?_
          rintro e x2 ⟨rfl, hb2⟩
          replace HB1 := HB1.trans (hb2.mono HB1.size)
          replace hR1 := (hR1.below hb2 (Nat.le_refl _)).mono hb2.size
          replace hR1' := (hR1'.below hb2 (Nat.le_refl _)).mono hb2.size
          replace hRB := (hRB.below hb2 (Nat.le_refl _)).mono hb2.size
          replace hl1 := hl1.below hb2 hl1.2.2
          replace hl1' := hl1'.below hb2 hl1'.2.2
          replace hB := hB.below hb2 hB.2.2
          clear hb2 c0 c1 cl d0 d1 dl b0 b1 bl
          obtain ⟨c0, c1, cl⟩ := id hl1
          obtain ⟨d0, d1, dl⟩ := id hl1'
          obtain ⟨b0, b1, bl⟩ := id hB
          go_wp2_with fail
          refine (Q2.out _ hR1).mono ?_
          rintro e x3 ⟨rfl, hb3⟩
          replace HB1 := HB1.trans (hb3.mono HB1.size)
          replace hR1 := (hR1.below hb3 (Nat.le_refl _)).mono hb3.size
          replace hR1' := (hR1'.below hb3 (Nat.le_refl _)).mono hb3.size
          replace hRB := (hRB.below hb3 (Nat.le_refl _)).mono hb3.size
          replace hl1 := hl1.below hb3 hl1.2.2
          replace hl1' := hl1'.below hb3 hl1'.2.2
          replace hB := hB.below hb3 hB.2.2
          clear hb3 c0 c1 cl d0 d1 dl b0 b1 bl
          obtain ⟨c0, c1, cl⟩ := id hl1
          obtain ⟨d0, d1, dl⟩ := id hl1'
          obtain ⟨b0, b1, bl⟩ := id hB
          go_wp2_with (first | (go_at_call 53; refine (alive08 _).mono ?_; rintro e x4 ⟨rfl, hb4⟩))
          go_ret
          exact ⟨rfl, HB1.trans (hb4.mono HB1.size)⟩
        · rw [hr2] at q2
          have Q2 := Lib.hid q2
          clear q2
          cases hr3 : rightB n' L' K'
          · rw [hr3] at q3
            have Q3 := Lib.hid q3
            clear q3 hr1 hr2 hr3
            go_wp2_with fail
            refine (HF.out _).mono ?_
            rintro e x1 ⟨rfl, hb1⟩
            replace HB1 := HB1.trans (hb1.mono HB1.size)
            replace hR1 := (hR1.below hb1 (Nat.le_refl _)).mono hb1.size
            replace hR1' := (hR1'.below hb1 (Nat.le_refl _)).mono hb1.size
            replace hRB := (hRB.below hb1 (Nat.le_refl _)).mono hb1.size
            replace hl1 := hl1.below hb1 hl1.2.2
            replace hl1' := hl1'.below hb1 hl1'.2.2
            replace hB := hB.below hb1 hB.2.2
            clear hb1 c0 c1 cl d0 d1 dl b0 b1 bl
            obtain ⟨c0, c1, cl⟩ := id hl1
            obtain ⟨d0, d1, dl⟩ := id hl1'
            obtain ⟨b0, b1, bl⟩ := id hB
            go_wp2_with fail
            refine (Q1.out _ hRB).mono ?_
            rintro e x2 ⟨rfl, hb2⟩
            replace HB1 := HB1.trans (hb2.mono HB1.size)
            replace hR1 := (hR1.below hb2 (Nat.le_refl _)).mono hb2.size
            replace hR1' := (hR1'.below hb2 (Nat.le_refl _)).mono hb2.size
            replace hRB := (hRB.below hb2 (Nat.le_refl _)).mono hb2.size
            replace hl1 := hl1.below hb2 hl1.2.2
            replace hl1' := hl1'.below hb2 hl1'.2.2
            replace hB := hB.below hb2 hB.2.2
            clear hb2 c0 c1 cl d0 d1 dl b0 b1 bl
            obtain ⟨c0, c1, cl⟩ := id hl1
            obtain ⟨d0, d1, dl⟩ := id hl1'
            obtain ⟨b0, b1, bl⟩ := id hB
            go_wp2_with fail
            refine (Q2.out _ hR1).mono ?_
            rintro e x3 ⟨rfl, hb3⟩
            replace HB1 := HB1.trans (hb3.mono HB1.size)
            replace hR1 := (hR1.below hb3 (Nat.le_refl _)).mono hb3.size
            replace hR1' := (hR1'.below hb3 (Nat.le_refl _)).mono hb3.size
            replace hRB := (hRB.below hb3 (Nat.le_refl _)).mono hb3.size
            replace hl1 := hl1.below hb3 hl1.2.2
            replace hl1' := hl1'.below hb3 hl1'.2.2
            replace hB := hB.below hb3 hB.2.2
            clear hb3 c0 c1 cl d0 d1 dl b0 b1 bl
            obtain ⟨c0, c1, cl⟩ := id hl1
            obtain ⟨d0, d1, dl⟩ := id hl1'
            obtain ⟨b0, b1, bl⟩ := id hB
            go_wp2_with fail
            refine (Q3.out _ hR1').mono ?_
            rintro e x4 ⟨rfl, hb4⟩
            replace HB1 := HB1.trans (hb4.mono HB1.size)
            replace hR1 := (hR1.below hb4 (Nat.le_refl _)).mono hb4.size
            replace hR1' := (hR1'.below hb4 (Nat.le_refl _)).mono hb4.size
            replace hRB := (hRB.below hb4 (Nat.le_refl _)).mono hb4.size
            replace hl1 := hl1.below hb4 hl1.2.2
            replace hl1' := hl1'.below hb4 hl1'.2.2
            replace hB := hB.below hb4 hB.2.2
            clear hb4 c0 c1 cl d0 d1 dl b0 b1 bl
            obtain ⟨c0, c1, cl⟩ := id hl1
            obtain ⟨d0, d1, dl⟩ := id hl1'
            obtain ⟨b0, b1, bl⟩ := id hB
            go_wp2_with (first | (go_at_call 53; refine (alive08 _).mono ?_; rintro e x5 ⟨rfl, hb5⟩))
            go_ret
            exact ⟨rfl, HB1.trans (hb5.mono HB1.size)⟩
          · rw [hr3] at q3
            have Q3 := Lib.hid q3
            clear q3
            have m1 : many t (n + n') (bothC n L L') 0 0 = t.size + 1 - (n + n') := by unfold many; rw [hr1, if_pos rfl]; omega
            have m2 : many t n L K 0 = t.size + 1 - n := by unfold many; rw [hr2, if_pos rfl]; omega
            have m3 : many t n' L' K' 0 = t.size + 1 - n' := by unfold many; rw [hr3, if_pos rfl]; omega
            have ht2 : t.size ≤ 1000 := by omega
            have f1 := fun w' h' => counts_any ad2 (n + n') cap2 0 (bothC n L L') (by omega) t ht2 w' h'
            have f2 := fun w' h' => counts_any ad n cap K L (by omega) t ht2 w' h'
            have f3 := fun w' h' => counts_any ad' n' cap' K' L' (by omega) t ht2 w' h'
            rw [m1] at f1
            rw [m2] at f2
            rw [m3] at f3
            have hsum : ∀ i, i < t.size + 1 - (n + n') → gi ((plc 0 (t.size + 1 - (n + n'))).map fun i => ((mis t (bothC n L L') i (n + n') : Nat) : Int)) i = gi ((plc 0 (t.size + 1 - n)).map fun i => ((mis t L i n : Nat) : Int)) i + gi ((plc 0 (t.size + 1 - n')).map fun i => ((mis t L' i n' : Nat) : Int)) (i + n) ∧ (0 ≤ gi ((plc 0 (t.size + 1 - n)).map fun i => ((mis t L i n : Nat) : Int)) i ∧ gi ((plc 0 (t.size + 1 - n)).map fun i => ((mis t L i n : Nat) : Int)) i ≤ 1000) ∧ (0 ≤ gi ((plc 0 (t.size + 1 - n')).map fun i => ((mis t L' i n' : Nat) : Int)) (i + n) ∧ gi ((plc 0 (t.size + 1 - n')).map fun i => ((mis t L' i n' : Nat) : Int)) (i + n) ≤ 1000) := by
              intro i hi
              have hg : ∀ (m j : Nat) (f : Nat → Int), j < m → gi ((plc 0 m).map f) j = f j := by
                intro m j f hj
                unfold gi plc
                rw [List.getElem?_map, List.getElem?_map, List.getElem?_range hj]
                simp
              rw [hg _ i _ hi, hg _ i _ (by omega), hg _ (i + n) _ (by omega), mis_both]
              have l1 := mis_le t L i n
              have l2 := mis_le t L' (i + n) n'
              exact ⟨by omega, by omega, by omega⟩
            generalize ((plc 0 (t.size + 1 - (n + n'))).map fun i => ((mis t (bothC n L L') i (n + n') : Nat) : Int)) = Z at f1 hsum
            generalize ((plc 0 (t.size + 1 - n)).map fun i => ((mis t L i n : Nat) : Int)) = X at f2 hsum
            generalize ((plc 0 (t.size + 1 - n')).map fun i => ((mis t L' i n' : Nat) : Int)) = Y at f3 hsum
            have HSUM := Lib.hid hsum
            obtain ⟨D, hD⟩ : ∃ D, D = t.size + 1 - (n + n') := ⟨_, rfl⟩
            obtain ⟨xl, hxl⟩ : ∃ xl, xl = t.size + 1 - n := ⟨_, rfl⟩
            obtain ⟨yl, hyl⟩ : ∃ yl, yl = t.size + 1 - n' := ⟨_, rfl⟩
            rw [← hD] at f1 HSUM
            rw [← hxl] at f2
            rw [← hyl] at f3
            have hb1 : D ≤ xl := by omega
            have hb2 : 0 < D → D + n ≤ yl := by omega
            have hb3 : D ≤ 301 := by omega
            have hb4 : xl ≤ 301 := by omega
            have hb5 : yl ≤ 301 := by omega
            have hDx : ((D : Nat) : Int) = max 0 ((t.size : Int) - ((n : Int) + n') + 1) := by omega
            have HDX := Lib.hid hDx
            have F1 := Lib.hid f1
            have F2 := Lib.hid f2
            have F3 := Lib.hid f3
            clear f1 f2 f3 m1 m2 m3 hsum hD hxl hyl hDx hr1 hr2 hr3
            go_wp2_with fail
            refine (HF.out _).mono ?_
            rintro e x1 ⟨rfl, hbb1⟩
            replace HB1 := HB1.trans (hbb1.mono HB1.size)
            replace hR1 := (hR1.below hbb1 (Nat.le_refl _)).mono hbb1.size
            replace hR1' := (hR1'.below hbb1 (Nat.le_refl _)).mono hbb1.size
            replace hRB := (hRB.below hbb1 (Nat.le_refl _)).mono hbb1.size
            replace hl1 := hl1.below hbb1 hl1.2.2
            replace hl1' := hl1'.below hbb1 hl1'.2.2
            replace hB := hB.below hbb1 hB.2.2
            clear hbb1 c0 c1 cl d0 d1 dl b0 b1 bl
            obtain ⟨c0, c1, cl⟩ := id hl1
            obtain ⟨d0, d1, dl⟩ := id hl1'
            obtain ⟨b0, b1, bl⟩ := id hB
            go_wp2_with fail
            refine (Q1.out _ hRB).mono ?_
            rintro e x2 ⟨rfl, hbb2⟩
            replace HB1 := HB1.trans (hbb2.mono HB1.size)
            replace hR1 := (hR1.below hbb2 (Nat.le_refl _)).mono hbb2.size
            replace hR1' := (hR1'.below hbb2 (Nat.le_refl _)).mono hbb2.size
            replace hRB := (hRB.below hbb2 (Nat.le_refl _)).mono hbb2.size
            replace hl1 := hl1.below hbb2 hl1.2.2
            replace hl1' := hl1'.below hbb2 hl1'.2.2
            replace hB := hB.below hbb2 hB.2.2
            clear hbb2 c0 c1 cl d0 d1 dl b0 b1 bl
            obtain ⟨c0, c1, cl⟩ := id hl1
            obtain ⟨d0, d1, dl⟩ := id hl1'
            obtain ⟨b0, b1, bl⟩ := id hB
            go_wp2_with fail
            refine (Q2.out _ hR1).mono ?_
            rintro e x3 ⟨rfl, hbb3⟩
            replace HB1 := HB1.trans (hbb3.mono HB1.size)
            replace hR1 := (hR1.below hbb3 (Nat.le_refl _)).mono hbb3.size
            replace hR1' := (hR1'.below hbb3 (Nat.le_refl _)).mono hbb3.size
            replace hRB := (hRB.below hbb3 (Nat.le_refl _)).mono hbb3.size
            replace hl1 := hl1.below hbb3 hl1.2.2
            replace hl1' := hl1'.below hbb3 hl1'.2.2
            replace hB := hB.below hbb3 hB.2.2
            clear hbb3 c0 c1 cl d0 d1 dl b0 b1 bl
            obtain ⟨c0, c1, cl⟩ := id hl1
            obtain ⟨d0, d1, dl⟩ := id hl1'
            obtain ⟨b0, b1, bl⟩ := id hB
            go_wp2_with fail
            refine (Q3.out _ hR1').mono ?_
            rintro e x4 ⟨rfl, hbb4⟩
            replace HB1 := HB1.trans (hbb4.mono HB1.size)
            replace hR1 := (hR1.below hbb4 (Nat.le_refl _)).mono hbb4.size
            replace hR1' := (hR1'.below hbb4 (Nat.le_refl _)).mono hbb4.size
            replace hRB := (hRB.below hbb4 (Nat.le_refl _)).mono hbb4.size
            replace hl1 := hl1.below hbb4 hl1.2.2
            replace hl1' := hl1'.below hbb4 hl1'.2.2
            replace hB := hB.below hbb4 hB.2.2
            clear hbb4 c0 c1 cl d0 d1 dl b0 b1 bl
            obtain ⟨c0, c1, cl⟩ := id hl1
            obtain ⟨d0, d1, dl⟩ := id hl1'
            obtain ⟨b0, b1, bl⟩ := id hB
            go_wp2_with fail
            go_region_held3 (fun w' => Old x4 w') (first | with_reducible exact Old.start _ | with_reducible exact Old.calld (Old.refl _) (by assumption) | with_reducible exact Old.call (by assumption) (by assumption)) (first | (go_at_call 57; first | (with_reducible refine (F2.out _ ((hR1.below (show Old x4 _ by with_reducible assumption).2.2.2 (Nat.le_refl _)).mono (show Old x4 _ by with_reducible assumption).2.2.1)).mono ?_; rintro e w' ⟨va, rfl, hoa, hba⟩; obtain ⟨ada, cpa, rfl⟩ := own_slice hoa) | (with_reducible refine (F3.out _ ((hR1'.below (show Old x4 _ by with_reducible assumption).2.2.2 (Nat.le_refl _)).mono (show Old x4 _ by with_reducible assumption).2.2.1)).mono ?_; rintro e w' ⟨vb, rfl, hob, hbb⟩; obtain ⟨adb, cpb, rfl⟩ := own_slice hob) | (with_reducible refine (F1.out _ ((hRB.below (show Old x4 _ by with_reducible assumption).2.2.2 (Nat.le_refl _)).mono (show Old x4 _ by with_reducible assumption).2.2.1)).mono ?_; rintro e w' ⟨vz, rfl, hoz, hbz⟩; obtain ⟨adz, cpz, rfl⟩ := own_slice hoz)))
            have hOw := (show Old x4 _ by assumption)
            have hRX := rowI_own (own_below (own_below hoa hbb) hbz)
            have hRY := rowI_own (own_below hob hbz)
            have hRZ := rowI_own hoz
            replace HB1 := HB1.trans (hOw.2.2.2.mono HB1.size)
            replace hl1 := hl1.below hOw.2.2.2 hl1.2.2
            replace hB := hB.below hOw.2.2.2 hB.2.2
            clear hOw hoa hob hoz hba hbb hbz hR1 hR1' hRB hl1' c0 c1 cl d0 d1 dl b0 b1 bl
            go_wp2_with fail
            go_loopw [56] (fun i wr => ∃ q : Nat, q ≤ D ∧ i = .int .i64 q ∧ Old w' wr) (fun i _ => D - (intOf i).toNat)
            case atStart => exact ⟨0, by omega, rfl, Old.refl _⟩
            case round =>
              obtain ⟨q, hq, rfl, hO⟩ := hrel
              have hlr := hl1.below hO.2.2.2 hl1.2.2
              have hBr := hB.below hO.2.2.2 hB.2.2
              have hRXr := (hRX.below hO.2.2.2 (Nat.le_refl _)).mono hO.2.2.1
              have hRYr := (hRY.below hO.2.2.2 (Nat.le_refl _)).mono hO.2.2.1
              have hRZr := (hRZ.below hO.2.2.2 (Nat.le_refl _)).mono hO.2.2.1
              have HBr := HB1.trans (hO.2.2.2.mono HB1.size)
              have HO := Lib.hid hO
              clear hO hl1 hB hRX hRY hRZ
              by_cases hlt : q < D
              · obtain ⟨hs, hs1, hs2⟩ := HSUM.out q hlt
                obtain ⟨bz, oz, rfl, hbz, ez⟩ := hRZr.at hlt
                obtain ⟨bx, ox, rfl, hbx, ex⟩ := hRXr.at (show q < xl by omega)
                obtain ⟨by', oy, rfl, hby, ey⟩ := hRYr.at (show q + n < yl by omega)
                clear hRXr hRYr hRZr
                rw [hs] at ez
                generalize gi X q = xv at ez ex hs1
                generalize gi Y (q + n) = yv at ez ey hs2
                clear hs
                obtain ⟨c0, c1, cl⟩ := hlr
                have hlti : (q : Int) < D := by omega
                have hq0 : (0 : Int) ≤ q := by omega
                have hw : IntKind.i64.wrap ((q : Int) + n) = (q : Int) + n := by rw [IntKind.wrap_i64]; omega
                have hw2 : IntKind.i64.wrap (xv + yv) = xv + yv := by rw [IntKind.wrap_i64]; omega
                have htn : ((q : Int) + n).toNat = q + n := by omega
                have hqn0 : (0 : Int) ≤ (q : Int) + n := by omega
                have hqx : (q : Int) < xl := by omega
                have hqy : (q : Int) + n < yl := by omega
                have g1 : ¬ ((xl : Int) ≤ q) := by omega
                have g2 : ¬ ((yl : Int) ≤ (q : Int) + n) := by omega
                have g3 : decide (xl ≤ q) = false := decide_eq_false (by omega)
                have g4 : decide ((yl : Int) ≤ (q : Int) + n) = false := decide_eq_false (by omega)
                have g5 : decide ((xl : Int) ≤ (q : Int)) = false := decide_eq_false (by omega)
                clear hs1 hs2 hb2
                go_wp2_with fail
                go_quiet (fail)
                go_wp2
                clear hw hw2 htn
                exact ⟨⟨q + 1, by omega, by go_num, HO.out.trans (Old.of (below_drewN (Below.refl _ _) _))⟩, by simp [intOf]; omega⟩
              · obtain rfl : D = q := by omega
                clear hRXr hRYr hRZr
                obtain ⟨N2, hN2⟩ : ∃ N2, N2 = n + n' := ⟨_, rfl⟩
                rw [← hN2] at hBr
                have hN2b : N2 ≤ 100 := by omega
                have HN2 := Lib.hid hN2
                clear hN2 hlr
                obtain ⟨b0, b1, bl⟩ := id hBr
                by_cases hx : (t.size : Int) - N2 + 1 ≤ 0
                · have hD0 : D = 0 := by have := HDX.out; have := HN2.out; omega
                  subst hD0
                  go_wp2_with fail
                  clear b0 b1 bl
                  refine (alive08 _).mono ?_
                  rintro e w9 ⟨rfl, hb9⟩
                  obtain ⟨b0, b1, bl⟩ := hBr.below hb9 hBr.2.2
                  go_wp2_with fail
                  go_ret
                  exact ⟨rfl, HBr.trans (hb9.mono HBr.size)⟩
                · have hDe : (((D : Nat) : Int) == (t.size : Int) - N2 + 1) = true := by rw [beq_iff_eq]; have := HDX.out; have := HN2.out; omega
                  have HDE := Lib.hid hDe
                  clear hDe
                  go_wp2_with fail
                  clear b0 b1 bl
                  refine (alive08 _).mono ?_
                  rintro e w9 ⟨rfl, hb9⟩
                  obtain ⟨b0, b1, bl⟩ := hBr.below hb9 hBr.2.2
                  have hDe := HDE.out
                  go_wp2_with fail
                  go_ret
                  exact ⟨rfl, HBr.trans (hb9.mono HBr.size)⟩
  · go_region_held3 (fun w' => Old W0 w') (repeat' (first | with_reducible assumption | with_reducible exact Old.refl _ | with_reducible exact Old.start _ | with_reducible refine Old.drewG ?_ | with_reducible refine Old.alloc ?_ _ | with_reducible refine Old.setG ?_ ?_ | with_reducible refine Old.call ?_ (by with_reducible assumption) | omega | (simp; omega) | simp)) ((refine step_leaf (by with_reducible rfl) (.tmp 20) (.tmp 22) (by with_reducible rfl) ad n L ad' n' cap' L' (by rfl) (by rfl) hn hn' W0.heap.size (show Old W0 _ by with_reducible assumption).2.2.1 (hR0.below (show Old W0 _ by with_reducible assumption).2.2.2 (Nat.le_refl _)) (hR0'.below (show Old W0 _ by with_reducible assumption).2.2.2 (Nat.le_refl _)) ?_; intro ad2 cap2 wa hRa hRn hba; have hza := hba.size; have k0 := hba.cell (p := ⟨W0.heap.size, 0, none⟩); have k1 := hba.cell (p := ⟨W0.heap.size, 1, none⟩); have k2 := hba.frozen (p := ⟨W0.heap.size, 0, none⟩); have k3 := hba.frozen (p := ⟨W0.heap.size, 1, none⟩); simp [go_sem] at k0 k1 k2 k3 hza))
    · exact ⟨wa.heap.size, ad2, cap2, _, _, _, _, _, _, _, _, _, _, _, _, _, rfl, rfl, HoldsL.new wa ad2 (n + n') cap2 0, (hRa.below ((Below.refl _ wa).alloc (Nat.le_refl _) _) (Nat.le_refl _)).mono (by simp), by with_reducible assumption⟩
    · have hne : ∀ b o, ad2 = some ⟨b, o, none⟩ → 0 < n + n' → b ≠ W0.heap.size := fun b o ha hp => by
        have h := hRn b o ha hp
        rcases h with h | h
        · omega
        · have e : (W0.alloc (.cells #[.slice none 0 0, .int .i64 0] 43)).drew.heap.size = W0.heap.size + 1 := by
            show (W0.alloc (.cells #[.slice none 0 0, .int .i64 0] 43)).heap.size = _
            simp
          omega
      exact ⟨W0.heap.size, ad2, cap2, _, _, _, _, _, _, _, _, _, _, _, _, _, rfl, rfl, ⟨by simp [go_sem, k0], by simp [go_sem, k1], by simp; omega⟩, (rowC_set (rowC_set hRa _ _ hne) _ _ hne).mono (by simp), by with_reducible assumption⟩
end Go.Proofs.Ytkhcjjdamphbfaa
