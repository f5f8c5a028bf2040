/- Which ways a leaf may be found: walks of plan.Admits and of beagleref16.Admits. -/
import Derived.Test.YtkhcjjdamphbfaaK2
namespace Go.Proofs.Ytkhcjjdamphbfaa
open Go.RowKit

/-- May the leaf be found so? -/
def admB (way K : Int) (L : Nat → Nat → Bool) (n : Nat) : Bool :=
  rightB n L K && (if way = 1 ∨ way = 4 then true else if way = 2 then lettersB L n && decide (K = 0) else if way = 3 then plainB L n && decide (K = 0) else decide (way = 5) && plainB L n)
theorem adm_no {way K : Int} {L : Nat → Nat → Bool} {n : Nat} (h : rightB n L K = false) : admB way K L n = false := by unfold admB; rw [h]; rfl
theorem adm_1 {K : Int} {L : Nat → Nat → Bool} {n : Nat} (h : rightB n L K = true) : admB 1 K L n = true := by unfold admB; rw [h, if_pos (.inl rfl)]; rfl
theorem adm_4 {K : Int} {L : Nat → Nat → Bool} {n : Nat} (h : rightB n L K = true) : admB 4 K L n = true := by unfold admB; rw [h, if_pos (.inr rfl)]; rfl
theorem adm_2 {K : Int} {L : Nat → Nat → Bool} {n : Nat} (h : rightB n L K = true) : admB 2 K L n = (lettersB L n && decide (K = 0)) := by unfold admB; rw [h, if_neg (by decide), if_pos rfl]; rfl
theorem adm_3 {K : Int} {L : Nat → Nat → Bool} {n : Nat} (h : rightB n L K = true) : admB 3 K L n = (plainB L n && decide (K = 0)) := by unfold admB; rw [h, if_neg (by decide), if_neg (by decide), if_pos rfl]; rfl
theorem adm_5 {K : Int} {L : Nat → Nat → Bool} {n : Nat} (h : rightB n L K = true) : admB 5 K L n = plainB L n := by unfold admB; rw [h, if_neg (by decide), if_neg (by decide), if_neg (by decide)]; rfl
theorem adm_o {way K : Int} {L : Nat → Nat → Bool} {n : Nat} (h1 : way ≠ 1) (h2 : way ≠ 2) (h3 : way ≠ 3) (h4 : way ≠ 4) (h5 : way ≠ 5) : admB way K L n = false := by
  unfold admB; rw [if_neg (by omega), if_neg h2, if_neg h3, decide_eq_false h5]; simp

set_option maxRecDepth 100000 in
set_option maxHeartbeats 4000000 in
theorem admits_any (way : Int) (ad : Option Addr) (n cap : Nat) (K : Int) (L : Nat → Nat → Bool) (hn : (n : Int) ≤ 1000) (w : World) (hR : RowC w ad n L w.heap.size) :
    Calls Try.prog 97 #[.int .i64 way, lv ad n cap K] w fun e w' => e = .returned (.bool (admB way K L n)) ∧ Below w.heap.size w w' := by
  have hl := HoldsL.new w ad n cap K
  have HB : Below w.heap.size w (w.alloc (.cells #[.slice ad n cap, .int .i64 K] 43)) := (Below.refl _ _).alloc (Nat.le_refl _) _
  have hR0 := (hR.below HB (Nat.le_refl _)).mono HB.size
  obtain ⟨R, hRV⟩ : ∃ x, x = admB way K L n := ⟨_, rfl⟩
  rw [← hRV]
  cases hri : rightB n L K
  · obtain rfl : R = false := by rw [hRV]; exact adm_no hri
    clear hRV
    go_enter Try.func97, Try.ntmps97
    go_wp2_with fail
    refine (right_any ad n cap K L (by omega) _ hR0).mono ?_
    rw [hri]
    rintro e w1 ⟨rfl, hb1⟩
    go_wp2
    go_ret
    exact ⟨rfl, HB.trans (hb1.mono HB.size)⟩
  · have HRI := Lib.hid hri
    have hkk : (decide (K = 0)) = true ∨ decide (K = 0) = false := by cases decide (K = 0) <;> simp
    have start : ∀ (way' : Int) (R' : Bool) (bl bp : Bool), bl = lettersB L n → bp = plainB L n → (R' = if way' = 1 ∨ way' = 4 then true else if way' = 2 then bl && decide (K = 0) else if way' = 3 then bp && decide (K = 0) else decide (way' = 5) && bp) →
        Calls Try.prog 97 #[.int .i64 way', lv ad n cap K] w fun e w' => e = .returned (.bool R') ∧ Below w.heap.size w w' := by
      intro way' R' bl bp hbl hbp hRR
      have HBL := Lib.hid hbl
      have HBP := Lib.hid hbp
      clear hbl hbp hri hRV
      have go : ∀ (Q : Bool → Prop), Q R' → Q R' := fun _ h => h
      clear go
      by_cases h1 : way' = 1
      · subst h1
        rw [if_pos (.inl rfl)] at hRR
        subst hRR
        go_enter Try.func97, Try.ntmps97
        go_wp2_with fail
        refine (right_any ad n cap K L (by omega) _ hR0).mono ?_
        rw [HRI.out]
        rintro e w1 ⟨rfl, hb1⟩
        have hl1 := hl.below hb1 hl.2.2
        have hR1 := (hR0.below hb1 (Nat.le_refl _)).mono hb1.size
        have HB1 := HB.trans (hb1.mono HB.size)
        clear hl HB hR0 hb1 hR
        obtain ⟨c0, c1, cl⟩ := id hl1
        go_wp2_with fail
        refine (letters_any ad n cap K L (by omega) _ hR1).mono ?_
        rw [← HBL.out]
        rintro e w2 ⟨rfl, hb2⟩
        have hl2 := hl1.below hb2 hl1.2.2
        have hR2 := (hR1.below hb2 (Nat.le_refl _)).mono hb2.size
        have HB2 := HB1.trans (hb2.mono HB1.size)
        clear hl1 hR1 HB1 hb2 c0 c1 cl
        generalize txt L n = tx
        obtain ⟨c0, c1, cl⟩ := id hl2
        go_wp2_with fail
        try rw [Exit.noGoto_ret]
        go_ret
        exact ⟨rfl, HB2⟩
      · by_cases h4 : way' = 4
        · subst h4
          rw [if_pos (.inr rfl)] at hRR
          subst hRR
          go_enter Try.func97, Try.ntmps97
          go_wp2_with fail
          refine (right_any ad n cap K L (by omega) _ hR0).mono ?_
          rw [HRI.out]
          rintro e w1 ⟨rfl, hb1⟩
          have hl1 := hl.below hb1 hl.2.2
          have hR1 := (hR0.below hb1 (Nat.le_refl _)).mono hb1.size
          have HB1 := HB.trans (hb1.mono HB.size)
          clear hl HB hR0 hb1 hR
          obtain ⟨c0, c1, cl⟩ := id hl1
          go_wp2_with fail
          refine (letters_any ad n cap K L (by omega) _ hR1).mono ?_
          rw [← HBL.out]
          rintro e w2 ⟨rfl, hb2⟩
          have hl2 := hl1.below hb2 hl1.2.2
          have hR2 := (hR1.below hb2 (Nat.le_refl _)).mono hb2.size
          have HB2 := HB1.trans (hb2.mono HB1.size)
          clear hl1 hR1 HB1 hb2 c0 c1 cl
          generalize txt L n = tx
          obtain ⟨c0, c1, cl⟩ := id hl2
          go_wp2_with fail
          try rw [Exit.noGoto_ret]
          go_ret
          exact ⟨rfl, HB2⟩
        · rw [if_neg (by omega)] at hRR
          by_cases h2 : way' = 2
          · subst h2
            rw [if_pos rfl] at hRR
            cases bl
            · rw [Bool.false_and] at hRR
              subst hRR
              go_enter Try.func97, Try.ntmps97
              go_wp2_with fail
              refine (right_any ad n cap K L (by omega) _ hR0).mono ?_
              rw [HRI.out]
              rintro e w1 ⟨rfl, hb1⟩
              have hl1 := hl.below hb1 hl.2.2
              have hR1 := (hR0.below hb1 (Nat.le_refl _)).mono hb1.size
              have HB1 := HB.trans (hb1.mono HB.size)
              clear hl HB hR0 hb1 hR
              obtain ⟨c0, c1, cl⟩ := id hl1
              go_wp2_with fail
              refine (letters_any ad n cap K L (by omega) _ hR1).mono ?_
              rw [← HBL.out]
              rintro e w2 ⟨rfl, hb2⟩
              have hl2 := hl1.below hb2 hl1.2.2
              have hR2 := (hR1.below hb2 (Nat.le_refl _)).mono hb2.size
              have HB2 := HB1.trans (hb2.mono HB1.size)
              clear hl1 hR1 HB1 hb2 c0 c1 cl
              generalize txt L n = tx
              obtain ⟨c0, c1, cl⟩ := id hl2
              go_wp2_with fail
              try rw [Exit.noGoto_ret]
              go_ret
              exact ⟨rfl, HB2⟩
            · rw [Bool.true_and] at hRR
              by_cases hk0 : K = 0
              · rw [decide_eq_true hk0] at hRR
                subst hRR
                subst hk0
                go_enter Try.func97, Try.ntmps97
                go_wp2_with fail
                refine (right_any ad n cap 0 L (by omega) _ hR0).mono ?_
                rw [HRI.out]
                rintro e w1 ⟨rfl, hb1⟩
                have hl1 := hl.below hb1 hl.2.2
                have hR1 := (hR0.below hb1 (Nat.le_refl _)).mono hb1.size
                have HB1 := HB.trans (hb1.mono HB.size)
                clear hl HB hR0 hb1 hR
                obtain ⟨c0, c1, cl⟩ := id hl1
                go_wp2_with fail
                refine (letters_any ad n cap 0 L (by omega) _ hR1).mono ?_
                rw [← HBL.out]
                rintro e w2 ⟨rfl, hb2⟩
                have hl2 := hl1.below hb2 hl1.2.2
                have hR2 := (hR1.below hb2 (Nat.le_refl _)).mono hb2.size
                have HB2 := HB1.trans (hb2.mono HB1.size)
                clear hl1 hR1 HB1 hb2 c0 c1 cl
                generalize txt L n = tx
                obtain ⟨c0, c1, cl⟩ := id hl2
                go_wp2_with fail
                try rw [Exit.noGoto_ret]
                go_ret
                exact ⟨rfl, HB2⟩
              · rw [decide_eq_false hk0] at hRR
                subst hRR
                have hk1 : (K == 0) = false := by rw [beq_eq_false_iff_ne]; exact hk0
                go_enter Try.func97, Try.ntmps97
                go_wp2_with fail
                refine (right_any ad n cap K L (by omega) _ hR0).mono ?_
                rw [HRI.out]
                rintro e w1 ⟨rfl, hb1⟩
                have hl1 := hl.below hb1 hl.2.2
                have hR1 := (hR0.below hb1 (Nat.le_refl _)).mono hb1.size
                have HB1 := HB.trans (hb1.mono HB.size)
                clear hl HB hR0 hb1 hR
                obtain ⟨c0, c1, cl⟩ := id hl1
                go_wp2_with fail
                refine (letters_any ad n cap K L (by omega) _ hR1).mono ?_
                rw [← HBL.out]
                rintro e w2 ⟨rfl, hb2⟩
                have hl2 := hl1.below hb2 hl1.2.2
                have hR2 := (hR1.below hb2 (Nat.le_refl _)).mono hb2.size
                have HB2 := HB1.trans (hb2.mono HB1.size)
                clear hl1 hR1 HB1 hb2 c0 c1 cl
                generalize txt L n = tx
                obtain ⟨c0, c1, cl⟩ := id hl2
                go_wp2_with fail
                try rw [Exit.noGoto_ret]
                go_ret
                exact ⟨rfl, HB2⟩
          · rw [if_neg h2] at hRR
            by_cases h3 : way' = 3
            · subst h3
              rw [if_pos rfl] at hRR
              cases bp
              · rw [Bool.false_and] at hRR
                subst hRR
                go_enter Try.func97, Try.ntmps97
                go_wp2_with fail
                refine (right_any ad n cap K L (by omega) _ hR0).mono ?_
                rw [HRI.out]
                rintro e w1 ⟨rfl, hb1⟩
                have hl1 := hl.below hb1 hl.2.2
                have hR1 := (hR0.below hb1 (Nat.le_refl _)).mono hb1.size
                have HB1 := HB.trans (hb1.mono HB.size)
                clear hl HB hR0 hb1 hR
                obtain ⟨c0, c1, cl⟩ := id hl1
                go_wp2_with fail
                refine (letters_any ad n cap K L (by omega) _ hR1).mono ?_
                rw [← HBL.out]
                rintro e w2 ⟨rfl, hb2⟩
                have hl2 := hl1.below hb2 hl1.2.2
                have hR2 := (hR1.below hb2 (Nat.le_refl _)).mono hb2.size
                have HB2 := HB1.trans (hb2.mono HB1.size)
                clear hl1 hR1 HB1 hb2 c0 c1 cl
                generalize txt L n = tx
                obtain ⟨c0, c1, cl⟩ := id hl2
                go_wp2_with (first | (go_at_call 69; refine (plain_any ad n cap K L (by omega) _ hR2).mono ?_; rw [← HBP.out];  rintro e w3 ⟨rfl, hb3⟩; have c1 : w3.cell? ⟨w.heap.size, 1, none⟩ = some (.int .i64 K) := (hb3.cell (p := ⟨w.heap.size, 1, none⟩) cl).trans c1))
                go_ret
                exact ⟨rfl, HB2.trans (hb3.mono HB2.size)⟩
              · rw [Bool.true_and] at hRR
                by_cases hk0 : K = 0
                · rw [decide_eq_true hk0] at hRR
                  subst hRR
                  subst hk0
                  go_enter Try.func97, Try.ntmps97
                  go_wp2_with fail
                  refine (right_any ad n cap 0 L (by omega) _ hR0).mono ?_
                  rw [HRI.out]
                  rintro e w1 ⟨rfl, hb1⟩
                  have hl1 := hl.below hb1 hl.2.2
                  have hR1 := (hR0.below hb1 (Nat.le_refl _)).mono hb1.size
                  have HB1 := HB.trans (hb1.mono HB.size)
                  clear hl HB hR0 hb1 hR
                  obtain ⟨c0, c1, cl⟩ := id hl1
                  go_wp2_with fail
                  refine (letters_any ad n cap 0 L (by omega) _ hR1).mono ?_
                  rw [← HBL.out]
                  rintro e w2 ⟨rfl, hb2⟩
                  have hl2 := hl1.below hb2 hl1.2.2
                  have hR2 := (hR1.below hb2 (Nat.le_refl _)).mono hb2.size
                  have HB2 := HB1.trans (hb2.mono HB1.size)
                  clear hl1 hR1 HB1 hb2 c0 c1 cl
                  generalize txt L n = tx
                  obtain ⟨c0, c1, cl⟩ := id hl2
                  go_wp2_with (first | (go_at_call 69; refine (plain_any ad n cap 0 L (by omega) _ hR2).mono ?_; rw [← HBP.out];  rintro e w3 ⟨rfl, hb3⟩; have c1 : w3.cell? ⟨w.heap.size, 1, none⟩ = some (.int .i64 0) := (hb3.cell (p := ⟨w.heap.size, 1, none⟩) cl).trans c1))
                  go_ret
                  exact ⟨rfl, HB2.trans (hb3.mono HB2.size)⟩
                · rw [decide_eq_false hk0] at hRR
                  subst hRR
                  have hk1 : (K == 0) = false := by rw [beq_eq_false_iff_ne]; exact hk0
                  go_enter Try.func97, Try.ntmps97
                  go_wp2_with fail
                  refine (right_any ad n cap K L (by omega) _ hR0).mono ?_
                  rw [HRI.out]
                  rintro e w1 ⟨rfl, hb1⟩
                  have hl1 := hl.below hb1 hl.2.2
                  have hR1 := (hR0.below hb1 (Nat.le_refl _)).mono hb1.size
                  have HB1 := HB.trans (hb1.mono HB.size)
                  clear hl HB hR0 hb1 hR
                  obtain ⟨c0, c1, cl⟩ := id hl1
                  go_wp2_with fail
                  refine (letters_any ad n cap K L (by omega) _ hR1).mono ?_
                  rw [← HBL.out]
                  rintro e w2 ⟨rfl, hb2⟩
                  have hl2 := hl1.below hb2 hl1.2.2
                  have hR2 := (hR1.below hb2 (Nat.le_refl _)).mono hb2.size
                  have HB2 := HB1.trans (hb2.mono HB1.size)
                  clear hl1 hR1 HB1 hb2 c0 c1 cl
                  generalize txt L n = tx
                  obtain ⟨c0, c1, cl⟩ := id hl2
                  go_wp2_with (first | (go_at_call 69; refine (plain_any ad n cap K L (by omega) _ hR2).mono ?_; rw [← HBP.out];  rintro e w3 ⟨rfl, hb3⟩; have c1 : w3.cell? ⟨w.heap.size, 1, none⟩ = some (.int .i64 K) := (hb3.cell (p := ⟨w.heap.size, 1, none⟩) cl).trans c1))
                  go_ret
                  exact ⟨rfl, HB2.trans (hb3.mono HB2.size)⟩
            · rw [if_neg h3] at hRR
              by_cases h5 : way' = 5
              · subst h5
                rw [decide_eq_true rfl, Bool.true_and] at hRR
                subst hRR
                go_enter Try.func97, Try.ntmps97
                go_wp2_with fail
                refine (right_any ad n cap K L (by omega) _ hR0).mono ?_
                rw [HRI.out]
                rintro e w1 ⟨rfl, hb1⟩
                have hl1 := hl.below hb1 hl.2.2
                have hR1 := (hR0.below hb1 (Nat.le_refl _)).mono hb1.size
                have HB1 := HB.trans (hb1.mono HB.size)
                clear hl HB hR0 hb1 hR
                obtain ⟨c0, c1, cl⟩ := id hl1
                go_wp2_with fail
                refine (letters_any ad n cap K L (by omega) _ hR1).mono ?_
                rw [← HBL.out]
                rintro e w2 ⟨rfl, hb2⟩
                have hl2 := hl1.below hb2 hl1.2.2
                have hR2 := (hR1.below hb2 (Nat.le_refl _)).mono hb2.size
                have HB2 := HB1.trans (hb2.mono HB1.size)
                clear hl1 hR1 HB1 hb2 c0 c1 cl
                generalize txt L n = tx
                obtain ⟨c0, c1, cl⟩ := id hl2
                go_wp2_with (first | (go_at_call 69; refine (plain_any ad n cap K L (by omega) _ hR2).mono ?_; rw [← HBP.out];  rintro e w3 ⟨rfl, hb3⟩; have c1 : w3.cell? ⟨w.heap.size, 1, none⟩ = some (.int .i64 K) := (hb3.cell (p := ⟨w.heap.size, 1, none⟩) cl).trans c1))
                go_ret
                exact ⟨rfl, HB2.trans (hb3.mono HB2.size)⟩
              · rw [decide_eq_false h5, Bool.false_and] at hRR
                subst hRR
                have e1 : (way' == 1) = false := by rw [beq_eq_false_iff_ne]; exact h1
                have e2 : (way' == 2) = false := by rw [beq_eq_false_iff_ne]; exact h2
                have e3 : (way' == 3) = false := by rw [beq_eq_false_iff_ne]; exact h3
                have e4 : (way' == 4) = false := by rw [beq_eq_false_iff_ne]; exact h4
                have e5 : (way' == 5) = false := by rw [beq_eq_false_iff_ne]; exact h5
                go_enter Try.func97, Try.ntmps97
                go_wp2_with fail
                refine (right_any ad n cap K L (by omega) _ hR0).mono ?_
                rw [HRI.out]
                rintro e w1 ⟨rfl, hb1⟩
                have hl1 := hl.below hb1 hl.2.2
                have hR1 := (hR0.below hb1 (Nat.le_refl _)).mono hb1.size
                have HB1 := HB.trans (hb1.mono HB.size)
                clear hl HB hR0 hb1 hR
                obtain ⟨c0, c1, cl⟩ := id hl1
                go_wp2_with fail
                refine (letters_any ad n cap K L (by omega) _ hR1).mono ?_
                rw [← HBL.out]
                rintro e w2 ⟨rfl, hb2⟩
                have hl2 := hl1.below hb2 hl1.2.2
                have hR2 := (hR1.below hb2 (Nat.le_refl _)).mono hb2.size
                have HB2 := HB1.trans (hb2.mono HB1.size)
                clear hl1 hR1 HB1 hb2 c0 c1 cl
                generalize txt L n = tx
                obtain ⟨c0, c1, cl⟩ := id hl2
                go_wp2_with fail
                try rw [Exit.noGoto_ret]
                go_ret
                exact ⟨rfl, HB2⟩
    refine start way R (lettersB L n) (plainB L n) rfl rfl ?_
    rw [hRV]
    unfold admB
    rw [hri, Bool.true_and]

set_option maxRecDepth 100000 in
set_option maxHeartbeats 4000000 in
theorem radmits_any (way : Int) (ad : Option Addr) (n cap : Nat) (K : Int) (L : Nat → Nat → Bool) (hn : (n : Int) ≤ 1000) (w : World) (hR : RowC w ad n L w.heap.size) :
    Calls Try.prog 98 #[.int .i64 way, lv ad n cap K] w fun e w' => e = .returned (.bool (admB way K L n)) ∧ Below w.heap.size w w' := by
  have hl := HoldsL.new w ad n cap K
  have HB : Below w.heap.size w (w.alloc (.cells #[.slice ad n cap, .int .i64 K] 43)) := (Below.refl _ _).alloc (Nat.le_refl _) _
  have hR0 := (hR.below HB (Nat.le_refl _)).mono HB.size
  obtain ⟨R, hRV⟩ : ∃ x, x = admB way K L n := ⟨_, rfl⟩
  rw [← hRV]
  cases hri : rightB n L K
  · obtain rfl : R = false := by rw [hRV]; exact adm_no hri
    clear hRV
    go_enter Try.func98, Try.ntmps98
    go_wp2_with fail
    refine (rright_any ad n cap K L (by omega) _ hR0).mono ?_
    rw [hri]
    rintro e w1 ⟨rfl, hb1⟩
    go_wp2
    go_ret
    exact ⟨rfl, HB.trans (hb1.mono HB.size)⟩
  · have HRI := Lib.hid hri
    have hkk : (decide (K = 0)) = true ∨ decide (K = 0) = false := by cases decide (K = 0) <;> simp
    have start : ∀ (way' : Int) (R' : Bool) (bl bp : Bool), bl = lettersB L n → bp = plainB L n → (R' = if way' = 1 ∨ way' = 4 then true else if way' = 2 then bl && decide (K = 0) else if way' = 3 then bp && decide (K = 0) else decide (way' = 5) && bp) →
        Calls Try.prog 98 #[.int .i64 way', lv ad n cap K] w fun e w' => e = .returned (.bool R') ∧ Below w.heap.size w w' := by
      intro way' R' bl bp hbl hbp hRR
      have HBL := Lib.hid hbl
      have HBP := Lib.hid hbp
      clear hbl hbp hri hRV
      have go : ∀ (Q : Bool → Prop), Q R' → Q R' := fun _ h => h
      clear go
      by_cases h1 : way' = 1
      · subst h1
        rw [if_pos (.inl rfl)] at hRR
        subst hRR
        go_enter Try.func98, Try.ntmps98
        go_wp2_with fail
        refine (rright_any ad n cap K L (by omega) _ hR0).mono ?_
        rw [HRI.out]
        rintro e w1 ⟨rfl, hb1⟩
        have hl1 := hl.below hb1 hl.2.2
        have hR1 := (hR0.below hb1 (Nat.le_refl _)).mono hb1.size
        have HB1 := HB.trans (hb1.mono HB.size)
        clear hl HB hR0 hb1 hR
        obtain ⟨c0, c1, cl⟩ := id hl1
        go_wp2_with fail
        refine (rletters_any ad n cap K L (by omega) _ hR1).mono ?_
        rw [← HBL.out]
        rintro e w2 ⟨rfl, hb2⟩
        have hl2 := hl1.below hb2 hl1.2.2
        have hR2 := (hR1.below hb2 (Nat.le_refl _)).mono hb2.size
        have HB2 := HB1.trans (hb2.mono HB1.size)
        clear hl1 hR1 HB1 hb2 c0 c1 cl
        generalize txt L n = tx
        obtain ⟨c0, c1, cl⟩ := id hl2
        go_wp2_with (first | (go_at_call 70; refine (rplain_any ad n cap K L (by omega) _ hR2).mono ?_; rw [← HBP.out];  rintro e w3 ⟨rfl, hb3⟩; have c1 : w3.cell? ⟨w.heap.size, 1, none⟩ = some (.int .i64 K) := (hb3.cell (p := ⟨w.heap.size, 1, none⟩) cl).trans c1))
        go_ret
        exact ⟨rfl, HB2.trans (hb3.mono HB2.size)⟩
      · by_cases h4 : way' = 4
        · subst h4
          rw [if_pos (.inr rfl)] at hRR
          subst hRR
          go_enter Try.func98, Try.ntmps98
          go_wp2_with fail
          refine (rright_any ad n cap K L (by omega) _ hR0).mono ?_
          rw [HRI.out]
          rintro e w1 ⟨rfl, hb1⟩
          have hl1 := hl.below hb1 hl.2.2
          have hR1 := (hR0.below hb1 (Nat.le_refl _)).mono hb1.size
          have HB1 := HB.trans (hb1.mono HB.size)
          clear hl HB hR0 hb1 hR
          obtain ⟨c0, c1, cl⟩ := id hl1
          go_wp2_with fail
          refine (rletters_any ad n cap K L (by omega) _ hR1).mono ?_
          rw [← HBL.out]
          rintro e w2 ⟨rfl, hb2⟩
          have hl2 := hl1.below hb2 hl1.2.2
          have hR2 := (hR1.below hb2 (Nat.le_refl _)).mono hb2.size
          have HB2 := HB1.trans (hb2.mono HB1.size)
          clear hl1 hR1 HB1 hb2 c0 c1 cl
          generalize txt L n = tx
          obtain ⟨c0, c1, cl⟩ := id hl2
          go_wp2_with (first | (go_at_call 70; refine (rplain_any ad n cap K L (by omega) _ hR2).mono ?_; rw [← HBP.out];  rintro e w3 ⟨rfl, hb3⟩; have c1 : w3.cell? ⟨w.heap.size, 1, none⟩ = some (.int .i64 K) := (hb3.cell (p := ⟨w.heap.size, 1, none⟩) cl).trans c1))
          go_ret
          exact ⟨rfl, HB2.trans (hb3.mono HB2.size)⟩
        · rw [if_neg (by omega)] at hRR
          by_cases h2 : way' = 2
          · subst h2
            rw [if_pos rfl] at hRR
            cases bl
            · rw [Bool.false_and] at hRR
              subst hRR
              go_enter Try.func98, Try.ntmps98
              go_wp2_with fail
              refine (rright_any ad n cap K L (by omega) _ hR0).mono ?_
              rw [HRI.out]
              rintro e w1 ⟨rfl, hb1⟩
              have hl1 := hl.below hb1 hl.2.2
              have hR1 := (hR0.below hb1 (Nat.le_refl _)).mono hb1.size
              have HB1 := HB.trans (hb1.mono HB.size)
              clear hl HB hR0 hb1 hR
              obtain ⟨c0, c1, cl⟩ := id hl1
              go_wp2_with fail
              refine (rletters_any ad n cap K L (by omega) _ hR1).mono ?_
              rw [← HBL.out]
              rintro e w2 ⟨rfl, hb2⟩
              have hl2 := hl1.below hb2 hl1.2.2
              have hR2 := (hR1.below hb2 (Nat.le_refl _)).mono hb2.size
              have HB2 := HB1.trans (hb2.mono HB1.size)
              clear hl1 hR1 HB1 hb2 c0 c1 cl
              generalize txt L n = tx
              obtain ⟨c0, c1, cl⟩ := id hl2
              go_wp2_with (first | (go_at_call 70; refine (rplain_any ad n cap K L (by omega) _ hR2).mono ?_; rw [← HBP.out];  rintro e w3 ⟨rfl, hb3⟩; have c1 : w3.cell? ⟨w.heap.size, 1, none⟩ = some (.int .i64 K) := (hb3.cell (p := ⟨w.heap.size, 1, none⟩) cl).trans c1))
              go_ret
              exact ⟨rfl, HB2.trans (hb3.mono HB2.size)⟩
            · rw [Bool.true_and] at hRR
              by_cases hk0 : K = 0
              · rw [decide_eq_true hk0] at hRR
                subst hRR
                subst hk0
                go_enter Try.func98, Try.ntmps98
                go_wp2_with fail
                refine (rright_any ad n cap 0 L (by omega) _ hR0).mono ?_
                rw [HRI.out]
                rintro e w1 ⟨rfl, hb1⟩
                have hl1 := hl.below hb1 hl.2.2
                have hR1 := (hR0.below hb1 (Nat.le_refl _)).mono hb1.size
                have HB1 := HB.trans (hb1.mono HB.size)
                clear hl HB hR0 hb1 hR
                obtain ⟨c0, c1, cl⟩ := id hl1
                go_wp2_with fail
                refine (rletters_any ad n cap 0 L (by omega) _ hR1).mono ?_
                rw [← HBL.out]
                rintro e w2 ⟨rfl, hb2⟩
                have hl2 := hl1.below hb2 hl1.2.2
                have hR2 := (hR1.below hb2 (Nat.le_refl _)).mono hb2.size
                have HB2 := HB1.trans (hb2.mono HB1.size)
                clear hl1 hR1 HB1 hb2 c0 c1 cl
                generalize txt L n = tx
                obtain ⟨c0, c1, cl⟩ := id hl2
                go_wp2_with (first | (go_at_call 70; refine (rplain_any ad n cap 0 L (by omega) _ hR2).mono ?_; rw [← HBP.out];  rintro e w3 ⟨rfl, hb3⟩; have c1 : w3.cell? ⟨w.heap.size, 1, none⟩ = some (.int .i64 0) := (hb3.cell (p := ⟨w.heap.size, 1, none⟩) cl).trans c1))
                go_ret
                exact ⟨rfl, HB2.trans (hb3.mono HB2.size)⟩
              · rw [decide_eq_false hk0] at hRR
                subst hRR
                have hk1 : (K == 0) = false := by rw [beq_eq_false_iff_ne]; exact hk0
                go_enter Try.func98, Try.ntmps98
                go_wp2_with fail
                refine (rright_any ad n cap K L (by omega) _ hR0).mono ?_
                rw [HRI.out]
                rintro e w1 ⟨rfl, hb1⟩
                have hl1 := hl.below hb1 hl.2.2
                have hR1 := (hR0.below hb1 (Nat.le_refl _)).mono hb1.size
                have HB1 := HB.trans (hb1.mono HB.size)
                clear hl HB hR0 hb1 hR
                obtain ⟨c0, c1, cl⟩ := id hl1
                go_wp2_with fail
                refine (rletters_any ad n cap K L (by omega) _ hR1).mono ?_
                rw [← HBL.out]
                rintro e w2 ⟨rfl, hb2⟩
                have hl2 := hl1.below hb2 hl1.2.2
                have hR2 := (hR1.below hb2 (Nat.le_refl _)).mono hb2.size
                have HB2 := HB1.trans (hb2.mono HB1.size)
                clear hl1 hR1 HB1 hb2 c0 c1 cl
                generalize txt L n = tx
                obtain ⟨c0, c1, cl⟩ := id hl2
                go_wp2_with (first | (go_at_call 70; refine (rplain_any ad n cap K L (by omega) _ hR2).mono ?_; rw [← HBP.out];  rintro e w3 ⟨rfl, hb3⟩; have c1 : w3.cell? ⟨w.heap.size, 1, none⟩ = some (.int .i64 K) := (hb3.cell (p := ⟨w.heap.size, 1, none⟩) cl).trans c1))
                go_ret
                exact ⟨rfl, HB2.trans (hb3.mono HB2.size)⟩
          · rw [if_neg h2] at hRR
            by_cases h3 : way' = 3
            · subst h3
              rw [if_pos rfl] at hRR
              cases bp
              · rw [Bool.false_and] at hRR
                subst hRR
                go_enter Try.func98, Try.ntmps98
                go_wp2_with fail
                refine (rright_any ad n cap K L (by omega) _ hR0).mono ?_
                rw [HRI.out]
                rintro e w1 ⟨rfl, hb1⟩
                have hl1 := hl.below hb1 hl.2.2
                have hR1 := (hR0.below hb1 (Nat.le_refl _)).mono hb1.size
                have HB1 := HB.trans (hb1.mono HB.size)
                clear hl HB hR0 hb1 hR
                obtain ⟨c0, c1, cl⟩ := id hl1
                go_wp2_with fail
                refine (rletters_any ad n cap K L (by omega) _ hR1).mono ?_
                rw [← HBL.out]
                rintro e w2 ⟨rfl, hb2⟩
                have hl2 := hl1.below hb2 hl1.2.2
                have hR2 := (hR1.below hb2 (Nat.le_refl _)).mono hb2.size
                have HB2 := HB1.trans (hb2.mono HB1.size)
                clear hl1 hR1 HB1 hb2 c0 c1 cl
                generalize txt L n = tx
                obtain ⟨c0, c1, cl⟩ := id hl2
                go_wp2_with (first | (go_at_call 70; refine (rplain_any ad n cap K L (by omega) _ hR2).mono ?_; rw [← HBP.out];  rintro e w3 ⟨rfl, hb3⟩; have c1 : w3.cell? ⟨w.heap.size, 1, none⟩ = some (.int .i64 K) := (hb3.cell (p := ⟨w.heap.size, 1, none⟩) cl).trans c1))
                go_ret
                exact ⟨rfl, HB2.trans (hb3.mono HB2.size)⟩
              · rw [Bool.true_and] at hRR
                by_cases hk0 : K = 0
                · rw [decide_eq_true hk0] at hRR
                  subst hRR
                  subst hk0
                  go_enter Try.func98, Try.ntmps98
                  go_wp2_with fail
                  refine (rright_any ad n cap 0 L (by omega) _ hR0).mono ?_
                  rw [HRI.out]
                  rintro e w1 ⟨rfl, hb1⟩
                  have hl1 := hl.below hb1 hl.2.2
                  have hR1 := (hR0.below hb1 (Nat.le_refl _)).mono hb1.size
                  have HB1 := HB.trans (hb1.mono HB.size)
                  clear hl HB hR0 hb1 hR
                  obtain ⟨c0, c1, cl⟩ := id hl1
                  go_wp2_with fail
                  refine (rletters_any ad n cap 0 L (by omega) _ hR1).mono ?_
                  rw [← HBL.out]
                  rintro e w2 ⟨rfl, hb2⟩
                  have hl2 := hl1.below hb2 hl1.2.2
                  have hR2 := (hR1.below hb2 (Nat.le_refl _)).mono hb2.size
                  have HB2 := HB1.trans (hb2.mono HB1.size)
                  clear hl1 hR1 HB1 hb2 c0 c1 cl
                  generalize txt L n = tx
                  obtain ⟨c0, c1, cl⟩ := id hl2
                  go_wp2_with (first | (go_at_call 70; refine (rplain_any ad n cap 0 L (by omega) _ hR2).mono ?_; rw [← HBP.out];  rintro e w3 ⟨rfl, hb3⟩; have c1 : w3.cell? ⟨w.heap.size, 1, none⟩ = some (.int .i64 0) := (hb3.cell (p := ⟨w.heap.size, 1, none⟩) cl).trans c1))
                  go_ret
                  exact ⟨rfl, HB2.trans (hb3.mono HB2.size)⟩
                · rw [decide_eq_false hk0] at hRR
                  subst hRR
                  have hk1 : (K == 0) = false := by rw [beq_eq_false_iff_ne]; exact hk0
                  go_enter Try.func98, Try.ntmps98
                  go_wp2_with fail
                  refine (rright_any ad n cap K L (by omega) _ hR0).mono ?_
                  rw [HRI.out]
                  rintro e w1 ⟨rfl, hb1⟩
                  have hl1 := hl.below hb1 hl.2.2
                  have hR1 := (hR0.below hb1 (Nat.le_refl _)).mono hb1.size
                  have HB1 := HB.trans (hb1.mono HB.size)
                  clear hl HB hR0 hb1 hR
                  obtain ⟨c0, c1, cl⟩ := id hl1
                  go_wp2_with fail
                  refine (rletters_any ad n cap K L (by omega) _ hR1).mono ?_
                  rw [← HBL.out]
                  rintro e w2 ⟨rfl, hb2⟩
                  have hl2 := hl1.below hb2 hl1.2.2
                  have hR2 := (hR1.below hb2 (Nat.le_refl _)).mono hb2.size
                  have HB2 := HB1.trans (hb2.mono HB1.size)
                  clear hl1 hR1 HB1 hb2 c0 c1 cl
                  generalize txt L n = tx
                  obtain ⟨c0, c1, cl⟩ := id hl2
                  go_wp2_with (first | (go_at_call 70; refine (rplain_any ad n cap K L (by omega) _ hR2).mono ?_; rw [← HBP.out];  rintro e w3 ⟨rfl, hb3⟩; have c1 : w3.cell? ⟨w.heap.size, 1, none⟩ = some (.int .i64 K) := (hb3.cell (p := ⟨w.heap.size, 1, none⟩) cl).trans c1))
                  go_ret
                  exact ⟨rfl, HB2.trans (hb3.mono HB2.size)⟩
            · rw [if_neg h3] at hRR
              by_cases h5 : way' = 5
              · subst h5
                rw [decide_eq_true rfl, Bool.true_and] at hRR
                subst hRR
                go_enter Try.func98, Try.ntmps98
                go_wp2_with fail
                refine (rright_any ad n cap K L (by omega) _ hR0).mono ?_
                rw [HRI.out]
                rintro e w1 ⟨rfl, hb1⟩
                have hl1 := hl.below hb1 hl.2.2
                have hR1 := (hR0.below hb1 (Nat.le_refl _)).mono hb1.size
                have HB1 := HB.trans (hb1.mono HB.size)
                clear hl HB hR0 hb1 hR
                obtain ⟨c0, c1, cl⟩ := id hl1
                go_wp2_with fail
                refine (rletters_any ad n cap K L (by omega) _ hR1).mono ?_
                rw [← HBL.out]
                rintro e w2 ⟨rfl, hb2⟩
                have hl2 := hl1.below hb2 hl1.2.2
                have hR2 := (hR1.below hb2 (Nat.le_refl _)).mono hb2.size
                have HB2 := HB1.trans (hb2.mono HB1.size)
                clear hl1 hR1 HB1 hb2 c0 c1 cl
                generalize txt L n = tx
                obtain ⟨c0, c1, cl⟩ := id hl2
                go_wp2_with (first | (go_at_call 70; refine (rplain_any ad n cap K L (by omega) _ hR2).mono ?_; rw [← HBP.out];  rintro e w3 ⟨rfl, hb3⟩; have c1 : w3.cell? ⟨w.heap.size, 1, none⟩ = some (.int .i64 K) := (hb3.cell (p := ⟨w.heap.size, 1, none⟩) cl).trans c1))
                go_ret
                exact ⟨rfl, HB2.trans (hb3.mono HB2.size)⟩
              · rw [decide_eq_false h5, Bool.false_and] at hRR
                subst hRR
                have e1 : (way' == 1) = false := by rw [beq_eq_false_iff_ne]; exact h1
                have e2 : (way' == 2) = false := by rw [beq_eq_false_iff_ne]; exact h2
                have e3 : (way' == 3) = false := by rw [beq_eq_false_iff_ne]; exact h3
                have e4 : (way' == 4) = false := by rw [beq_eq_false_iff_ne]; exact h4
                have e5 : (way' == 5) = false := by rw [beq_eq_false_iff_ne]; exact h5
                go_enter Try.func98, Try.ntmps98
                go_wp2_with fail
                refine (rright_any ad n cap K L (by omega) _ hR0).mono ?_
                rw [HRI.out]
                rintro e w1 ⟨rfl, hb1⟩
                have hl1 := hl.below hb1 hl.2.2
                have hR1 := (hR0.below hb1 (Nat.le_refl _)).mono hb1.size
                have HB1 := HB.trans (hb1.mono HB.size)
                clear hl HB hR0 hb1 hR
                obtain ⟨c0, c1, cl⟩ := id hl1
                go_wp2_with fail
                refine (rletters_any ad n cap K L (by omega) _ hR1).mono ?_
                rw [← HBL.out]
                rintro e w2 ⟨rfl, hb2⟩
                have hl2 := hl1.below hb2 hl1.2.2
                have hR2 := (hR1.below hb2 (Nat.le_refl _)).mono hb2.size
                have HB2 := HB1.trans (hb2.mono HB1.size)
                clear hl1 hR1 HB1 hb2 c0 c1 cl
                generalize txt L n = tx
                obtain ⟨c0, c1, cl⟩ := id hl2
                go_wp2_with (first | (go_at_call 70; refine (rplain_any ad n cap K L (by omega) _ hR2).mono ?_; rw [← HBP.out];  rintro e w3 ⟨rfl, hb3⟩; have c1 : w3.cell? ⟨w.heap.size, 1, none⟩ = some (.int .i64 K) := (hb3.cell (p := ⟨w.heap.size, 1, none⟩) cl).trans c1))
                go_ret
                exact ⟨rfl, HB2.trans (hb3.mono HB2.size)⟩
    refine start way R (lettersB L n) (plainB L n) rfl rfl ?_
    rw [hRV]
    unfold admB
    rw [hri, Bool.true_and]
end Go.Proofs.Ytkhcjjdamphbfaa
