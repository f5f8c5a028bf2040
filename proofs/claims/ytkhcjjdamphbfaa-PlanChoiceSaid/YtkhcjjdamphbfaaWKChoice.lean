/- Walk of the law PlanChoice. -/
import Derived.Test.YtkhcjjdamphbfaaKz
namespace Go.Proofs.Ytkhcjjdamphbfaa
open Go.RowKit

set_option maxRecDepth 100000 in
set_option maxHeartbeats 4000000 in
theorem planChoice_walk (ad : Option Addr) (n cap : Nat) (K : Int) (L : Nat → Nat → Bool) (hn : (n : Int) ≤ 4611686018427387904) (nn size : Int) (_ : -9223372036854775808 ≤ nn) (_ : nn ≤ 9223372036854775807) (_ : -9223372036854775808 ≤ size) (_ : size ≤ 9223372036854775807) (way : Int) (_ : -9223372036854775808 ≤ way) (_ : way ≤ 9223372036854775807) (w : World) (hR : RowC w ad n L w.heap.size) :
    Calls Try.prog 30 #[lv ad n cap K, .agg #[.int .i64 nn, .int .i64 size], .int .i64 way] w fun e w' => e = .returned (.bool true) ∧ Below w.heap.size w w' := by
  obtain ⟨W0, hW0⟩ : ∃ W0, W0 = ((w.alloc (.cells #[.slice ad n cap, .int .i64 K] 43)).alloc (.cells #[.int .i64 nn, .int .i64 size] 77)) := ⟨_, rfl⟩
  have HB : Below w.heap.size w W0 := by rw [hW0]; exact (((Below.refl _ _).alloc (Nat.le_refl _) _).alloc (by simp <;> omega) _)
  have hR0 := (hR.below HB (Nat.le_refl _)).mono HB.size
  have hz0 : w.heap.size + 2 ≤ W0.heap.size := by rw [hW0]; simp
  have hl : HoldsL W0 (w.heap.size) ad n cap K := by rw [hW0]; exact ⟨by simp [go_sem], by simp [go_sem], by simp <;> omega⟩
  have hq : HoldsQ W0 (w.heap.size + 1) nn size := by rw [hW0]; exact ⟨by simp [go_sem], by simp [go_sem], by simp <;> omega⟩
  by_cases hf : n ≤ 100
  · have hn2 : (n : Int) ≤ 1000 := by omega
    have ha := fun w' h' => choose_any ad n cap K L hn2 nn size w' h'
    have hb := fun w' h' => rchoose_any ad n cap K L hn2 nn size w' h'
    have hr := fun w' h' => rright_any ad n cap K L hn w' h'
    have hbr := best_right nn size K L n
    have hbs := fun h => best_sized (nn := nn) (size := size) (K := K) (L := L) (n := n) h
    have hbl := fun h hy => best_least (nn := nn) (size := size) (K := K) (L := L) (n := n) h way hy
    generalize bestV nn size K L n = b at ha hb hbr hbs hbl
    have HA := Lib.hid ha
    have HB2 := Lib.hid hb
    clear ha hb
    by_cases hb0 : b = 0
    · rw [decide_eq_true hb0] at hbr
      have hrb : rightB n L K = false := by cases h : rightB n L K <;> rw [h] at hbr <;> first | rfl | cases hbr
      rw [hrb] at hr
      subst hb0
      have HR := Lib.hid hr
      clear hr hbr hrb hbs hbl
      go_enter Try.func30, Try.ntmps30
      go_wp2_with fail
      rw [← hW0]
      clear hW0 hR
      obtain ⟨c0, c1, cl⟩ := id hl
      obtain ⟨d0, d1, dl⟩ := id hq
      refine (few16_any ad n cap K hn _).mono ?_
      rw [decide_eq_true hf]
      rintro e w1 ⟨rfl, hb1⟩
      replace HB := HB.trans (hb1.mono HB.size)
      replace hR0 := (hR0.below hb1 (Nat.le_refl _)).mono hb1.size
      replace hl := hl.below hb1 hl.2.2
      replace hq := hq.below hb1 hq.2.2
      clear hb1 c0 c1 cl d0 d1 dl
      obtain ⟨c0, c1, cl⟩ := id hl
      obtain ⟨d0, d1, dl⟩ := id hq
      go_wp2_with fail
      refine (HA.out _ hR0).mono ?_
      rintro e w2 ⟨rfl, hb2⟩
      replace HB := HB.trans (hb2.mono HB.size)
      replace hR0 := (hR0.below hb2 (Nat.le_refl _)).mono hb2.size
      replace hl := hl.below hb2 hl.2.2
      replace hq := hq.below hb2 hq.2.2
      clear hb2 c0 c1 cl d0 d1 dl
      obtain ⟨c0, c1, cl⟩ := id hl
      obtain ⟨d0, d1, dl⟩ := id hq
      go_wp2_with fail
      refine (HB2.out _ hR0).mono ?_
      rintro e w3 ⟨rfl, hb3⟩
      replace HB := HB.trans (hb3.mono HB.size)
      replace hR0 := (hR0.below hb3 (Nat.le_refl _)).mono hb3.size
      replace hl := hl.below hb3 hl.2.2
      replace hq := hq.below hb3 hq.2.2
      clear hb3 c0 c1 cl d0 d1 dl
      obtain ⟨c0, c1, cl⟩ := id hl
      obtain ⟨d0, d1, dl⟩ := id hq
      go_wp2_with fail
      refine (HR.out _ hR0).mono ?_
      rintro e w4 ⟨rfl, hb4⟩
      replace HB := HB.trans (hb4.mono HB.size)
      replace hR0 := (hR0.below hb4 (Nat.le_refl _)).mono hb4.size
      replace hl := hl.below hb4 hl.2.2
      replace hq := hq.below hb4 hq.2.2
      clear hb4 c0 c1 cl d0 d1 dl
      obtain ⟨c0, c1, cl⟩ := id hl
      obtain ⟨d0, d1, dl⟩ := id hq
      go_wp2_with fail
      refine (alive16 _).mono ?_
      rintro e w5 ⟨rfl, hb5⟩
      go_wp2_with fail
      go_ret
      exact ⟨rfl, HB.trans (hb5.mono HB.size)⟩
    · rw [decide_eq_false hb0] at hbr
      have hrb : rightB n L K = true := by cases h : rightB n L K <;> rw [h] at hbr <;> first | rfl | cases hbr
      rw [hrb] at hr
      have HR := Lib.hid hr
      have hs0 := hbs hb0
      have hc := fun w' h' => telC 101 b ad n cap K L nn size w' (cost_any b ad n cap K L hn2 nn size w' h')
      have hd := fun w' h' => telC 101 way ad n cap K L nn size w' (cost_any way ad n cap K L hn2 nn size w' h')
      have hz := fun w' h' => szd_any b ad n cap K L hn2 nn size w' h'
      have hs1 : sdF nn size K L n b = true := hs0
      rw [hs0] at hz
      rw [hs1] at hc
      have hcs : (sdF nn size K L n way = false) ∨ (sdF nn size K L n way = true ∧ tel nn size K L n b ≤ tel nn size K L n way ∧ (tel nn size K L n b < tel nn size K L n way ∨ b ≤ way)) := by
        cases h : sdF nn size K L n way
        · exact .inl rfl
        · exact .inr ⟨rfl, hbl hb0 h⟩
      generalize tel nn size K L n b = C at hc hcs
      generalize tel nn size K L n way = D at hd hcs
      generalize sdF nn size K L n way = S at hd hcs
      have hb1 : (b == 0) = false := by rw [beq_eq_false_iff_ne]; exact hb0
      have HC := Lib.hid hc
      have HD := Lib.hid hd
      have HZ := Lib.hid hz
      clear hc hd hz hs0 hs1 hr hbr hrb hbs hbl hb0
      have hcs2 : S = false ∨ (S = true ∧ decide (C ≤ D) = true ∧ decide (C < D) = true) ∨ (S = true ∧ decide (C ≤ D) = true ∧ decide (C < D) = false ∧ decide (b ≤ way) = true) := by
        rcases hcs with h | ⟨h1, h2, h3⟩
        · exact .inl h
        · by_cases hlt : C < D
          · exact .inr (.inl ⟨h1, decide_eq_true h2, decide_eq_true hlt⟩)
          · exact .inr (.inr ⟨h1, decide_eq_true h2, decide_eq_false hlt, decide_eq_true (by omega)⟩)
      clear hcs
      rcases hcs2 with rfl | ⟨rfl, hle, hlt⟩ | ⟨rfl, hle, hlt, hbw⟩
      · go_enter Try.func30, Try.ntmps30
        go_wp2_with fail
        rw [← hW0]
        clear hW0 hR
        obtain ⟨c0, c1, cl⟩ := id hl
        obtain ⟨d0, d1, dl⟩ := id hq
        refine (few16_any ad n cap K hn _).mono ?_
        rw [decide_eq_true hf]
        rintro e w1 ⟨rfl, hb1⟩
        replace HB := HB.trans (hb1.mono HB.size)
        replace hR0 := (hR0.below hb1 (Nat.le_refl _)).mono hb1.size
        replace hl := hl.below hb1 hl.2.2
        replace hq := hq.below hb1 hq.2.2
        clear hb1 c0 c1 cl d0 d1 dl
        obtain ⟨c0, c1, cl⟩ := id hl
        obtain ⟨d0, d1, dl⟩ := id hq
        go_wp2_with fail
        refine (HA.out _ hR0).mono ?_
        rintro e w2 ⟨rfl, hb2⟩
        replace HB := HB.trans (hb2.mono HB.size)
        replace hR0 := (hR0.below hb2 (Nat.le_refl _)).mono hb2.size
        replace hl := hl.below hb2 hl.2.2
        replace hq := hq.below hb2 hq.2.2
        clear hb2 c0 c1 cl d0 d1 dl
        obtain ⟨c0, c1, cl⟩ := id hl
        obtain ⟨d0, d1, dl⟩ := id hq
        go_wp2_with fail
        refine (HB2.out _ hR0).mono ?_
        rintro e w3 ⟨rfl, hb3⟩
        replace HB := HB.trans (hb3.mono HB.size)
        replace hR0 := (hR0.below hb3 (Nat.le_refl _)).mono hb3.size
        replace hl := hl.below hb3 hl.2.2
        replace hq := hq.below hb3 hq.2.2
        clear hb3 c0 c1 cl d0 d1 dl
        obtain ⟨c0, c1, cl⟩ := id hl
        obtain ⟨d0, d1, dl⟩ := id hq
        go_wp2_with fail
        refine (HR.out _ hR0).mono ?_
        rintro e w4 ⟨rfl, hb4⟩
        replace HB := HB.trans (hb4.mono HB.size)
        replace hR0 := (hR0.below hb4 (Nat.le_refl _)).mono hb4.size
        replace hl := hl.below hb4 hl.2.2
        replace hq := hq.below hb4 hq.2.2
        clear hb4 c0 c1 cl d0 d1 dl
        obtain ⟨c0, c1, cl⟩ := id hl
        obtain ⟨d0, d1, dl⟩ := id hq
        go_wp2_with fail
        refine (HC.out _ hR0).mono ?_
        rintro e w5 ⟨rfl, hb5⟩
        replace HB := HB.trans (hb5.mono HB.size)
        replace hR0 := (hR0.below hb5 (Nat.le_refl _)).mono hb5.size
        replace hl := hl.below hb5 hl.2.2
        replace hq := hq.below hb5 hq.2.2
        clear hb5 c0 c1 cl d0 d1 dl
        obtain ⟨c0, c1, cl⟩ := id hl
        obtain ⟨d0, d1, dl⟩ := id hq
        go_wp2_with fail
        refine (HD.out _ hR0).mono ?_
        rintro e w6 ⟨rfl, hb6⟩
        replace HB := HB.trans (hb6.mono HB.size)
        replace hR0 := (hR0.below hb6 (Nat.le_refl _)).mono hb6.size
        replace hl := hl.below hb6 hl.2.2
        replace hq := hq.below hb6 hq.2.2
        clear hb6 c0 c1 cl d0 d1 dl
        obtain ⟨c0, c1, cl⟩ := id hl
        obtain ⟨d0, d1, dl⟩ := id hq
        go_wp2_with fail
        refine (alive16 _).mono ?_
        rintro e w7 ⟨rfl, hb7⟩
        replace HB := HB.trans (hb7.mono HB.size)
        replace hR0 := (hR0.below hb7 (Nat.le_refl _)).mono hb7.size
        replace hl := hl.below hb7 hl.2.2
        replace hq := hq.below hb7 hq.2.2
        clear hb7 c0 c1 cl d0 d1 dl
        obtain ⟨c0, c1, cl⟩ := id hl
        obtain ⟨d0, d1, dl⟩ := id hq
        go_wp2_with fail
        refine (HZ.out _ hR0).mono ?_
        rintro e w8 ⟨rfl, hb8⟩
        replace HB := HB.trans (hb8.mono HB.size)
        replace hR0 := (hR0.below hb8 (Nat.le_refl _)).mono hb8.size
        replace hl := hl.below hb8 hl.2.2
        replace hq := hq.below hb8 hq.2.2
        clear hb8 c0 c1 cl d0 d1 dl
        obtain ⟨c0, c1, cl⟩ := id hl
        obtain ⟨d0, d1, dl⟩ := id hq
        go_wp2_with fail
        go_ret
        exact ⟨rfl, HB⟩
      · go_enter Try.func30, Try.ntmps30
        go_wp2_with fail
        rw [← hW0]
        clear hW0 hR
        obtain ⟨c0, c1, cl⟩ := id hl
        obtain ⟨d0, d1, dl⟩ := id hq
        refine (few16_any ad n cap K hn _).mono ?_
        rw [decide_eq_true hf]
        rintro e w1 ⟨rfl, hb1⟩
        replace HB := HB.trans (hb1.mono HB.size)
        replace hR0 := (hR0.below hb1 (Nat.le_refl _)).mono hb1.size
        replace hl := hl.below hb1 hl.2.2
        replace hq := hq.below hb1 hq.2.2
        clear hb1 c0 c1 cl d0 d1 dl
        obtain ⟨c0, c1, cl⟩ := id hl
        obtain ⟨d0, d1, dl⟩ := id hq
        go_wp2_with fail
        refine (HA.out _ hR0).mono ?_
        rintro e w2 ⟨rfl, hb2⟩
        replace HB := HB.trans (hb2.mono HB.size)
        replace hR0 := (hR0.below hb2 (Nat.le_refl _)).mono hb2.size
        replace hl := hl.below hb2 hl.2.2
        replace hq := hq.below hb2 hq.2.2
        clear hb2 c0 c1 cl d0 d1 dl
        obtain ⟨c0, c1, cl⟩ := id hl
        obtain ⟨d0, d1, dl⟩ := id hq
        go_wp2_with fail
        refine (HB2.out _ hR0).mono ?_
        rintro e w3 ⟨rfl, hb3⟩
        replace HB := HB.trans (hb3.mono HB.size)
        replace hR0 := (hR0.below hb3 (Nat.le_refl _)).mono hb3.size
        replace hl := hl.below hb3 hl.2.2
        replace hq := hq.below hb3 hq.2.2
        clear hb3 c0 c1 cl d0 d1 dl
        obtain ⟨c0, c1, cl⟩ := id hl
        obtain ⟨d0, d1, dl⟩ := id hq
        go_wp2_with fail
        refine (HR.out _ hR0).mono ?_
        rintro e w4 ⟨rfl, hb4⟩
        replace HB := HB.trans (hb4.mono HB.size)
        replace hR0 := (hR0.below hb4 (Nat.le_refl _)).mono hb4.size
        replace hl := hl.below hb4 hl.2.2
        replace hq := hq.below hb4 hq.2.2
        clear hb4 c0 c1 cl d0 d1 dl
        obtain ⟨c0, c1, cl⟩ := id hl
        obtain ⟨d0, d1, dl⟩ := id hq
        go_wp2_with fail
        refine (HC.out _ hR0).mono ?_
        rintro e w5 ⟨rfl, hb5⟩
        replace HB := HB.trans (hb5.mono HB.size)
        replace hR0 := (hR0.below hb5 (Nat.le_refl _)).mono hb5.size
        replace hl := hl.below hb5 hl.2.2
        replace hq := hq.below hb5 hq.2.2
        clear hb5 c0 c1 cl d0 d1 dl
        obtain ⟨c0, c1, cl⟩ := id hl
        obtain ⟨d0, d1, dl⟩ := id hq
        go_wp2_with fail
        refine (HD.out _ hR0).mono ?_
        rintro e w6 ⟨rfl, hb6⟩
        replace HB := HB.trans (hb6.mono HB.size)
        replace hR0 := (hR0.below hb6 (Nat.le_refl _)).mono hb6.size
        replace hl := hl.below hb6 hl.2.2
        replace hq := hq.below hb6 hq.2.2
        clear hb6 c0 c1 cl d0 d1 dl
        obtain ⟨c0, c1, cl⟩ := id hl
        obtain ⟨d0, d1, dl⟩ := id hq
        go_wp2_with fail
        refine (alive16 _).mono ?_
        rintro e w7 ⟨rfl, hb7⟩
        replace HB := HB.trans (hb7.mono HB.size)
        replace hR0 := (hR0.below hb7 (Nat.le_refl _)).mono hb7.size
        replace hl := hl.below hb7 hl.2.2
        replace hq := hq.below hb7 hq.2.2
        clear hb7 c0 c1 cl d0 d1 dl
        obtain ⟨c0, c1, cl⟩ := id hl
        obtain ⟨d0, d1, dl⟩ := id hq
        go_wp2_with fail
        refine (HZ.out _ hR0).mono ?_
        rintro e w8 ⟨rfl, hb8⟩
        replace HB := HB.trans (hb8.mono HB.size)
        replace hR0 := (hR0.below hb8 (Nat.le_refl _)).mono hb8.size
        replace hl := hl.below hb8 hl.2.2
        replace hq := hq.below hb8 hq.2.2
        clear hb8 c0 c1 cl d0 d1 dl
        obtain ⟨c0, c1, cl⟩ := id hl
        obtain ⟨d0, d1, dl⟩ := id hq
        go_wp2_with fail
        go_ret
        exact ⟨rfl, HB⟩
      · go_enter Try.func30, Try.ntmps30
        go_wp2_with fail
        rw [← hW0]
        clear hW0 hR
        obtain ⟨c0, c1, cl⟩ := id hl
        obtain ⟨d0, d1, dl⟩ := id hq
        refine (few16_any ad n cap K hn _).mono ?_
        rw [decide_eq_true hf]
        rintro e w1 ⟨rfl, hb1⟩
        replace HB := HB.trans (hb1.mono HB.size)
        replace hR0 := (hR0.below hb1 (Nat.le_refl _)).mono hb1.size
        replace hl := hl.below hb1 hl.2.2
        replace hq := hq.below hb1 hq.2.2
        clear hb1 c0 c1 cl d0 d1 dl
        obtain ⟨c0, c1, cl⟩ := id hl
        obtain ⟨d0, d1, dl⟩ := id hq
        go_wp2_with fail
        refine (HA.out _ hR0).mono ?_
        rintro e w2 ⟨rfl, hb2⟩
        replace HB := HB.trans (hb2.mono HB.size)
        replace hR0 := (hR0.below hb2 (Nat.le_refl _)).mono hb2.size
        replace hl := hl.below hb2 hl.2.2
        replace hq := hq.below hb2 hq.2.2
        clear hb2 c0 c1 cl d0 d1 dl
        obtain ⟨c0, c1, cl⟩ := id hl
        obtain ⟨d0, d1, dl⟩ := id hq
        go_wp2_with fail
        refine (HB2.out _ hR0).mono ?_
        rintro e w3 ⟨rfl, hb3⟩
        replace HB := HB.trans (hb3.mono HB.size)
        replace hR0 := (hR0.below hb3 (Nat.le_refl _)).mono hb3.size
        replace hl := hl.below hb3 hl.2.2
        replace hq := hq.below hb3 hq.2.2
        clear hb3 c0 c1 cl d0 d1 dl
        obtain ⟨c0, c1, cl⟩ := id hl
        obtain ⟨d0, d1, dl⟩ := id hq
        go_wp2_with fail
        refine (HR.out _ hR0).mono ?_
        rintro e w4 ⟨rfl, hb4⟩
        replace HB := HB.trans (hb4.mono HB.size)
        replace hR0 := (hR0.below hb4 (Nat.le_refl _)).mono hb4.size
        replace hl := hl.below hb4 hl.2.2
        replace hq := hq.below hb4 hq.2.2
        clear hb4 c0 c1 cl d0 d1 dl
        obtain ⟨c0, c1, cl⟩ := id hl
        obtain ⟨d0, d1, dl⟩ := id hq
        go_wp2_with fail
        refine (HC.out _ hR0).mono ?_
        rintro e w5 ⟨rfl, hb5⟩
        replace HB := HB.trans (hb5.mono HB.size)
        replace hR0 := (hR0.below hb5 (Nat.le_refl _)).mono hb5.size
        replace hl := hl.below hb5 hl.2.2
        replace hq := hq.below hb5 hq.2.2
        clear hb5 c0 c1 cl d0 d1 dl
        obtain ⟨c0, c1, cl⟩ := id hl
        obtain ⟨d0, d1, dl⟩ := id hq
        go_wp2_with fail
        refine (HD.out _ hR0).mono ?_
        rintro e w6 ⟨rfl, hb6⟩
        replace HB := HB.trans (hb6.mono HB.size)
        replace hR0 := (hR0.below hb6 (Nat.le_refl _)).mono hb6.size
        replace hl := hl.below hb6 hl.2.2
        replace hq := hq.below hb6 hq.2.2
        clear hb6 c0 c1 cl d0 d1 dl
        obtain ⟨c0, c1, cl⟩ := id hl
        obtain ⟨d0, d1, dl⟩ := id hq
        go_wp2_with fail
        refine (alive16 _).mono ?_
        rintro e w7 ⟨rfl, hb7⟩
        replace HB := HB.trans (hb7.mono HB.size)
        replace hR0 := (hR0.below hb7 (Nat.le_refl _)).mono hb7.size
        replace hl := hl.below hb7 hl.2.2
        replace hq := hq.below hb7 hq.2.2
        clear hb7 c0 c1 cl d0 d1 dl
        obtain ⟨c0, c1, cl⟩ := id hl
        obtain ⟨d0, d1, dl⟩ := id hq
        go_wp2_with fail
        refine (HZ.out _ hR0).mono ?_
        rintro e w8 ⟨rfl, hb8⟩
        replace HB := HB.trans (hb8.mono HB.size)
        replace hR0 := (hR0.below hb8 (Nat.le_refl _)).mono hb8.size
        replace hl := hl.below hb8 hl.2.2
        replace hq := hq.below hb8 hq.2.2
        clear hb8 c0 c1 cl d0 d1 dl
        obtain ⟨c0, c1, cl⟩ := id hl
        obtain ⟨d0, d1, dl⟩ := id hq
        go_wp2_with fail
        go_ret
        exact ⟨rfl, HB⟩
  · go_enter Try.func30, Try.ntmps30
    go_wp2_with (first | (go_at_call 93; refine (few16_any ad n cap K hn _).mono ?_; rw [decide_eq_false hf]; rintro e w1 ⟨rfl, hb1⟩) | (go_at_call 94; refine (alive16 _).mono ?_; rintro e w2 ⟨rfl, hb2⟩))
    go_ret
    rw [hW0] at HB
    exact ⟨rfl, HB.trans ((hb1.trans (hb2.mono hb1.size)).mono HB.size)⟩
end Go.Proofs.Ytkhcjjdamphbfaa
