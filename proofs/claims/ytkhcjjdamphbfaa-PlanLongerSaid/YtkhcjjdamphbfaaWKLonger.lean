/- Walk of the law PlanLonger. -/
import Derived.Test.YtkhcjjdamphbfaaKz
namespace Go.Proofs.Ytkhcjjdamphbfaa
open Go.RowKit

set_option maxRecDepth 100000 in
set_option maxHeartbeats 4000000 in
theorem planLonger_walk (way : Int) (_ : -9223372036854775808 ≤ way) (_ : way ≤ 9223372036854775807) (ad : Option Addr) (n cap : Nat) (K : Int) (L : Nat → Nat → Bool) (hn : (n : Int) ≤ 4611686018427387904) (nn size : Int) (_ : -9223372036854775808 ≤ nn) (_ : nn ≤ 9223372036854775807) (_ : -9223372036854775808 ≤ size) (_ : size ≤ 9223372036854775807) (w : World) (hR : RowC w ad n L w.heap.size) :
    Calls Try.prog 31 #[.int .i64 way, lv ad n cap K, .agg #[.int .i64 nn, .int .i64 size]] w fun e w' => e = .returned (.bool true) ∧ Below w.heap.size w w' := by
  obtain ⟨W0, hW0⟩ : ∃ W0, W0 = ((w.alloc (.cells #[.slice ad n cap, .int .i64 K] 43)).alloc (.cells #[.int .i64 nn, .int .i64 size] 77)) := ⟨_, rfl⟩
  have HB : Below w.heap.size w W0 := by rw [hW0]; exact (((Below.refl _ _).alloc (Nat.le_refl _) _).alloc (by simp <;> omega) _)
  have hR0 := (hR.below HB (Nat.le_refl _)).mono HB.size
  have hz0 : w.heap.size + 2 ≤ W0.heap.size := by rw [hW0]; simp
  have hl : HoldsL W0 (w.heap.size) ad n cap K := by rw [hW0]; exact ⟨by simp [go_sem], by simp [go_sem], by simp <;> omega⟩
  have hq : HoldsQ W0 (w.heap.size + 1) nn size := by rw [hW0]; exact ⟨by simp [go_sem], by simp [go_sem], by simp <;> omega⟩
  by_cases hf : n ≤ 100
  · have hn2 : (n : Int) ≤ 1000 := by omega
    by_cases hbig : 1125899906842624 < nn
    · go_enter Try.func31, Try.ntmps31
      go_wp2_with fail
      rw [← hW0]
      clear hW0 hR
      obtain ⟨c0, c1, cl⟩ := id hl
      obtain ⟨d0, d1, dl⟩ := id hq
      refine (few16_any ad n cap K hn _).mono ?_
      rw [decide_eq_true hf]
      rintro e w1 ⟨rfl, hb1⟩
      replace HB := HB.trans (hb1.mono HB.size)
      replace hR0 := (hR0.below hb1 (Nat.le_refl _)).mono hb1.size
      replace hl := hl.below hb1 hl.2.2
      replace hq := hq.below hb1 hq.2.2
      clear hb1 c0 c1 cl d0 d1 dl
      obtain ⟨c0, c1, cl⟩ := id hl
      obtain ⟨d0, d1, dl⟩ := id hq
      go_wp2_with (first | (go_at_call 94; refine (alive16 _).mono ?_; rintro e w2 ⟨rfl, hb2⟩))
      go_ret
      exact ⟨rfl, HB.trans (hb2.mono HB.size)⟩
    · have ha := fun w' h' => telC 101 way ad n cap K L nn size w' (cost_any way ad n cap K L hn2 nn size w' h')
      have hb := fun w' h' => telC 101 way ad n cap K L (nn + 1) size w' (cost_any way ad n cap K L hn2 (nn + 1) size w' h')
      have hng : ∀ x y : Bool, x = sdF nn size K L n way → y = sdF (nn + 1) size K L n way → (y = true → x = true) ∧ (x = true → y = true → tel nn size K L n way ≤ tel (nn + 1) size K L n way) := by
        rintro x y rfl rfl
        exact ⟨sd_longer, tel_longer⟩
      obtain ⟨A, hA⟩ : ∃ A, A = sdF nn size K L n way := ⟨_, rfl⟩
      obtain ⟨B, hB⟩ : ∃ B, B = sdF (nn + 1) size K L n way := ⟨_, rfl⟩
      have hnn := hng A B hA hB
      rw [← hA] at ha
      rw [← hB] at hb
      clear hA hB hng
      generalize tel nn size K L n way = C at ha hnn
      generalize tel (nn + 1) size K L n way = D at hb hnn
      have HA := Lib.hid ha
      have HD := Lib.hid hb
      clear ha hb
      obtain ⟨hn3, hn4⟩ := hnn
      have hcas : (A = true ∧ B = true ∧ C ≤ D) ∨ (A = true ∧ B = false) ∨ (A = false ∧ B = false) := by
        cases A <;> cases B
        · exact .inr (.inr ⟨rfl, rfl⟩)
        · exact absurd (hn3 rfl) (by decide)
        · exact .inr (.inl ⟨rfl, rfl⟩)
        · exact .inl ⟨rfl, rfl, hn4 rfl rfl⟩
      clear hn3 hn4
      rcases hcas with ⟨rfl, rfl, hCD⟩ | ⟨rfl, rfl⟩ | ⟨rfl, rfl⟩
      · have hCD2 : decide (C ≤ D) = true := decide_eq_true hCD
        go_enter Try.func31, Try.ntmps31
        go_wp2_with fail
        rw [← hW0]
        clear hW0 hR
        obtain ⟨c0, c1, cl⟩ := id hl
        obtain ⟨d0, d1, dl⟩ := id hq
        refine (few16_any ad n cap K hn _).mono ?_
        rw [decide_eq_true hf]
        rintro e w1 ⟨rfl, hb1⟩
        replace HB := HB.trans (hb1.mono HB.size)
        replace hR0 := (hR0.below hb1 (Nat.le_refl _)).mono hb1.size
        replace hl := hl.below hb1 hl.2.2
        replace hq := hq.below hb1 hq.2.2
        clear hb1 c0 c1 cl d0 d1 dl
        obtain ⟨c0, c1, cl⟩ := id hl
        obtain ⟨d0, d1, dl⟩ := id hq
        go_wp2_with fail
        refine (HA.out _ hR0).mono ?_
        rintro e w2 ⟨rfl, hb2⟩
        replace HB := HB.trans (hb2.mono HB.size)
        replace hR0 := (hR0.below hb2 (Nat.le_refl _)).mono hb2.size
        replace hl := hl.below hb2 hl.2.2
        replace hq := hq.below hb2 hq.2.2
        clear hb2 c0 c1 cl d0 d1 dl
        obtain ⟨c0, c1, cl⟩ := id hl
        obtain ⟨d0, d1, dl⟩ := id hq
        go_wp2_with fail
        refine (HD.out _ hR0).mono ?_
        rintro e w3 ⟨rfl, hb3⟩
        replace HB := HB.trans (hb3.mono HB.size)
        replace hR0 := (hR0.below hb3 (Nat.le_refl _)).mono hb3.size
        replace hl := hl.below hb3 hl.2.2
        replace hq := hq.below hb3 hq.2.2
        clear hb3 c0 c1 cl d0 d1 dl
        obtain ⟨c0, c1, cl⟩ := id hl
        obtain ⟨d0, d1, dl⟩ := id hq
        go_wp2_with (first | (go_at_call 94; refine (alive16 _).mono ?_; rintro e w4 ⟨rfl, hb4⟩))
        go_ret
        exact ⟨rfl, HB.trans (hb4.mono HB.size)⟩
      · go_enter Try.func31, Try.ntmps31
        go_wp2_with fail
        rw [← hW0]
        clear hW0 hR
        obtain ⟨c0, c1, cl⟩ := id hl
        obtain ⟨d0, d1, dl⟩ := id hq
        refine (few16_any ad n cap K hn _).mono ?_
        rw [decide_eq_true hf]
        rintro e w1 ⟨rfl, hb1⟩
        replace HB := HB.trans (hb1.mono HB.size)
        replace hR0 := (hR0.below hb1 (Nat.le_refl _)).mono hb1.size
        replace hl := hl.below hb1 hl.2.2
        replace hq := hq.below hb1 hq.2.2
        clear hb1 c0 c1 cl d0 d1 dl
        obtain ⟨c0, c1, cl⟩ := id hl
        obtain ⟨d0, d1, dl⟩ := id hq
        go_wp2_with fail
        refine (HA.out _ hR0).mono ?_
        rintro e w2 ⟨rfl, hb2⟩
        replace HB := HB.trans (hb2.mono HB.size)
        replace hR0 := (hR0.below hb2 (Nat.le_refl _)).mono hb2.size
        replace hl := hl.below hb2 hl.2.2
        replace hq := hq.below hb2 hq.2.2
        clear hb2 c0 c1 cl d0 d1 dl
        obtain ⟨c0, c1, cl⟩ := id hl
        obtain ⟨d0, d1, dl⟩ := id hq
        go_wp2_with fail
        refine (HD.out _ hR0).mono ?_
        rintro e w3 ⟨rfl, hb3⟩
        replace HB := HB.trans (hb3.mono HB.size)
        replace hR0 := (hR0.below hb3 (Nat.le_refl _)).mono hb3.size
        replace hl := hl.below hb3 hl.2.2
        replace hq := hq.below hb3 hq.2.2
        clear hb3 c0 c1 cl d0 d1 dl
        obtain ⟨c0, c1, cl⟩ := id hl
        obtain ⟨d0, d1, dl⟩ := id hq
        go_wp2_with (first | (go_at_call 94; refine (alive16 _).mono ?_; rintro e w4 ⟨rfl, hb4⟩))
        go_ret
        exact ⟨rfl, HB.trans (hb4.mono HB.size)⟩
      · go_enter Try.func31, Try.ntmps31
        go_wp2_with fail
        rw [← hW0]
        clear hW0 hR
        obtain ⟨c0, c1, cl⟩ := id hl
        obtain ⟨d0, d1, dl⟩ := id hq
        refine (few16_any ad n cap K hn _).mono ?_
        rw [decide_eq_true hf]
        rintro e w1 ⟨rfl, hb1⟩
        replace HB := HB.trans (hb1.mono HB.size)
        replace hR0 := (hR0.below hb1 (Nat.le_refl _)).mono hb1.size
        replace hl := hl.below hb1 hl.2.2
        replace hq := hq.below hb1 hq.2.2
        clear hb1 c0 c1 cl d0 d1 dl
        obtain ⟨c0, c1, cl⟩ := id hl
        obtain ⟨d0, d1, dl⟩ := id hq
        go_wp2_with fail
        refine (HA.out _ hR0).mono ?_
        rintro e w2 ⟨rfl, hb2⟩
        replace HB := HB.trans (hb2.mono HB.size)
        replace hR0 := (hR0.below hb2 (Nat.le_refl _)).mono hb2.size
        replace hl := hl.below hb2 hl.2.2
        replace hq := hq.below hb2 hq.2.2
        clear hb2 c0 c1 cl d0 d1 dl
        obtain ⟨c0, c1, cl⟩ := id hl
        obtain ⟨d0, d1, dl⟩ := id hq
        go_wp2_with fail
        refine (HD.out _ hR0).mono ?_
        rintro e w3 ⟨rfl, hb3⟩
        replace HB := HB.trans (hb3.mono HB.size)
        replace hR0 := (hR0.below hb3 (Nat.le_refl _)).mono hb3.size
        replace hl := hl.below hb3 hl.2.2
        replace hq := hq.below hb3 hq.2.2
        clear hb3 c0 c1 cl d0 d1 dl
        obtain ⟨c0, c1, cl⟩ := id hl
        obtain ⟨d0, d1, dl⟩ := id hq
        go_wp2_with (first | (go_at_call 94; refine (alive16 _).mono ?_; rintro e w4 ⟨rfl, hb4⟩))
        go_ret
        exact ⟨rfl, HB.trans (hb4.mono HB.size)⟩
  · go_enter Try.func31, Try.ntmps31
    go_wp2_with (first | (go_at_call 93; refine (few16_any ad n cap K hn _).mono ?_; rw [decide_eq_false hf]; rintro e w1 ⟨rfl, hb1⟩) | (go_at_call 94; refine (alive16 _).mono ?_; rintro e w2 ⟨rfl, hb2⟩))
    go_ret
    rw [hW0] at HB
    exact ⟨rfl, HB.trans ((hb1.trans (hb2.mono hb1.size)).mono HB.size)⟩
end Go.Proofs.Ytkhcjjdamphbfaa
