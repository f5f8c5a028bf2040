/- Whether a size may be: walks of plan.Sized and of beagleref16.Sized. -/
import Derived.Test.YtkhcjjdamphbfaaK3
import Derived.Test.YtkhcjjdamphbfaaK4
namespace Go.Proofs.Ytkhcjjdamphbfaa
open Go.RowKit

/-- Is no size asked for? -/
def frB (way : Int) (L : Nat → Nat → Bool) (n : Nat) : Bool := decide (way = 1) || (decide (way = 2) || (decide (way = 5) && decide (frq L n = 0)))
/-- May the size be? -/
def sdB (way nn size K : Int) (L : Nat → Nat → Bool) (n : Nat) : Bool := admB way K L n && (frB way L n || (decide (nn < n) || szB n size))

set_option maxRecDepth 100000 in
set_option maxHeartbeats 4000000 in
theorem szd_any (way : Int) (ad : Option Addr) (n cap : Nat) (K : Int) (L : Nat → Nat → Bool) (hn : (n : Int) ≤ 1000) (nn size : Int) (w : World) (hR : RowC w ad n L w.heap.size) :
    Calls Try.prog 99 #[.int .i64 way, lv ad n cap K, .int .i64 nn, .int .i64 size] w fun e w' => e = .returned (.bool (sdB way nn size K L n)) ∧ Below w.heap.size w w' := by
  have hl := HoldsL.new w ad n cap K
  have HB : Below w.heap.size w (w.alloc (.cells #[.slice ad n cap, .int .i64 K] 43)) := (Below.refl _ _).alloc (Nat.le_refl _) _
  have hR0 := (hR.below HB (Nat.le_refl _)).mono HB.size
  have ha := fun w' h' => admits_any way ad n cap K L hn w' h'
  have hp := fun w' h' => parts_any ad n cap K L hn w' h'
  have hfl := frq_le L n
  obtain ⟨R, hRV⟩ : ∃ x, x = sdB way nn size K L n := ⟨_, rfl⟩
  rw [← hRV]
  unfold sdB frB at hRV
  generalize admB way K L n = A at ha hRV
  generalize frq L n = F at hp hfl hRV
  generalize rst L n = RS at hp
  have HA := Lib.hid ha
  have HP := Lib.hid hp
  clear ha hp
  by_cases h1 : way = 1
  · subst h1
    rw [decide_eq_true rfl, Bool.true_or, Bool.true_or] at hRV
    cases A
    · rw [Bool.false_and] at hRV
      have HL : Hid (lgB size = lgB size) := Lib.hid rfl
      have HR := Lib.hid hRV
      clear hRV
      go_enter Try.func99, Try.ntmps99
      go_wp2_with (first | (go_at_call 115; refine (log_any size _).mono ?_; generalize lgB size = B at *; rintro e w1 ⟨rfl, hb1⟩; obtain ⟨c0, c1, cl⟩ := hl.below hb1 hl.2.2))
      have hl1 : HoldsL w1 w.heap.size ad n cap K := ⟨c0, c1, cl⟩
      have hR1 := (hR0.below hb1 (Nat.le_refl _)).mono hb1.size
      have HB1 := HB.trans (hb1.mono HB.size)
      clear hl HB hR0 hb1 hR c0 c1 cl
      refine (HP.out _ hR1).mono ?_
      rintro e w2 ⟨rfl, hb2⟩
      have hl2 := hl1.below hb2 hl1.2.2
      have hR2 := (hR1.below hb2 (Nat.le_refl _)).mono hb2.size
      have HB2 := HB1.trans (hb2.mono HB1.size)
      clear hl1 hR1 HB1 hb2
      obtain ⟨c0, c1, cl⟩ := id hl2
      go_wp2_with (first | (go_at_call 97; refine (HA.out _ hR2).mono ?_; rintro e w3 ⟨rfl, hb3⟩))
      go_ret
      exact ⟨by rw [HR.out]; rfl, HB2.trans (hb3.mono HB2.size)⟩
    · rw [Bool.true_and] at hRV
      have HL : Hid (lgB size = lgB size) := Lib.hid rfl
      have HR := Lib.hid hRV
      clear hRV
      go_enter Try.func99, Try.ntmps99
      go_wp2_with (first | (go_at_call 115; refine (log_any size _).mono ?_; generalize lgB size = B at *; rintro e w1 ⟨rfl, hb1⟩; obtain ⟨c0, c1, cl⟩ := hl.below hb1 hl.2.2))
      have hl1 : HoldsL w1 w.heap.size ad n cap K := ⟨c0, c1, cl⟩
      have hR1 := (hR0.below hb1 (Nat.le_refl _)).mono hb1.size
      have HB1 := HB.trans (hb1.mono HB.size)
      clear hl HB hR0 hb1 hR c0 c1 cl
      refine (HP.out _ hR1).mono ?_
      rintro e w2 ⟨rfl, hb2⟩
      have hl2 := hl1.below hb2 hl1.2.2
      have hR2 := (hR1.below hb2 (Nat.le_refl _)).mono hb2.size
      have HB2 := HB1.trans (hb2.mono HB1.size)
      clear hl1 hR1 HB1 hb2
      obtain ⟨c0, c1, cl⟩ := id hl2
      go_wp2_with (first | (go_at_call 97; refine (HA.out _ hR2).mono ?_; rintro e w3 ⟨rfl, hb3⟩))
      go_ret
      exact ⟨by rw [HR.out]; rfl, HB2.trans (hb3.mono HB2.size)⟩
  · rw [decide_eq_false h1, Bool.false_or] at hRV
    have e1 : (way == 1) = false := by rw [beq_eq_false_iff_ne]; exact h1
    by_cases h2 : way = 2
    · subst h2
      rw [decide_eq_true rfl, Bool.true_or, Bool.true_or] at hRV
      cases A
      · rw [Bool.false_and] at hRV
        have HL : Hid (lgB size = lgB size) := Lib.hid rfl
        have HR := Lib.hid hRV
        clear hRV
        go_enter Try.func99, Try.ntmps99
        go_wp2_with (first | (go_at_call 115; refine (log_any size _).mono ?_; generalize lgB size = B at *; rintro e w1 ⟨rfl, hb1⟩; obtain ⟨c0, c1, cl⟩ := hl.below hb1 hl.2.2))
        have hl1 : HoldsL w1 w.heap.size ad n cap K := ⟨c0, c1, cl⟩
        have hR1 := (hR0.below hb1 (Nat.le_refl _)).mono hb1.size
        have HB1 := HB.trans (hb1.mono HB.size)
        clear hl HB hR0 hb1 hR c0 c1 cl
        refine (HP.out _ hR1).mono ?_
        rintro e w2 ⟨rfl, hb2⟩
        have hl2 := hl1.below hb2 hl1.2.2
        have hR2 := (hR1.below hb2 (Nat.le_refl _)).mono hb2.size
        have HB2 := HB1.trans (hb2.mono HB1.size)
        clear hl1 hR1 HB1 hb2
        obtain ⟨c0, c1, cl⟩ := id hl2
        go_wp2_with (first | (go_at_call 97; refine (HA.out _ hR2).mono ?_; rintro e w3 ⟨rfl, hb3⟩))
        go_ret
        exact ⟨by rw [HR.out]; rfl, HB2.trans (hb3.mono HB2.size)⟩
      · rw [Bool.true_and] at hRV
        have HL : Hid (lgB size = lgB size) := Lib.hid rfl
        have HR := Lib.hid hRV
        clear hRV
        go_enter Try.func99, Try.ntmps99
        go_wp2_with (first | (go_at_call 115; refine (log_any size _).mono ?_; generalize lgB size = B at *; rintro e w1 ⟨rfl, hb1⟩; obtain ⟨c0, c1, cl⟩ := hl.below hb1 hl.2.2))
        have hl1 : HoldsL w1 w.heap.size ad n cap K := ⟨c0, c1, cl⟩
        have hR1 := (hR0.below hb1 (Nat.le_refl _)).mono hb1.size
        have HB1 := HB.trans (hb1.mono HB.size)
        clear hl HB hR0 hb1 hR c0 c1 cl
        refine (HP.out _ hR1).mono ?_
        rintro e w2 ⟨rfl, hb2⟩
        have hl2 := hl1.below hb2 hl1.2.2
        have hR2 := (hR1.below hb2 (Nat.le_refl _)).mono hb2.size
        have HB2 := HB1.trans (hb2.mono HB1.size)
        clear hl1 hR1 HB1 hb2
        obtain ⟨c0, c1, cl⟩ := id hl2
        go_wp2_with (first | (go_at_call 97; refine (HA.out _ hR2).mono ?_; rintro e w3 ⟨rfl, hb3⟩))
        go_ret
        exact ⟨by rw [HR.out]; rfl, HB2.trans (hb3.mono HB2.size)⟩
    · rw [decide_eq_false h2, Bool.false_or] at hRV
      have e2 : (way == 2) = false := by rw [beq_eq_false_iff_ne]; exact h2
      by_cases h5 : way = 5
      · subst h5
        rw [decide_eq_true rfl, Bool.true_and] at hRV
        by_cases hF : F = 0
        · rw [decide_eq_true hF, Bool.true_or] at hRV
          subst hF
          cases A
          · rw [Bool.false_and] at hRV
            have HL : Hid (lgB size = lgB size) := Lib.hid rfl
            have HR := Lib.hid hRV
            clear hRV
            go_enter Try.func99, Try.ntmps99
            go_wp2_with (first | (go_at_call 115; refine (log_any size _).mono ?_; generalize lgB size = B at *; rintro e w1 ⟨rfl, hb1⟩; obtain ⟨c0, c1, cl⟩ := hl.below hb1 hl.2.2))
            have hl1 : HoldsL w1 w.heap.size ad n cap K := ⟨c0, c1, cl⟩
            have hR1 := (hR0.below hb1 (Nat.le_refl _)).mono hb1.size
            have HB1 := HB.trans (hb1.mono HB.size)
            clear hl HB hR0 hb1 hR c0 c1 cl
            refine (HP.out _ hR1).mono ?_
            rintro e w2 ⟨rfl, hb2⟩
            have hl2 := hl1.below hb2 hl1.2.2
            have hR2 := (hR1.below hb2 (Nat.le_refl _)).mono hb2.size
            have HB2 := HB1.trans (hb2.mono HB1.size)
            clear hl1 hR1 HB1 hb2
            obtain ⟨c0, c1, cl⟩ := id hl2
            go_wp2_with (first | (go_at_call 97; refine (HA.out _ hR2).mono ?_; rintro e w3 ⟨rfl, hb3⟩))
            go_ret
            exact ⟨by rw [HR.out]; rfl, HB2.trans (hb3.mono HB2.size)⟩
          · rw [Bool.true_and] at hRV
            have HL : Hid (lgB size = lgB size) := Lib.hid rfl
            have HR := Lib.hid hRV
            clear hRV
            go_enter Try.func99, Try.ntmps99
            go_wp2_with (first | (go_at_call 115; refine (log_any size _).mono ?_; generalize lgB size = B at *; rintro e w1 ⟨rfl, hb1⟩; obtain ⟨c0, c1, cl⟩ := hl.below hb1 hl.2.2))
            have hl1 : HoldsL w1 w.heap.size ad n cap K := ⟨c0, c1, cl⟩
            have hR1 := (hR0.below hb1 (Nat.le_refl _)).mono hb1.size
            have HB1 := HB.trans (hb1.mono HB.size)
            clear hl HB hR0 hb1 hR c0 c1 cl
            refine (HP.out _ hR1).mono ?_
            rintro e w2 ⟨rfl, hb2⟩
            have hl2 := hl1.below hb2 hl1.2.2
            have hR2 := (hR1.below hb2 (Nat.le_refl _)).mono hb2.size
            have HB2 := HB1.trans (hb2.mono HB1.size)
            clear hl1 hR1 HB1 hb2
            obtain ⟨c0, c1, cl⟩ := id hl2
            go_wp2_with (first | (go_at_call 97; refine (HA.out _ hR2).mono ?_; rintro e w3 ⟨rfl, hb3⟩))
            go_ret
            exact ⟨by rw [HR.out]; rfl, HB2.trans (hb3.mono HB2.size)⟩
        · rw [decide_eq_false hF, Bool.false_or] at hRV
          have e3 : (((F : Nat) : Int) == 0) = false := by rw [beq_eq_false_iff_ne]; omega
          cases A
          · rw [Bool.false_and] at hRV
            have HL : Hid (lgB size = lgB size) := Lib.hid rfl
            have HR := Lib.hid hRV
            clear hRV
            go_enter Try.func99, Try.ntmps99
            go_wp2_with (first | (go_at_call 115; refine (log_any size _).mono ?_; generalize lgB size = B at *; rintro e w1 ⟨rfl, hb1⟩; obtain ⟨c0, c1, cl⟩ := hl.below hb1 hl.2.2))
            have hl1 : HoldsL w1 w.heap.size ad n cap K := ⟨c0, c1, cl⟩
            have hR1 := (hR0.below hb1 (Nat.le_refl _)).mono hb1.size
            have HB1 := HB.trans (hb1.mono HB.size)
            clear hl HB hR0 hb1 hR c0 c1 cl
            refine (HP.out _ hR1).mono ?_
            rintro e w2 ⟨rfl, hb2⟩
            have hl2 := hl1.below hb2 hl1.2.2
            have hR2 := (hR1.below hb2 (Nat.le_refl _)).mono hb2.size
            have HB2 := HB1.trans (hb2.mono HB1.size)
            clear hl1 hR1 HB1 hb2
            obtain ⟨c0, c1, cl⟩ := id hl2
            go_wp2_with (first | (go_at_call 97; refine (HA.out _ hR2).mono ?_; rintro e w3 ⟨rfl, hb3⟩))
            go_ret
            exact ⟨by rw [HR.out]; rfl, HB2.trans (hb3.mono HB2.size)⟩
          · rw [Bool.true_and] at hRV
            by_cases hgt : nn < n
            · rw [decide_eq_true hgt, Bool.true_or] at hRV
              have hbd : badS n nn size = false := by unfold badS; rw [decide_eq_false (by omega)]; rfl
              have HBD := Lib.hid hbd
              clear hbd
              have hgt2 : ¬ ((n : Int) ≤ nn) := by omega
              have HL : Hid (lgB size = lgB size) := Lib.hid rfl
              have HR := Lib.hid hRV
              clear hRV
              go_enter Try.func99, Try.ntmps99
              go_wp2_with (first | (go_at_call 115; refine (log_any size _).mono ?_; generalize lgB size = B at *; rintro e w1 ⟨rfl, hb1⟩; obtain ⟨c0, c1, cl⟩ := hl.below hb1 hl.2.2))
              have hl1 : HoldsL w1 w.heap.size ad n cap K := ⟨c0, c1, cl⟩
              have hR1 := (hR0.below hb1 (Nat.le_refl _)).mono hb1.size
              have HB1 := HB.trans (hb1.mono HB.size)
              clear hl HB hR0 hb1 hR c0 c1 cl
              refine (HP.out _ hR1).mono ?_
              rintro e w2 ⟨rfl, hb2⟩
              have hl2 := hl1.below hb2 hl1.2.2
              have hR2 := (hR1.below hb2 (Nat.le_refl _)).mono hb2.size
              have HB2 := HB1.trans (hb2.mono HB1.size)
              clear hl1 hR1 HB1 hb2
              obtain ⟨c0, c1, cl⟩ := id hl2
              go_wp2_with (first | (go_at_call 97; refine (HA.out _ hR2).mono ?_; rintro e w3 ⟨rfl, hb3⟩))
              go_ret
              exact ⟨by rw [HR.out]; rfl, HB2.trans (hb3.mono HB2.size)⟩
            · rw [decide_eq_false hgt, Bool.false_or] at hRV
              have hle : (n : Int) ≤ nn := by omega
              have hle2 : decide (nn < (n : Int)) = false := decide_eq_false hgt
              have hbd : badS n nn size = !szB n size := by unfold badS; rw [decide_eq_true (by omega)]; rfl
              unfold szB at hRV hbd
              cases hlb : lgB size
              · rw [hlb, Bool.false_and] at hRV hbd
                have HBD := Lib.hid hbd
                clear hbd
                have HL := Lib.hid hlb
                clear hlb
                have HR := Lib.hid hRV
                clear hRV
                go_enter Try.func99, Try.ntmps99
                go_wp2_with (first | (go_at_call 115; refine (log_any size _).mono ?_; rw [HL.out]; rintro e w1 ⟨rfl, hb1⟩; obtain ⟨c0, c1, cl⟩ := hl.below hb1 hl.2.2))
                have hl1 : HoldsL w1 w.heap.size ad n cap K := ⟨c0, c1, cl⟩
                have hR1 := (hR0.below hb1 (Nat.le_refl _)).mono hb1.size
                have HB1 := HB.trans (hb1.mono HB.size)
                clear hl HB hR0 hb1 hR c0 c1 cl
                refine (HP.out _ hR1).mono ?_
                rintro e w2 ⟨rfl, hb2⟩
                have hl2 := hl1.below hb2 hl1.2.2
                have hR2 := (hR1.below hb2 (Nat.le_refl _)).mono hb2.size
                have HB2 := HB1.trans (hb2.mono HB1.size)
                clear hl1 hR1 HB1 hb2
                obtain ⟨c0, c1, cl⟩ := id hl2
                go_wp2_with (first | (go_at_call 97; refine (HA.out _ hR2).mono ?_; rintro e w3 ⟨rfl, hb3⟩))
                go_ret
                exact ⟨by rw [HR.out]; rfl, HB2.trans (hb3.mono HB2.size)⟩
              · rw [hlb, Bool.true_and] at hRV hbd
                by_cases hsz : (n : Int) ≤ size
                · rw [decide_eq_true hsz] at hRV hbd
                  have HBD := Lib.hid hbd
                  clear hbd
                  have HL := Lib.hid hlb
                  clear hlb
                  have HR := Lib.hid hRV
                  clear hRV
                  go_enter Try.func99, Try.ntmps99
                  go_wp2_with (first | (go_at_call 115; refine (log_any size _).mono ?_; rw [HL.out]; rintro e w1 ⟨rfl, hb1⟩; obtain ⟨c0, c1, cl⟩ := hl.below hb1 hl.2.2))
                  have hl1 : HoldsL w1 w.heap.size ad n cap K := ⟨c0, c1, cl⟩
                  have hR1 := (hR0.below hb1 (Nat.le_refl _)).mono hb1.size
                  have HB1 := HB.trans (hb1.mono HB.size)
                  clear hl HB hR0 hb1 hR c0 c1 cl
                  refine (HP.out _ hR1).mono ?_
                  rintro e w2 ⟨rfl, hb2⟩
                  have hl2 := hl1.below hb2 hl1.2.2
                  have hR2 := (hR1.below hb2 (Nat.le_refl _)).mono hb2.size
                  have HB2 := HB1.trans (hb2.mono HB1.size)
                  clear hl1 hR1 HB1 hb2
                  obtain ⟨c0, c1, cl⟩ := id hl2
                  go_wp2_with (first | (go_at_call 97; refine (HA.out _ hR2).mono ?_; rintro e w3 ⟨rfl, hb3⟩))
                  go_ret
                  exact ⟨by rw [HR.out]; rfl, HB2.trans (hb3.mono HB2.size)⟩
                · rw [decide_eq_false hsz] at hRV hbd
                  have hsz2 : decide ((n : Int) ≤ size) = false := decide_eq_false hsz
                  have HBD := Lib.hid hbd
                  clear hbd
                  have HL := Lib.hid hlb
                  clear hlb
                  have HR := Lib.hid hRV
                  clear hRV
                  go_enter Try.func99, Try.ntmps99
                  go_wp2_with (first | (go_at_call 115; refine (log_any size _).mono ?_; rw [HL.out]; rintro e w1 ⟨rfl, hb1⟩; obtain ⟨c0, c1, cl⟩ := hl.below hb1 hl.2.2))
                  have hl1 : HoldsL w1 w.heap.size ad n cap K := ⟨c0, c1, cl⟩
                  have hR1 := (hR0.below hb1 (Nat.le_refl _)).mono hb1.size
                  have HB1 := HB.trans (hb1.mono HB.size)
                  clear hl HB hR0 hb1 hR c0 c1 cl
                  refine (HP.out _ hR1).mono ?_
                  rintro e w2 ⟨rfl, hb2⟩
                  have hl2 := hl1.below hb2 hl1.2.2
                  have hR2 := (hR1.below hb2 (Nat.le_refl _)).mono hb2.size
                  have HB2 := HB1.trans (hb2.mono HB1.size)
                  clear hl1 hR1 HB1 hb2
                  obtain ⟨c0, c1, cl⟩ := id hl2
                  go_wp2_with (first | (go_at_call 97; refine (HA.out _ hR2).mono ?_; rintro e w3 ⟨rfl, hb3⟩))
                  go_ret
                  exact ⟨by rw [HR.out]; rfl, HB2.trans (hb3.mono HB2.size)⟩
      · rw [decide_eq_false h5, Bool.false_and, Bool.false_or] at hRV
        have e4 : (way == 5) = false := by rw [beq_eq_false_iff_ne]; exact h5
        cases A
        · rw [Bool.false_and] at hRV
          have HL : Hid (lgB size = lgB size) := Lib.hid rfl
          have HR := Lib.hid hRV
          clear hRV
          go_enter Try.func99, Try.ntmps99
          go_wp2_with (first | (go_at_call 115; refine (log_any size _).mono ?_; generalize lgB size = B at *; rintro e w1 ⟨rfl, hb1⟩; obtain ⟨c0, c1, cl⟩ := hl.below hb1 hl.2.2))
          have hl1 : HoldsL w1 w.heap.size ad n cap K := ⟨c0, c1, cl⟩
          have hR1 := (hR0.below hb1 (Nat.le_refl _)).mono hb1.size
          have HB1 := HB.trans (hb1.mono HB.size)
          clear hl HB hR0 hb1 hR c0 c1 cl
          refine (HP.out _ hR1).mono ?_
          rintro e w2 ⟨rfl, hb2⟩
          have hl2 := hl1.below hb2 hl1.2.2
          have hR2 := (hR1.below hb2 (Nat.le_refl _)).mono hb2.size
          have HB2 := HB1.trans (hb2.mono HB1.size)
          clear hl1 hR1 HB1 hb2
          obtain ⟨c0, c1, cl⟩ := id hl2
          go_wp2_with (first | (go_at_call 97; refine (HA.out _ hR2).mono ?_; rintro e w3 ⟨rfl, hb3⟩))
          go_ret
          exact ⟨by rw [HR.out]; rfl, HB2.trans (hb3.mono HB2.size)⟩
        · rw [Bool.true_and] at hRV
          by_cases hgt : nn < n
          · rw [decide_eq_true hgt, Bool.true_or] at hRV
            have hbd : badS n nn size = false := by unfold badS; rw [decide_eq_false (by omega)]; rfl
            have HBD := Lib.hid hbd
            clear hbd
            have hgt2 : ¬ ((n : Int) ≤ nn) := by omega
            have HL : Hid (lgB size = lgB size) := Lib.hid rfl
            have HR := Lib.hid hRV
            clear hRV
            go_enter Try.func99, Try.ntmps99
            go_wp2_with (first | (go_at_call 115; refine (log_any size _).mono ?_; generalize lgB size = B at *; rintro e w1 ⟨rfl, hb1⟩; obtain ⟨c0, c1, cl⟩ := hl.below hb1 hl.2.2))
            have hl1 : HoldsL w1 w.heap.size ad n cap K := ⟨c0, c1, cl⟩
            have hR1 := (hR0.below hb1 (Nat.le_refl _)).mono hb1.size
            have HB1 := HB.trans (hb1.mono HB.size)
            clear hl HB hR0 hb1 hR c0 c1 cl
            refine (HP.out _ hR1).mono ?_
            rintro e w2 ⟨rfl, hb2⟩
            have hl2 := hl1.below hb2 hl1.2.2
            have hR2 := (hR1.below hb2 (Nat.le_refl _)).mono hb2.size
            have HB2 := HB1.trans (hb2.mono HB1.size)
            clear hl1 hR1 HB1 hb2
            obtain ⟨c0, c1, cl⟩ := id hl2
            go_wp2_with (first | (go_at_call 97; refine (HA.out _ hR2).mono ?_; rintro e w3 ⟨rfl, hb3⟩))
            go_ret
            exact ⟨by rw [HR.out]; rfl, HB2.trans (hb3.mono HB2.size)⟩
          · rw [decide_eq_false hgt, Bool.false_or] at hRV
            have hle : (n : Int) ≤ nn := by omega
            have hle2 : decide (nn < (n : Int)) = false := decide_eq_false hgt
            have hbd : badS n nn size = !szB n size := by unfold badS; rw [decide_eq_true (by omega)]; rfl
            unfold szB at hRV hbd
            cases hlb : lgB size
            · rw [hlb, Bool.false_and] at hRV hbd
              have HBD := Lib.hid hbd
              clear hbd
              have HL := Lib.hid hlb
              clear hlb
              have HR := Lib.hid hRV
              clear hRV
              go_enter Try.func99, Try.ntmps99
              go_wp2_with (first | (go_at_call 115; refine (log_any size _).mono ?_; rw [HL.out]; rintro e w1 ⟨rfl, hb1⟩; obtain ⟨c0, c1, cl⟩ := hl.below hb1 hl.2.2))
              have hl1 : HoldsL w1 w.heap.size ad n cap K := ⟨c0, c1, cl⟩
              have hR1 := (hR0.below hb1 (Nat.le_refl _)).mono hb1.size
              have HB1 := HB.trans (hb1.mono HB.size)
              clear hl HB hR0 hb1 hR c0 c1 cl
              refine (HP.out _ hR1).mono ?_
              rintro e w2 ⟨rfl, hb2⟩
              have hl2 := hl1.below hb2 hl1.2.2
              have hR2 := (hR1.below hb2 (Nat.le_refl _)).mono hb2.size
              have HB2 := HB1.trans (hb2.mono HB1.size)
              clear hl1 hR1 HB1 hb2
              obtain ⟨c0, c1, cl⟩ := id hl2
              go_wp2_with (first | (go_at_call 97; refine (HA.out _ hR2).mono ?_; rintro e w3 ⟨rfl, hb3⟩))
              go_ret
              exact ⟨by rw [HR.out]; rfl, HB2.trans (hb3.mono HB2.size)⟩
            · rw [hlb, Bool.true_and] at hRV hbd
              by_cases hsz : (n : Int) ≤ size
              · rw [decide_eq_true hsz] at hRV hbd
                have HBD := Lib.hid hbd
                clear hbd
                have HL := Lib.hid hlb
                clear hlb
                have HR := Lib.hid hRV
                clear hRV
                go_enter Try.func99, Try.ntmps99
                go_wp2_with (first | (go_at_call 115; refine (log_any size _).mono ?_; rw [HL.out]; rintro e w1 ⟨rfl, hb1⟩; obtain ⟨c0, c1, cl⟩ := hl.below hb1 hl.2.2))
                have hl1 : HoldsL w1 w.heap.size ad n cap K := ⟨c0, c1, cl⟩
                have hR1 := (hR0.below hb1 (Nat.le_refl _)).mono hb1.size
                have HB1 := HB.trans (hb1.mono HB.size)
                clear hl HB hR0 hb1 hR c0 c1 cl
                refine (HP.out _ hR1).mono ?_
                rintro e w2 ⟨rfl, hb2⟩
                have hl2 := hl1.below hb2 hl1.2.2
                have hR2 := (hR1.below hb2 (Nat.le_refl _)).mono hb2.size
                have HB2 := HB1.trans (hb2.mono HB1.size)
                clear hl1 hR1 HB1 hb2
                obtain ⟨c0, c1, cl⟩ := id hl2
                go_wp2_with (first | (go_at_call 97; refine (HA.out _ hR2).mono ?_; rintro e w3 ⟨rfl, hb3⟩))
                go_ret
                exact ⟨by rw [HR.out]; rfl, HB2.trans (hb3.mono HB2.size)⟩
              · rw [decide_eq_false hsz] at hRV hbd
                have hsz2 : decide ((n : Int) ≤ size) = false := decide_eq_false hsz
                have HBD := Lib.hid hbd
                clear hbd
                have HL := Lib.hid hlb
                clear hlb
                have HR := Lib.hid hRV
                clear hRV
                go_enter Try.func99, Try.ntmps99
                go_wp2_with (first | (go_at_call 115; refine (log_any size _).mono ?_; rw [HL.out]; rintro e w1 ⟨rfl, hb1⟩; obtain ⟨c0, c1, cl⟩ := hl.below hb1 hl.2.2))
                have hl1 : HoldsL w1 w.heap.size ad n cap K := ⟨c0, c1, cl⟩
                have hR1 := (hR0.below hb1 (Nat.le_refl _)).mono hb1.size
                have HB1 := HB.trans (hb1.mono HB.size)
                clear hl HB hR0 hb1 hR c0 c1 cl
                refine (HP.out _ hR1).mono ?_
                rintro e w2 ⟨rfl, hb2⟩
                have hl2 := hl1.below hb2 hl1.2.2
                have hR2 := (hR1.below hb2 (Nat.le_refl _)).mono hb2.size
                have HB2 := HB1.trans (hb2.mono HB1.size)
                clear hl1 hR1 HB1 hb2
                obtain ⟨c0, c1, cl⟩ := id hl2
                go_wp2_with (first | (go_at_call 97; refine (HA.out _ hR2).mono ?_; rintro e w3 ⟨rfl, hb3⟩))
                go_ret
                exact ⟨by rw [HR.out]; rfl, HB2.trans (hb3.mono HB2.size)⟩

set_option maxRecDepth 100000 in
set_option maxHeartbeats 4000000 in
theorem rszd_any (way : Int) (ad : Option Addr) (n cap : Nat) (K : Int) (L : Nat → Nat → Bool) (hn : (n : Int) ≤ 1000) (nn size : Int) (w : World) (hR : RowC w ad n L w.heap.size) :
    Calls Try.prog 100 #[.int .i64 way, lv ad n cap K, .int .i64 nn, .int .i64 size] w fun e w' => e = .returned (.bool (sdB way nn size K L n)) ∧ Below w.heap.size w w' := by
  have hl := HoldsL.new w ad n cap K
  have HB : Below w.heap.size w (w.alloc (.cells #[.slice ad n cap, .int .i64 K] 43)) := (Below.refl _ _).alloc (Nat.le_refl _) _
  have hR0 := (hR.below HB (Nat.le_refl _)).mono HB.size
  have ha := fun w' h' => radmits_any way ad n cap K L hn w' h'
  have hp := fun w' h' => rparts_any ad n cap K L hn w' h'
  have hfl := frq_le L n
  obtain ⟨R, hRV⟩ : ∃ x, x = sdB way nn size K L n := ⟨_, rfl⟩
  rw [← hRV]
  unfold sdB frB at hRV
  generalize admB way K L n = A at ha hRV
  generalize frq L n = F at hp hfl hRV
  generalize rst L n = RS at hp
  have HA := Lib.hid ha
  have HP := Lib.hid hp
  clear ha hp
  by_cases h1 : way = 1
  · subst h1
    rw [decide_eq_true rfl, Bool.true_or, Bool.true_or] at hRV
    cases A
    · rw [Bool.false_and] at hRV
      have HR := Lib.hid hRV
      clear hRV
      go_enter Try.func100, Try.ntmps100
      go_wp2_with fail
      refine (HA.out _ hR0).mono ?_
      rintro e w1 ⟨rfl, hb1⟩
      go_wp2
      go_ret
      exact ⟨by rw [HR.out]; rfl, HB.trans (hb1.mono HB.size)⟩
    · rw [Bool.true_and] at hRV
      have HR := Lib.hid hRV
      clear hRV
      go_enter Try.func100, Try.ntmps100
      go_wp2_with fail
      refine (HA.out _ hR0).mono ?_
      rintro e w1 ⟨rfl, hb1⟩
      have hl1 := hl.below hb1 hl.2.2
      have hR1 := (hR0.below hb1 (Nat.le_refl _)).mono hb1.size
      have HB1 := HB.trans (hb1.mono HB.size)
      clear hl HB hR0 hb1 hR
      obtain ⟨c0, c1, cl⟩ := id hl1
      go_wp2_with fail
      refine (HP.out _ hR1).mono ?_
      rintro e w2 ⟨rfl, hb2⟩
      have hl2 := hl1.below hb2 hl1.2.2
      have HB2 := HB1.trans (hb2.mono HB1.size)
      clear hl1 hR1 HB1 hb2 c0 c1 cl
      obtain ⟨c0, c1, cl⟩ := id hl2
      go_wp2_with fail
      try rw [Exit.noGoto_ret]
      go_ret
      exact ⟨by rw [HR.out]; rfl, HB2⟩
  · rw [decide_eq_false h1, Bool.false_or] at hRV
    have e1 : (way == 1) = false := by rw [beq_eq_false_iff_ne]; exact h1
    by_cases h2 : way = 2
    · subst h2
      rw [decide_eq_true rfl, Bool.true_or, Bool.true_or] at hRV
      cases A
      · rw [Bool.false_and] at hRV
        have HR := Lib.hid hRV
        clear hRV
        go_enter Try.func100, Try.ntmps100
        go_wp2_with fail
        refine (HA.out _ hR0).mono ?_
        rintro e w1 ⟨rfl, hb1⟩
        go_wp2
        go_ret
        exact ⟨by rw [HR.out]; rfl, HB.trans (hb1.mono HB.size)⟩
      · rw [Bool.true_and] at hRV
        have HR := Lib.hid hRV
        clear hRV
        go_enter Try.func100, Try.ntmps100
        go_wp2_with fail
        refine (HA.out _ hR0).mono ?_
        rintro e w1 ⟨rfl, hb1⟩
        have hl1 := hl.below hb1 hl.2.2
        have hR1 := (hR0.below hb1 (Nat.le_refl _)).mono hb1.size
        have HB1 := HB.trans (hb1.mono HB.size)
        clear hl HB hR0 hb1 hR
        obtain ⟨c0, c1, cl⟩ := id hl1
        go_wp2_with fail
        refine (HP.out _ hR1).mono ?_
        rintro e w2 ⟨rfl, hb2⟩
        have hl2 := hl1.below hb2 hl1.2.2
        have HB2 := HB1.trans (hb2.mono HB1.size)
        clear hl1 hR1 HB1 hb2 c0 c1 cl
        obtain ⟨c0, c1, cl⟩ := id hl2
        go_wp2_with fail
        try rw [Exit.noGoto_ret]
        go_ret
        exact ⟨by rw [HR.out]; rfl, HB2⟩
    · rw [decide_eq_false h2, Bool.false_or] at hRV
      have e2 : (way == 2) = false := by rw [beq_eq_false_iff_ne]; exact h2
      by_cases h5 : way = 5
      · subst h5
        rw [decide_eq_true rfl, Bool.true_and] at hRV
        by_cases hF : F = 0
        · rw [decide_eq_true hF, Bool.true_or] at hRV
          subst hF
          cases A
          · rw [Bool.false_and] at hRV
            have HR := Lib.hid hRV
            clear hRV
            go_enter Try.func100, Try.ntmps100
            go_wp2_with fail
            refine (HA.out _ hR0).mono ?_
            rintro e w1 ⟨rfl, hb1⟩
            go_wp2
            go_ret
            exact ⟨by rw [HR.out]; rfl, HB.trans (hb1.mono HB.size)⟩
          · rw [Bool.true_and] at hRV
            have HR := Lib.hid hRV
            clear hRV
            go_enter Try.func100, Try.ntmps100
            go_wp2_with fail
            refine (HA.out _ hR0).mono ?_
            rintro e w1 ⟨rfl, hb1⟩
            have hl1 := hl.below hb1 hl.2.2
            have hR1 := (hR0.below hb1 (Nat.le_refl _)).mono hb1.size
            have HB1 := HB.trans (hb1.mono HB.size)
            clear hl HB hR0 hb1 hR
            obtain ⟨c0, c1, cl⟩ := id hl1
            go_wp2_with fail
            refine (HP.out _ hR1).mono ?_
            rintro e w2 ⟨rfl, hb2⟩
            have hl2 := hl1.below hb2 hl1.2.2
            have HB2 := HB1.trans (hb2.mono HB1.size)
            clear hl1 hR1 HB1 hb2 c0 c1 cl
            obtain ⟨c0, c1, cl⟩ := id hl2
            go_wp2_with fail
            try rw [Exit.noGoto_ret]
            go_ret
            exact ⟨by rw [HR.out]; rfl, HB2⟩
        · rw [decide_eq_false hF, Bool.false_or] at hRV
          have e3 : (((F : Nat) : Int) == 0) = false := by rw [beq_eq_false_iff_ne]; omega
          cases A
          · rw [Bool.false_and] at hRV
            have HR := Lib.hid hRV
            clear hRV
            go_enter Try.func100, Try.ntmps100
            go_wp2_with fail
            refine (HA.out _ hR0).mono ?_
            rintro e w1 ⟨rfl, hb1⟩
            go_wp2
            go_ret
            exact ⟨by rw [HR.out]; rfl, HB.trans (hb1.mono HB.size)⟩
          · rw [Bool.true_and] at hRV
            by_cases hgt : nn < n
            · rw [decide_eq_true hgt, Bool.true_or] at hRV
              have hbd : badS n nn size = false := by unfold badS; rw [decide_eq_false (by omega)]; rfl
              have HBD := Lib.hid hbd
              clear hbd
              have hgt2 : ¬ ((n : Int) ≤ nn) := by omega
              have HR := Lib.hid hRV
              clear hRV
              go_enter Try.func100, Try.ntmps100
              go_wp2_with fail
              refine (HA.out _ hR0).mono ?_
              rintro e w1 ⟨rfl, hb1⟩
              have hl1 := hl.below hb1 hl.2.2
              have hR1 := (hR0.below hb1 (Nat.le_refl _)).mono hb1.size
              have HB1 := HB.trans (hb1.mono HB.size)
              clear hl HB hR0 hb1 hR
              obtain ⟨c0, c1, cl⟩ := id hl1
              go_wp2_with fail
              refine (HP.out _ hR1).mono ?_
              rintro e w2 ⟨rfl, hb2⟩
              have hl2 := hl1.below hb2 hl1.2.2
              have HB2 := HB1.trans (hb2.mono HB1.size)
              clear hl1 hR1 HB1 hb2 c0 c1 cl
              obtain ⟨c0, c1, cl⟩ := id hl2
              go_wp2_with (first | (go_at_call 116; refine (rbad_any n nn size _).mono ?_; rw [HBD.out]; rintro e w3 ⟨rfl, hb3⟩))
              go_ret
              exact ⟨by rw [HR.out]; rfl, HB2.trans (hb3.mono HB2.size)⟩
            · rw [decide_eq_false hgt, Bool.false_or] at hRV
              have hle : (n : Int) ≤ nn := by omega
              have hle2 : decide (nn < (n : Int)) = false := decide_eq_false hgt
              have hbd : badS n nn size = !szB n size := by unfold badS; rw [decide_eq_true (by omega)]; rfl
              unfold szB at hRV hbd
              cases hlb : lgB size
              · rw [hlb, Bool.false_and] at hRV hbd
                have HBD := Lib.hid hbd
                clear hbd
                have HL := Lib.hid hlb
                clear hlb
                have HR := Lib.hid hRV
                clear hRV
                go_enter Try.func100, Try.ntmps100
                go_wp2_with fail
                refine (HA.out _ hR0).mono ?_
                rintro e w1 ⟨rfl, hb1⟩
                have hl1 := hl.below hb1 hl.2.2
                have hR1 := (hR0.below hb1 (Nat.le_refl _)).mono hb1.size
                have HB1 := HB.trans (hb1.mono HB.size)
                clear hl HB hR0 hb1 hR
                obtain ⟨c0, c1, cl⟩ := id hl1
                go_wp2_with fail
                refine (HP.out _ hR1).mono ?_
                rintro e w2 ⟨rfl, hb2⟩
                have hl2 := hl1.below hb2 hl1.2.2
                have HB2 := HB1.trans (hb2.mono HB1.size)
                clear hl1 hR1 HB1 hb2 c0 c1 cl
                obtain ⟨c0, c1, cl⟩ := id hl2
                go_wp2_with (first | (go_at_call 116; refine (rbad_any n nn size _).mono ?_; rw [HBD.out]; rintro e w3 ⟨rfl, hb3⟩))
                go_ret
                exact ⟨by rw [HR.out]; rfl, HB2.trans (hb3.mono HB2.size)⟩
              · rw [hlb, Bool.true_and] at hRV hbd
                by_cases hsz : (n : Int) ≤ size
                · rw [decide_eq_true hsz] at hRV hbd
                  have HBD := Lib.hid hbd
                  clear hbd
                  have HL := Lib.hid hlb
                  clear hlb
                  have HR := Lib.hid hRV
                  clear hRV
                  go_enter Try.func100, Try.ntmps100
                  go_wp2_with fail
                  refine (HA.out _ hR0).mono ?_
                  rintro e w1 ⟨rfl, hb1⟩
                  have hl1 := hl.below hb1 hl.2.2
                  have hR1 := (hR0.below hb1 (Nat.le_refl _)).mono hb1.size
                  have HB1 := HB.trans (hb1.mono HB.size)
                  clear hl HB hR0 hb1 hR
                  obtain ⟨c0, c1, cl⟩ := id hl1
                  go_wp2_with fail
                  refine (HP.out _ hR1).mono ?_
                  rintro e w2 ⟨rfl, hb2⟩
                  have hl2 := hl1.below hb2 hl1.2.2
                  have HB2 := HB1.trans (hb2.mono HB1.size)
                  clear hl1 hR1 HB1 hb2 c0 c1 cl
                  obtain ⟨c0, c1, cl⟩ := id hl2
                  go_wp2_with (first | (go_at_call 116; refine (rbad_any n nn size _).mono ?_; rw [HBD.out]; rintro e w3 ⟨rfl, hb3⟩))
                  go_ret
                  exact ⟨by rw [HR.out]; rfl, HB2.trans (hb3.mono HB2.size)⟩
                · rw [decide_eq_false hsz] at hRV hbd
                  have hsz2 : decide ((n : Int) ≤ size) = false := decide_eq_false hsz
                  have HBD := Lib.hid hbd
                  clear hbd
                  have HL := Lib.hid hlb
                  clear hlb
                  have HR := Lib.hid hRV
                  clear hRV
                  go_enter Try.func100, Try.ntmps100
                  go_wp2_with fail
                  refine (HA.out _ hR0).mono ?_
                  rintro e w1 ⟨rfl, hb1⟩
                  have hl1 := hl.below hb1 hl.2.2
                  have hR1 := (hR0.below hb1 (Nat.le_refl _)).mono hb1.size
                  have HB1 := HB.trans (hb1.mono HB.size)
                  clear hl HB hR0 hb1 hR
                  obtain ⟨c0, c1, cl⟩ := id hl1
                  go_wp2_with fail
                  refine (HP.out _ hR1).mono ?_
                  rintro e w2 ⟨rfl, hb2⟩
                  have hl2 := hl1.below hb2 hl1.2.2
                  have HB2 := HB1.trans (hb2.mono HB1.size)
                  clear hl1 hR1 HB1 hb2 c0 c1 cl
                  obtain ⟨c0, c1, cl⟩ := id hl2
                  go_wp2_with (first | (go_at_call 116; refine (rbad_any n nn size _).mono ?_; rw [HBD.out]; rintro e w3 ⟨rfl, hb3⟩))
                  go_ret
                  exact ⟨by rw [HR.out]; rfl, HB2.trans (hb3.mono HB2.size)⟩
      · rw [decide_eq_false h5, Bool.false_and, Bool.false_or] at hRV
        have e4 : (way == 5) = false := by rw [beq_eq_false_iff_ne]; exact h5
        cases A
        · rw [Bool.false_and] at hRV
          have HR := Lib.hid hRV
          clear hRV
          go_enter Try.func100, Try.ntmps100
          go_wp2_with fail
          refine (HA.out _ hR0).mono ?_
          rintro e w1 ⟨rfl, hb1⟩
          go_wp2
          go_ret
          exact ⟨by rw [HR.out]; rfl, HB.trans (hb1.mono HB.size)⟩
        · rw [Bool.true_and] at hRV
          by_cases hgt : nn < n
          · rw [decide_eq_true hgt, Bool.true_or] at hRV
            have hbd : badS n nn size = false := by unfold badS; rw [decide_eq_false (by omega)]; rfl
            have HBD := Lib.hid hbd
            clear hbd
            have hgt2 : ¬ ((n : Int) ≤ nn) := by omega
            have HR := Lib.hid hRV
            clear hRV
            go_enter Try.func100, Try.ntmps100
            go_wp2_with fail
            refine (HA.out _ hR0).mono ?_
            rintro e w1 ⟨rfl, hb1⟩
            have hl1 := hl.below hb1 hl.2.2
            have hR1 := (hR0.below hb1 (Nat.le_refl _)).mono hb1.size
            have HB1 := HB.trans (hb1.mono HB.size)
            clear hl HB hR0 hb1 hR
            obtain ⟨c0, c1, cl⟩ := id hl1
            go_wp2_with fail
            refine (HP.out _ hR1).mono ?_
            rintro e w2 ⟨rfl, hb2⟩
            have hl2 := hl1.below hb2 hl1.2.2
            have HB2 := HB1.trans (hb2.mono HB1.size)
            clear hl1 hR1 HB1 hb2 c0 c1 cl
            obtain ⟨c0, c1, cl⟩ := id hl2
            go_wp2_with (first | (go_at_call 116; refine (rbad_any n nn size _).mono ?_; rw [HBD.out]; rintro e w3 ⟨rfl, hb3⟩))
            go_ret
            exact ⟨by rw [HR.out]; rfl, HB2.trans (hb3.mono HB2.size)⟩
          · rw [decide_eq_false hgt, Bool.false_or] at hRV
            have hle : (n : Int) ≤ nn := by omega
            have hle2 : decide (nn < (n : Int)) = false := decide_eq_false hgt
            have hbd : badS n nn size = !szB n size := by unfold badS; rw [decide_eq_true (by omega)]; rfl
            unfold szB at hRV hbd
            cases hlb : lgB size
            · rw [hlb, Bool.false_and] at hRV hbd
              have HBD := Lib.hid hbd
              clear hbd
              have HL := Lib.hid hlb
              clear hlb
              have HR := Lib.hid hRV
              clear hRV
              go_enter Try.func100, Try.ntmps100
              go_wp2_with fail
              refine (HA.out _ hR0).mono ?_
              rintro e w1 ⟨rfl, hb1⟩
              have hl1 := hl.below hb1 hl.2.2
              have hR1 := (hR0.below hb1 (Nat.le_refl _)).mono hb1.size
              have HB1 := HB.trans (hb1.mono HB.size)
              clear hl HB hR0 hb1 hR
              obtain ⟨c0, c1, cl⟩ := id hl1
              go_wp2_with fail
              refine (HP.out _ hR1).mono ?_
              rintro e w2 ⟨rfl, hb2⟩
              have hl2 := hl1.below hb2 hl1.2.2
              have HB2 := HB1.trans (hb2.mono HB1.size)
              clear hl1 hR1 HB1 hb2 c0 c1 cl
              obtain ⟨c0, c1, cl⟩ := id hl2
              go_wp2_with (first | (go_at_call 116; refine (rbad_any n nn size _).mono ?_; rw [HBD.out]; rintro e w3 ⟨rfl, hb3⟩))
              go_ret
              exact ⟨by rw [HR.out]; rfl, HB2.trans (hb3.mono HB2.size)⟩
            · rw [hlb, Bool.true_and] at hRV hbd
              by_cases hsz : (n : Int) ≤ size
              · rw [decide_eq_true hsz] at hRV hbd
                have HBD := Lib.hid hbd
                clear hbd
                have HL := Lib.hid hlb
                clear hlb
                have HR := Lib.hid hRV
                clear hRV
                go_enter Try.func100, Try.ntmps100
                go_wp2_with fail
                refine (HA.out _ hR0).mono ?_
                rintro e w1 ⟨rfl, hb1⟩
                have hl1 := hl.below hb1 hl.2.2
                have hR1 := (hR0.below hb1 (Nat.le_refl _)).mono hb1.size
                have HB1 := HB.trans (hb1.mono HB.size)
                clear hl HB hR0 hb1 hR
                obtain ⟨c0, c1, cl⟩ := id hl1
                go_wp2_with fail
                refine (HP.out _ hR1).mono ?_
                rintro e w2 ⟨rfl, hb2⟩
                have hl2 := hl1.below hb2 hl1.2.2
                have HB2 := HB1.trans (hb2.mono HB1.size)
                clear hl1 hR1 HB1 hb2 c0 c1 cl
                obtain ⟨c0, c1, cl⟩ := id hl2
                go_wp2_with (first | (go_at_call 116; refine (rbad_any n nn size _).mono ?_; rw [HBD.out]; rintro e w3 ⟨rfl, hb3⟩))
                go_ret
                exact ⟨by rw [HR.out]; rfl, HB2.trans (hb3.mono HB2.size)⟩
              · rw [decide_eq_false hsz] at hRV hbd
                have hsz2 : decide ((n : Int) ≤ size) = false := decide_eq_false hsz
                have HBD := Lib.hid hbd
                clear hbd
                have HL := Lib.hid hlb
                clear hlb
                have HR := Lib.hid hRV
                clear hRV
                go_enter Try.func100, Try.ntmps100
                go_wp2_with fail
                refine (HA.out _ hR0).mono ?_
                rintro e w1 ⟨rfl, hb1⟩
                have hl1 := hl.below hb1 hl.2.2
                have hR1 := (hR0.below hb1 (Nat.le_refl _)).mono hb1.size
                have HB1 := HB.trans (hb1.mono HB.size)
                clear hl HB hR0 hb1 hR
                obtain ⟨c0, c1, cl⟩ := id hl1
                go_wp2_with fail
                refine (HP.out _ hR1).mono ?_
                rintro e w2 ⟨rfl, hb2⟩
                have hl2 := hl1.below hb2 hl1.2.2
                have HB2 := HB1.trans (hb2.mono HB1.size)
                clear hl1 hR1 HB1 hb2 c0 c1 cl
                obtain ⟨c0, c1, cl⟩ := id hl2
                go_wp2_with (first | (go_at_call 116; refine (rbad_any n nn size _).mono ?_; rw [HBD.out]; rintro e w3 ⟨rfl, hb3⟩))
                go_ret
                exact ⟨by rw [HR.out]; rfl, HB2.trans (hb3.mono HB2.size)⟩
end Go.Proofs.Ytkhcjjdamphbfaa
