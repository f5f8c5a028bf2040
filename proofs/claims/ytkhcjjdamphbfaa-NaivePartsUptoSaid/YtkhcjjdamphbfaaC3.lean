/- Walk of class.Single. -/
import Derived.Test.YtkhcjjdamphbfaaC2
namespace Go.Proofs.Ytkhcjjdamphbfaa
open Go.RowKit

theorem with0_any (b : Int) (h0 : 0 ≤ b) (h1 : b ≤ 255) (w : World) :
    Calls Try.prog 105 #[.agg #[.int .u64 0, .int .u64 0, .int .u64 0, .int .u64 0], .int .u8 b] w fun e w' => e = .returned (cv (upd noByte b.toNat)) ∧ Below w.heap.size w w' := by
  have h := with_any noByte b h0 h1 w
  rw [cv0] at h
  exact h

/-- The one byte of a class; 0, if it has not just one. -/
def sgl (S : Nat → Bool) : Nat := if one S then first S else 0
theorem sgl_yes {S : Nat → Bool} (h : one S = true) : sgl S = first S := by unfold sgl; rw [if_pos h]
theorem sgl_no {S : Nat → Bool} (h : one S = false) : sgl S = 0 := by unfold sgl; rw [if_neg (by simp [h])]
theorem one_eq (S : Nat → Bool) (k : Nat) (hk : first S = k) (hl : k < 256) : clsEq S (upd noByte k) = one S := by
  rw [Bool.eq_iff_iff, clsEq_iff]
  unfold one
  rw [decide_eq_true_eq, one_iff, hk]
  constructor
  · intro h
    exact ⟨hl, fun n hn => by rw [h n hn]; simp [upd, noByte]⟩
  · intro h n hn
    rw [h.2 n hn]; simp [upd, noByte]
theorem one_none (S : Nat → Bool) (h : first S = 256) : one S = false := by
  unfold one
  rw [decide_eq_false_iff_not, one_iff]
  omega

set_option maxHeartbeats 1000000 in
set_option maxRecDepth 100000 in
theorem single_any (S : Nat → Bool) (w : World) :
    Calls Try.prog 44 #[cv S] w fun e w' => e = .returned (.tuple #[.int .u8 (sgl S), .bool (one S)]) ∧ Below w.heap.size w w' := by
  go_enter Try.func44, Try.ntmps44
  go_wp2
  have H0 := HoldsC.new w S
  obtain ⟨W0, hW0⟩ : ∃ W0 : World, w.alloc (.cells #[.int .u64 (wd S 0 : Nat), .int .u64 (wd S 1 : Nat), .int .u64 (wd S 2 : Nat), .int .u64 (wd S 3 : Nat)] 26) = W0 := ⟨_, rfl⟩
  have HB : Below w.heap.size w W0 := by subst hW0; exact (Below.refl _ _).alloc (Nat.le_refl _) _
  have hsz : w.heap.size + 1 ≤ W0.heap.size := by subst hW0; simp
  rw [hW0] at H0 ⊢
  clear hW0
  go_loopw [6] (fun i wr => ∃ k : Nat, k ≤ 256 ∧ i = .int .i64 k ∧ Hid (∀ n, n < k → S n = false) ∧ Below (w.heap.size + 1) W0 wr) (fun i _ => 256 - (intOf i).toNat)
  case atStart => exact ⟨0, by omega, rfl, fun n hn => absurd hn (by omega), Below.refl _ _⟩
  case round =>
    obtain ⟨k, hk, rfl, hno, hb⟩ := hrel
    have hc := H0.below hb (by omega)
    obtain ⟨⟨c0, c1, c2, c3⟩, ⟨f0, f1, f2, f3⟩, hl⟩ := hc
    by_cases hlt : k < 256
    · cases HS : S k
      · go_wp2_with (go_at_call 46; refine (has_any S _ (by omega) (by omega) _).mono ?_; rintro e w1 ⟨rfl, hb1⟩; obtain ⟨hc1, hf1, hz1, -⟩ := Old.of hb1)
        refine ⟨⟨k + 1, by omega, by go_num, fun n hn => ?_, hb.trans (hb1.mono (by omega))⟩, by simp [intOf]; omega⟩
        by_cases he : n = k
        · subst he; exact HS
        · exact hno.out n (by omega)
      · have hfirst : first S = k := first_eq S k hk (fun _ => HS) hno.out
        have ho := one_eq S k hfirst hlt
        have HF := Lib.hid hfirst
        clear hfirst
        cases hone : one S
        · have HO := Lib.hid hone
          rw [hone] at ho
          clear hone
          go_wp2_with (go_at_call 46; refine (has_any S _ (by omega) (by omega) _).mono ?_; rintro e w1 ⟨rfl, hb1⟩; obtain ⟨hc1, hf1, hz1, -⟩ := Old.of hb1; have hl1 : w.heap.size < w1.heap.size := by omega)
          have hwk : IntKind.u8.wrap (k : Int) = k := IntWalk.u8_in _ (by omega)
          go_region_held3 (fun w' => Old w1 w') (first | exact Old.start _ | exact Old.calld (Old.refl _) (by assumption) | exact Old.call (by assumption) (by assumption)) (first | (go_at_call 105; refine (with0_any _ (by omega) (by omega) _).mono ?_; rintro e w2 ⟨rfl, hb2⟩))
          go_wp2
          go_ret2
          exact ⟨by rw [sgl_no HO.out, HO.out]; rfl, HB.trans (((hb.trans (hb1.mono (by omega))).trans ((Old.calld (Old.refl w1) hb2).2.2.2.mono (by omega))).mono (by omega))⟩
        · have HO := Lib.hid hone
          rw [hone] at ho
          clear hone
          go_wp2_with (go_at_call 46; refine (has_any S _ (by omega) (by omega) _).mono ?_; rintro e w1 ⟨rfl, hb1⟩; obtain ⟨hc1, hf1, hz1, -⟩ := Old.of hb1; have hl1 : w.heap.size < w1.heap.size := by omega)
          have hwk : IntKind.u8.wrap (k : Int) = k := IntWalk.u8_in _ (by omega)
          go_region_held3 (fun w' => Old w1 w') (first | exact Old.start _ | exact Old.calld (Old.refl _) (by assumption) | exact Old.call (by assumption) (by assumption)) (first | (go_at_call 105; refine (with0_any _ (by omega) (by omega) _).mono ?_; rintro e w2 ⟨rfl, hb2⟩))
          go_wp2
          go_ret2
          exact ⟨by rw [sgl_yes HO.out, HO.out, HF.out]; rfl, HB.trans (((hb.trans (hb1.mono (by omega))).trans ((Old.calld (Old.refl w1) hb2).2.2.2.mono (by omega))).mono (by omega))⟩
    · have hfirst : first S = 256 := first_eq S 256 (by omega) (fun h => absurd h (by omega)) (fun i hi => hno.out i (by omega))
      have ho := one_none S hfirst
      have HO := Lib.hid ho
      clear ho hfirst
      go_wp2
      go_ret2
      exact ⟨by rw [sgl_no HO.out, HO.out]; rfl, HB.trans (hb.mono (by omega))⟩
end Go.Proofs.Ytkhcjjdamphbfaa
