/- Walk of the law ClassLaws. -/
import Derived.Test.YtkhcjjdamphbfaaAl06
import Derived.Deep.DeepCutAuto
namespace Go.Proofs.Ytkhcjjdamphbfaa
open Go.RowKit

theorem HoldsC.drew {w : World} {B : Nat} {S : Nat → Bool} (h : HoldsC w B S) : HoldsC w.drew B S := h
theorem HoldsC.below2 {w w' : World} {B : Nat} {S : Nat → Bool} (h : HoldsC w B S) (hb : Below w.heap.size w w') : HoldsC w' B S := h.below hb h.2.2
theorem Old.setC {W w : World} (h : Old W w) {B : Nat} (hB : W.heap.size ≤ B) (S : Nat → Bool) : Old W (setC w B S) := .of (below_setC h.2.2.2 hB S)

theorem new0_below {w w' : World} (hb : Below (w.alloc (.cells #[.int .u64 0, .int .u64 0, .int .u64 0, .int .u64 0] 26)).heap.size (w.alloc (.cells #[.int .u64 0, .int .u64 0, .int .u64 0, .int .u64 0] 26)) w') : HoldsC w' w.heap.size noByte := (HoldsC.new0 w).below hb (by simp)
theorem Old.dr {W w : World} (h : Old W w) : Old W w.drew := .of h.2.2.2.drew
theorem new0_below_d {w w' : World} (hb : Below (w.alloc (.cells #[.int .u64 0, .int .u64 0, .int .u64 0, .int .u64 0] 26)).drew.heap.size (w.alloc (.cells #[.int .u64 0, .int .u64 0, .int .u64 0, .int .u64 0] 26)).drew w') : HoldsC w' w.heap.size noByte := (HoldsC.new0 w).drew.below hb (by simp)
/-- What the law asks of two sets: their sizes, and the others'. -/
theorem size_not (S : Nat → Bool) : (((cnt S : Nat) : Int) + (cnt (fun n => !S n) : Nat) == 256) = true := by
  have h : ∀ n, cntN S n + cntN (fun n => !S n) n = n := by
    intro n
    induction n with
    | zero => rfl
    | succ n ih =>
      have hb : ∀ b : Bool, (if b then 1 else 0) + (if !b then 1 else 0) = 1 := by decide
      have := hb (S n)
      simp only [cntN]
      omega
  have := h 256
  rw [beq_iff_eq]
  unfold cnt
  omega
theorem or_not (S : Nat → Bool) : clsEq (fun n => S n || !S n) (fun _ => true) = true := (clsEq_iff _ _).2 fun n _ => by simp
theorem or_comm' (S T : Nat → Bool) : clsEq (fun n => S n || T n) (fun n => T n || S n) = true := (clsEq_iff _ _).2 fun _ _ => Bool.or_comm _ _
theorem or_self' (S : Nat → Bool) : clsEq (fun n => S n || S n) S = true := (clsEq_iff _ _).2 fun n _ => by simp
theorem size_or (S T : Nat → Bool) : (((cnt (fun n => S n || T n) : Nat) : Int) == (cnt S : Nat) + (cnt T : Nat) - (cnt (fun n => S n && T n) : Nat)) = true := by
  have h : ∀ n, cntN (fun n => S n || T n) n + cntN (fun n => S n && T n) n = cntN S n + cntN T n := by
    intro n
    induction n with
    | zero => rfl
    | succ n ih =>
      have hb : ∀ b c : Bool, (if b || c then 1 else 0) + (if b && c then 1 else 0) = (if b then 1 else 0) + (if c then 1 else 0) := by decide
      have := hb (S n) (T n)
      simp only [cntN]
      omega
  have := h 256
  rw [beq_iff_eq]
  unfold cnt
  omega

set_option maxHeartbeats 4000000 in
set_option maxRecDepth 100000 in
theorem classLaws_walk (S T : Nat → Bool) (w : World) : Calls Try.prog 8 #[cv S, cv T] w fun e w' => e = .returned (.bool true) ∧ Below w.heap.size w w' := by
  go_enter Try.func8, Try.ntmps8
  go_wp2_with fail
  obtain ⟨Wa, hWa⟩ : ∃ Wa : World, w.alloc (.cells #[.int .u64 (wd S 0 : Nat), .int .u64 (wd S 1 : Nat), .int .u64 (wd S 2 : Nat), .int .u64 (wd S 3 : Nat)] 26) = Wa := ⟨_, rfl⟩
  have hBa : Below w.heap.size w Wa := by subst hWa; exact (Below.refl _ _).alloc (Nat.le_refl _) _
  have hsa : Wa.heap.size = w.heap.size + 1 := by subst hWa; simp
  have hS : HoldsC Wa w.heap.size S := by subst hWa; exact HoldsC.new w S
  obtain ⟨W0, hW0⟩ : ∃ W0 : World, (Wa.alloc (.cells #[.int .u64 (wd T 0 : Nat), .int .u64 (wd T 1 : Nat), .int .u64 (wd T 2 : Nat), .int .u64 (wd T 3 : Nat)] 26)) = W0 := ⟨_, rfl⟩
  have hS0 : HoldsC W0 w.heap.size S := by subst hW0; exact hS.alloc _
  have hT0 : HoldsC W0 (w.heap.size + 1) T := by subst hW0; rw [← hsa]; exact HoldsC.new Wa T
  have HB : Below w.heap.size w W0 := by subst hW0; exact hBa.trans ((Below.refl _ _).alloc (by omega) _)
  rw [hWa, hW0]
  clear hWa hW0 hsa hBa hS
  refine (not_any S _).mono ?_
  rintro e w1 ⟨rfl, hb⟩
  have hS1 := (hS0.below hb hS0.2.2).alloc (.cells #[.int .u64 (wd (fun n => !S n) 0 : Nat), .int .u64 (wd (fun n => !S n) 1 : Nat), .int .u64 (wd (fun n => !S n) 2 : Nat), .int .u64 (wd (fun n => !S n) 3 : Nat)] 26)
  have hT1 := (hT0.below hb hT0.2.2).alloc (.cells #[.int .u64 (wd (fun n => !S n) 0 : Nat), .int .u64 (wd (fun n => !S n) 1 : Nat), .int .u64 (wd (fun n => !S n) 2 : Nat), .int .u64 (wd (fun n => !S n) 3 : Nat)] 26)
  have hN1 := HoldsC.new w1 (fun n => !S n)
  have HB1 := (HB.trans (hb.mono HB.size)).alloc (Nat.le_trans HB.size hb.size) (.cells #[.int .u64 (wd (fun n => !S n) 0 : Nat), .int .u64 (wd (fun n => !S n) 1 : Nat), .int .u64 (wd (fun n => !S n) 2 : Nat), .int .u64 (wd (fun n => !S n) 3 : Nat)] 26)
  obtain ⟨BN, hBN⟩ : ∃ BN, BN = w1.heap.size := ⟨_, rfl⟩
  clear hS0 hT0 HB hb
  go_wp2_with fail
  obtain ⟨W1, hW1⟩ : ∃ W1 : World, (w1.alloc (.cells #[.int .u64 (wd (fun n => !S n) 0 : Nat), .int .u64 (wd (fun n => !S n) 1 : Nat), .int .u64 (wd (fun n => !S n) 2 : Nat), .int .u64 (wd (fun n => !S n) 3 : Nat)] 26)) = W1 := ⟨_, rfl⟩
  rw [hW1] at hS1 hT1 hN1 HB1
  rw [← hBN] at hN1
  rw [hW1, ← hBN]
  clear hW1 hBN
  have l1 := hS1.2.2
  have l2 := hT1.2.2
  have l3 := hN1.2.2
  go_cut [6] (fun s6 wx => ∃ B, s6 = .pointer (some ⟨B, 0, none⟩) ∧ HoldsC wx B (fun n => S n && T n) ∧ Old W1 wx)
  case first =>
    go_region_held3 (fun w' => Old W1 w') (first | with_reducible assumption | with_reducible exact Old.start _ | with_reducible exact (Old.alloc (Old.refl _) _).dr | with_reducible exact Old.alloc (by assumption) _ | with_reducible exact Old.setC (by assumption) (by first | exact (show Old W1 _ by assumption).2.2.1 | simp <;> omega) _) (first | (go_at_call 40; refine (not_any _ _).mono ?_; rintro e w' ⟨rfl, hb'⟩; have hO := Old.trans (show Old W1 _ by assumption) (Old.of hb'); first | (with_reducible have hn := new0_below hb') | (with_reducible have hn := new0_below_d hb') | (with_reducible have hn := HoldsC.below2 (S := noByte) (by assumption) hb') | skip) | (go_at_call 42; refine (or_any _ _ _).mono ?_; rintro e w' ⟨rfl, hb'⟩; have hO := Old.trans (show Old W1 _ by assumption) (Old.of hb'); first | (with_reducible have hn := new0_below hb') | (with_reducible have hn := new0_below_d hb') | (with_reducible have hn := HoldsC.below2 (S := noByte) (by assumption) hb') | skip))
    all_goals go_wp2_with fail
    all_goals go_meet
    all_goals refine ⟨_, rfl, ?_, by with_reducible assumption⟩
    all_goals first
      | with_reducible exact HoldsC.new _ (fun n => S n && T n)
      | with_reducible exact HoldsC.set (by with_reducible assumption) (fun n => S n && T n)
  case rest =>
    clear l1 l2 l3
    obtain ⟨BB, rfl, hB2, hO2⟩ := hcut
    replace hS1 := hS1.below hO2.2.2.2 hS1.2.2
    replace hT1 := hT1.below hO2.2.2.2 hT1.2.2
    replace hN1 := hN1.below hO2.2.2.2 hN1.2.2
    have HB2 := HB1.trans (hO2.2.2.2.mono HB1.size)
    have l1 := hS1.2.2
    have l2 := hT1.2.2
    have l3 := hN1.2.2
    have l4 := hB2.2.2
    clear hO2 HB1
    have hsn := size_not S
    have hon := or_not S
    have hoc := or_comm' S T
    have hos := or_self' S
    have hso := size_or S T
    have b1 : ((cnt S : Nat) : Int) ≤ 256 := by have := cntN_le S 256; unfold cnt; omega
    have b2 : ((cnt T : Nat) : Int) ≤ 256 := by have := cntN_le T 256; unfold cnt; omega
    have b3 : ((cnt (fun n => !S n) : Nat) : Int) ≤ 256 := by have := cntN_le (fun n => !S n) 256; unfold cnt; omega
    have b4 : ((cnt (fun n => S n && T n) : Nat) : Int) ≤ 256 := by have := cntN_le (fun n => S n && T n) 256; unfold cnt; omega
    have b5 : ((cnt (fun n => S n || T n) : Nat) : Int) ≤ 256 := by have := cntN_le (fun n => S n || T n) 256; unfold cnt; omega
    have hsn' : ((cnt S : Nat) : Int) + (cnt (fun n => !S n) : Nat) = 256 := by simpa using hsn
    have hso' : ((cnt (fun n => S n || T n) : Nat) : Int) = (cnt S : Nat) + (cnt T : Nat) - (cnt (fun n => S n && T n) : Nat) := by simpa using hso
    have hw1 : IntKind.i64.wrap ((cnt S : Nat) + (cnt T : Nat) : Int) = (cnt S : Nat) + (cnt T : Nat) := by rw [IntKind.wrap_i64]; omega
    have hw2 : IntKind.i64.wrap ((cnt S : Nat) + (cnt T : Nat) - (cnt (fun n => S n && T n) : Nat) : Int) = (cnt S : Nat) + (cnt T : Nat) - (cnt (fun n => S n && T n) : Nat) := by
      rw [IntKind.wrap_i64]; omega
    have hrefl : ∀ S, clsEq S S = true := clsEq_refl
    go_upto_region 3 with fail
    go_region_held3 (fun w' => Old wc w') (first | exact Old.start _ | exact Old.calld (Old.refl _) (by assumption) | exact Old.call (by assumption) (by assumption)) (first | (go_at_call 33; refine (alive06 _).mono ?_; rintro e w' ⟨rfl, hb'⟩) | (go_at_call 38; refine (full_any _).mono ?_; rintro e w' ⟨rfl, hb'⟩) | (go_at_call 42; refine (or_any _ _ _).mono ?_; rintro e w' ⟨rfl, hb'⟩) | (go_at_call 48; refine (size_any _ _).mono ?_; rintro e w' ⟨rfl, hb'⟩))
    go_wp2
    go_ret
    exact ⟨rfl, HB2.trans ((show Old wc _ by assumption).2.2.2.mono HB2.size)⟩
end Go.Proofs.Ytkhcjjdamphbfaa
