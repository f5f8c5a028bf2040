/- Walks of the package class, second part: Full, Size, Range, Single. -/
import Derived.Test.YtkhcjjdamphbfaaC1
import Derived.Test.YtkhcjjdamphbfaaEq
import Derived.Test.YtkhcjjdamphbfaaCount
namespace Go.Proofs.Ytkhcjjdamphbfaa
open Go.RowKit

theorem cv0 : cv noByte = .agg #[.int .u64 0, .int .u64 0, .int .u64 0, .int .u64 0] := by
  unfold cv
  simp only [wd_noByte]
  rfl

theorem not0_any (w : World) :
    Calls Try.prog 40 #[.agg #[.int .u64 0, .int .u64 0, .int .u64 0, .int .u64 0]] w fun e w' => e = .returned (cv (fun _ => true)) ∧ Below w.heap.size w w' := by
  have h := not_any noByte w
  rw [cv0] at h
  exact h

set_option maxHeartbeats 1000000 in
theorem full_any (w : World) :
    Calls Try.prog 38 #[] w fun e w' => e = .returned (cv (fun _ => true)) ∧ Below w.heap.size w w' := by
  go_enter Try.func38, Try.ntmps38
  go_wp2_with (go_at_call 40; refine (not0_any _).mono ?_; rintro e w1 ⟨rfl, hb1⟩; have hcl := (HoldsC.new0 w).below hb1 (by simp); have hcl' := Lib.hid hcl; obtain ⟨⟨c0, c1, c2, c3⟩, ⟨f0, f1, f2, f3⟩, hl⟩ := hcl)
  obtain ⟨⟨e0, e1, e2, e3⟩, -, -⟩ := hcl'.out.set (fun _ => true)
  exact bodyPost_ret (v := cv (fun _ => true)) (by simp [results, Try.results38, go_sem, e0, e1, e2, e3]) rfl ⟨rfl, below_setC (((Below.refl _ w).alloc (Nat.le_refl _) _).trans (hb1.mono (by simp))) (Nat.le_refl _) _⟩

theorem index_c (x0 x1 x2 x3 : Value) : (∀ w : World, (Instr.index 26 (.agg #[x0, x1, x2, x3]) (.int .i64 0)).run Try.prog w = .ok x0 w) ∧ (∀ w : World, (Instr.index 26 (.agg #[x0, x1, x2, x3]) (.int .i64 1)).run Try.prog w = .ok x1 w) ∧
    (∀ w : World, (Instr.index 26 (.agg #[x0, x1, x2, x3]) (.int .i64 2)).run Try.prog w = .ok x2 w) ∧ (∀ w : World, (Instr.index 26 (.agg #[x0, x1, x2, x3]) (.int .i64 3)).run Try.prog w = .ok x3 w) :=
  ⟨fun _ => by kernel_rfl, fun _ => by kernel_rfl, fun _ => by kernel_rfl, fun _ => by kernel_rfl⟩


/-- The bits of the first k of four words. -/
def tot (x0 x1 x2 x3 : Nat) : Nat → Nat
  | 0 => 0
  | 1 => pc x0
  | 2 => pc x0 + pc x1
  | 3 => pc x0 + pc x1 + pc x2
  | _ => pc x0 + pc x1 + pc x2 + pc x3

theorem tot_le (x0 x1 x2 x3 k : Nat) : tot x0 x1 x2 x3 k ≤ tot x0 x1 x2 x3 4 := by
  match k with
  | 0 | 1 | 2 | 3 | _ + 4 => simp only [tot]; omega

theorem tot_step (x0 x1 x2 x3 k : Nat) (hk : k < 4) (h0 : x0 ≤ 18446744073709551615) (h1 : x1 ≤ 18446744073709551615) (h2 : x2 ≤ 18446744073709551615) (h3 : x3 ≤ 18446744073709551615) : ∃ x : Nat, x ≤ 18446744073709551615 ∧
    (∀ w : World, (Instr.index 26 (.agg #[.int .u64 (x0 : Nat), .int .u64 (x1 : Nat), .int .u64 (x2 : Nat), .int .u64 (x3 : Nat)]) (.int .i64 (k : Nat))).run Try.prog w = .ok (.int .u64 (x : Nat)) w) ∧ tot x0 x1 x2 x3 (k + 1) = tot x0 x1 x2 x3 k + pc x := by
  obtain ⟨i0, i1, i2, i3⟩ := index_c (.int .u64 (x0 : Nat)) (.int .u64 (x1 : Nat)) (.int .u64 (x2 : Nat)) (.int .u64 (x3 : Nat))
  match k, hk with
  | 0, _ => exact ⟨x0, h0, i0, by simp [tot]⟩
  | 1, _ => exact ⟨x1, h1, i1, rfl⟩
  | 2, _ => exact ⟨x2, h2, i2, rfl⟩
  | 3, _ => exact ⟨x3, h3, i3, rfl⟩

theorem and_pred_u64 (y : Nat) (h0 : 0 < y) (h1 : y ≤ 18446744073709551615) : bits BinOp.and IntKind.u64 (y : Nat) ((y : Int) - 1) = ((y &&& (y - 1) : Nat) : Int) := by
  rw [show ((y : Int) - 1) = ((y - 1 : Nat) : Int) by omega, bits_and_u64_nat _ _ (by omega) (by omega)]

set_option maxRecDepth 100000 in
set_option maxHeartbeats 1000000 in
theorem size_any (S : Nat → Bool) (w : World) :
    Calls Try.prog 48 #[cv S] w fun e w' => e = .returned (.int .i64 (cnt S)) ∧ Below w.heap.size w w' := by
  obtain ⟨x0, h0⟩ : ∃ x, x = wd S 0 := ⟨_, rfl⟩
  obtain ⟨x1, h1⟩ : ∃ x, x = wd S 1 := ⟨_, rfl⟩
  obtain ⟨x2, h2⟩ : ∃ x, x = wd S 2 := ⟨_, rfl⟩
  obtain ⟨x3, h3⟩ : ∃ x, x = wd S 3 := ⟨_, rfl⟩
  have hc : tot x0 x1 x2 x3 4 = cnt S := by rw [cnt_words, h0, h1, h2, h3]; rfl
  have hcl : tot x0 x1 x2 x3 4 ≤ 256 := by rw [hc]; exact cntN_le S 256
  have l0 : x0 ≤ 18446744073709551615 := by have := wd_lt S 0; omega
  have l1 : x1 ≤ 18446744073709551615 := by have := wd_lt S 1; omega
  have l2 : x2 ≤ 18446744073709551615 := by have := wd_lt S 2; omega
  have l3 : x3 ≤ 18446744073709551615 := by have := wd_lt S 3; omega
  unfold cv
  rw [← h0, ← h1, ← h2, ← h3, ← hc]
  clear h0 h1 h2 h3 hc
  go_enter Try.func48, Try.ntmps48
  go_wp2
  go_loop [3, 7] (fun n i => ∃ k : Nat, k ≤ 4 ∧ i = .int .i64 k ∧ n = .int .i64 (tot x0 x1 x2 x3 k)) (fun _ i => 4 - (intOf i).toNat)
  case atStart => exact ⟨0, by omega, rfl, rfl⟩
  case round =>
    obtain ⟨k, hk, rfl, rfl⟩ := hrel
    have hle := tot_le x0 x1 x2 x3 k
    by_cases hlt : k < 4
    · obtain ⟨x, hx, hidx, htot⟩ := tot_step x0 x1 x2 x3 k hlt l0 l1 l2 l3
      have hle1 := tot_le x0 x1 x2 x3 (k + 1)
      have HT := Lib.hid htot
      clear htot
      go_wp2
      go_loop [3, 5] (fun n v => ∃ m y : Nat, y ≤ 18446744073709551615 ∧ n = .int .i64 m ∧ v = .int .u64 y ∧ Hid (m + pc y = tot x0 x1 x2 x3 (k + 1))) (fun _ v => (intOf v).toNat)
      case atStart => exact ⟨_, x, hx, rfl, rfl, HT.out.symm⟩
      case round =>
        obtain ⟨m, y, hy, rfl, rfl, HM⟩ := hrel
        have hm : m ≤ 256 := by have := HM.out; omega
        by_cases hy0 : 0 < y
        · have hp := and_pred y (by omega)
          have hpl := and_pred_lt y (by omega)
          have HA := Lib.hid (and_pred_u64 y hy0 hy)
          have HP := Lib.hid hp
          clear hp
          go_wp2
          rw [HA.out]
          have HM' : m + 1 + pc (y &&& (y - 1)) = tot x0 x1 x2 x3 (k + 1) := by have := HM.out; have := HP.out; omega
          exact ⟨⟨m + 1, _, by omega, by go_num, rfl, HM'⟩, by simp [intOf]; omega⟩
        · obtain rfl : y = 0 := by omega
          go_wp2
          have hm' : m = tot x0 x1 x2 x3 (k + 1) := by have := HM.out; rw [pc_zero] at this; omega
          exact ⟨⟨k + 1, by omega, by go_num, by rw [hm']⟩, by simp [intOf]; omega⟩
    · obtain rfl : k = 4 := by omega
      go_wp2
      go_ret
      exact ⟨rfl, (Below.refl _ _).alloc (Nat.le_refl _) _⟩
/-- The bytes from one on, below another one. -/
def upTo (f k : Nat) : Nat → Bool := fun n => decide (f ≤ n) && decide (n < k)
/-- The bytes from one to another one. -/
def rangeS (f t : Nat) : Nat → Bool := fun n => decide (f ≤ n) && decide (n ≤ t)

theorem upTo_self (f : Nat) : upTo f f = noByte := by
  funext n
  unfold upTo noByte
  rw [Bool.and_eq_false_iff, decide_eq_false_iff_not, decide_eq_false_iff_not]
  omega
theorem upTo_succ (f k : Nat) (h : f ≤ k) : upd (upTo f k) k = upTo f (k + 1) := by
  funext n
  unfold upTo upd
  rw [Bool.eq_iff_iff]
  simp only [Bool.or_eq_true, Bool.and_eq_true, decide_eq_true_eq, beq_iff_eq]
  omega
theorem upTo_end (f t k : Nat) (h : t < k) (h2 : k = f ∨ k = t + 1) : upTo f k = rangeS f t := by
  funext n
  unfold upTo rangeS
  rw [Bool.eq_iff_iff]
  simp only [Bool.and_eq_true, decide_eq_true_eq]
  omega

set_option maxHeartbeats 1000000 in
theorem range_any (f t : Int) (hf : 0 ≤ f) (hf2 : f ≤ 255) (ht : 0 ≤ t) (ht2 : t ≤ 255) (w : World) :
    Calls Try.prog 36 #[.int .u8 f, .int .u8 t] w fun e w' => e = .returned (cv (rangeS f.toNat t.toNat)) ∧ Below w.heap.size w w' := by
  obtain ⟨f, rfl⟩ := Int.eq_ofNat_of_zero_le hf
  obtain ⟨t, rfl⟩ := Int.eq_ofNat_of_zero_le ht
  simp only [Int.toNat_natCast]
  go_enter Try.func36, Try.ntmps36
  go_wp2
  obtain ⟨W0, hW0⟩ : ∃ W0 : World, ((w.alloc (Obj.cells #[Value.int IntKind.u64 0, Value.int IntKind.u64 0, Value.int IntKind.u64 0, Value.int IntKind.u64 0] 26)).alloc (Obj.cells #[Value.int IntKind.u64 0, Value.int IntKind.u64 0, Value.int IntKind.u64 0, Value.int IntKind.u64 0] 26)) = W0 := ⟨_, rfl⟩
  have H1 : HoldsC W0 w.heap.size noByte := by subst hW0; exact (HoldsC.new0 w).alloc _
  have H2 : HoldsC W0 (w.heap.size + 1) noByte := by subst hW0; have := HoldsC.new0 (w.alloc (Obj.cells #[Value.int IntKind.u64 0, Value.int IntKind.u64 0, Value.int IntKind.u64 0, Value.int IntKind.u64 0] 26)); rwa [World.size_alloc] at this
  have HB : Below w.heap.size w W0 := by subst hW0; exact ((Below.refl _ _).alloc (Nat.le_refl _) _).alloc (by simp) _
  rw [hW0]
  clear hW0
  go_loopw [6] (fun i wr => ∃ k : Nat, f ≤ k ∧ k ≤ 256 ∧ i = .int .i64 k ∧ Hid (k = f ∨ k ≤ t + 1) ∧ HoldsC wr (w.heap.size + 1) (upTo f k) ∧ Below (w.heap.size + 1) W0 wr) (fun i _ => 256 - (intOf i).toNat)
  case atStart => exact ⟨f, by omega, by omega, rfl, Or.inl rfl, by rw [upTo_self]; exact H2, Below.refl _ _⟩
  case round =>
    obtain ⟨k, hk1, hk2, rfl, HK, hc, hb⟩ := hrel
    have hc' := Lib.hid hc
    obtain ⟨⟨c0, c1, c2, c3⟩, ⟨f0, f1, f2, f3⟩, hl⟩ := hc
    by_cases hlt : k ≤ t
    · go_wp2_with (go_at_call 105; refine (with_any _ _ (by omega) (by omega) _).mono ?_; rintro e w1 ⟨rfl, hb1⟩; obtain ⟨hc1, hf1, hz1, -⟩ := Old.of hb1)
      have hc1' : HoldsC w1 (w.heap.size + 1) (upTo f k) := hc'.out.below hb1 hl
      refine ⟨⟨k + 1, by omega, by omega, by go_num, Or.inr (by omega), ?_, ?_⟩, by simp [intOf]; omega⟩
      · rw [← upTo_succ f k hk1]
        exact hc1'.set _
      · exact below_setC (hb.trans (hb1.mono (by omega))) (Nat.le_refl _) _
    · have hend := upTo_end f t k (by omega) (by rcases HK.out with h | h <;> omega)
      have HE := Lib.hid hend
      clear hend
      have hr := H1.below hb (by omega)
      have hr' := Lib.hid hr
      obtain ⟨⟨d0, d1, d2, d3⟩, ⟨g0, g1, g2, g3⟩, gl⟩ := hr
      go_wp2
      rw [← HE.out]
      have hfin := hr'.out.set (upTo f k)
      obtain ⟨⟨e0, e1, e2, e3⟩, -, -⟩ := hfin
      exact bodyPost_ret (v := cv (upTo f k)) (by simp [results, Try.results36, go_sem, e0, e1, e2, e3]) rfl ⟨rfl, below_setC (HB.trans (hb.mono (by omega))) (Nat.le_refl _) _⟩
end Go.Proofs.Ytkhcjjdamphbfaa
