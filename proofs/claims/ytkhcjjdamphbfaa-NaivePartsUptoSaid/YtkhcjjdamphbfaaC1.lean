/- Walks of the package class, first part: with, Has, Of, Range, Not, Or, Full: what each returns, whatever it is called with. -/
import Derived.Test.YtkhcjjdamphbfaaBase
import Derived.LoopN
namespace Go.Proofs.Ytkhcjjdamphbfaa
open Go.RowKit

/-- The word that gets the bit. -/
theorem upd_word (S : Nat → Bool) (b : Int) (h0 : 0 ≤ b) (k : Nat) (hk : b / 64 = k) :
    bits BinOp.or IntKind.u64 (wd S k : Nat) (IntKind.u64.wrap (2 ^ (b % 64).toNat)) = (wd (upd S b.toNat) k : Nat) := by
  have hm : (b % 64).toNat < 64 := by omega
  have hp : (2 : Nat) ^ (b % 64).toNat < 18446744073709551616 := by
    have : (2 : Nat) ^ (b % 64).toNat < 2 ^ 64 := Nat.pow_lt_pow_right (by omega) hm
    exact this
  have hw : IntKind.u64.wrap (2 ^ (b % 64).toNat) = ((2 ^ (b % 64).toNat : Nat) : Int) := by
    rw [show ((2 : Int) ^ (b % 64).toNat) = ((2 ^ (b % 64).toNat : Nat) : Int) by rw [Int.natCast_pow]; rfl, IntKind.wrap_u64]
    generalize 2 ^ (b % 64).toNat = p at *
    omega
  rw [hw, bits_or_u64_nat _ _ (wd_lt S k) hp, wd_upd, if_pos (by omega)]
  rw [show b.toNat % 64 = (b % 64).toNat by omega]

theorem upd_other (S : Nat → Bool) (b : Int) (h0 : 0 ≤ b) (k : Nat) (hk : b / 64 ≠ k) : ((wd (upd S b.toNat) k : Nat) : Int) = (wd S k : Nat) := by
  rw [wd_upd, if_neg (by omega)]

set_option maxHeartbeats 1000000 in
theorem with_any (S : Nat → Bool) (b : Int) (h0 : 0 ≤ b) (h1 : b ≤ 255) (w : World) :
    Calls Try.prog 105 #[cv S, .int .u8 b] w fun e w' => e = .returned (cv (upd S b.toNat)) ∧ Below w.heap.size w w' := by
  have hB : ∀ x y : Array Value, Below w.heap.size w ((w.alloc (.cells x 26)).alloc (.cells y 26)) := fun x y => ((Below.refl _ _).alloc (Nat.le_refl _) _).alloc (by simp) _
  have W0 := Lib.hid (upd_word S b h0)
  have O0 := Lib.hid (upd_other S b h0)
  have hq : b / 64 = 0 ∨ b / 64 = 1 ∨ b / 64 = 2 ∨ b / 64 = 3 := by omega
  rcases hq with hq | hq | hq | hq
  · go_enter Try.func105, Try.ntmps105
    go_wp2
    exact bodyPost_ret (v := cv (upd S b.toNat)) (by simp [results, Try.results105, go_sem, W0.out 0 hq, O0.out 1 (by omega), O0.out 2 (by omega), O0.out 3 (by omega)]) rfl ⟨rfl, hB _ _⟩
  · go_enter Try.func105, Try.ntmps105
    go_wp2
    exact bodyPost_ret (v := cv (upd S b.toNat)) (by simp [results, Try.results105, go_sem, W0.out 1 hq, O0.out 0 (by omega), O0.out 2 (by omega), O0.out 3 (by omega)]) rfl ⟨rfl, hB _ _⟩
  · go_enter Try.func105, Try.ntmps105
    go_wp2
    exact bodyPost_ret (v := cv (upd S b.toNat)) (by simp [results, Try.results105, go_sem, W0.out 2 hq, O0.out 1 (by omega), O0.out 0 (by omega), O0.out 3 (by omega)]) rfl ⟨rfl, hB _ _⟩
  · go_enter Try.func105, Try.ntmps105
    go_wp2
    exact bodyPost_ret (v := cv (upd S b.toNat)) (by simp [results, Try.results105, go_sem, W0.out 3 hq, O0.out 1 (by omega), O0.out 2 (by omega), O0.out 0 (by omega)]) rfl ⟨rfl, hB _ _⟩

/-- One bit of a word, as the program asks for it. -/
theorem has_bit (S : Nat → Bool) (b : Int) (h0 : 0 ≤ b) (k : Nat) (hk : b / 64 = k) : (bits BinOp.and IntKind.u64 ((wd S k : Nat) / 2 ^ (b % 64).toNat) 1 == 1) = S b.toNat := by
  have hlt := wd_lt S k
  have hb := wd_bit S b.toNat
  rw [show b.toNat / 64 = k by omega, show b.toNat % 64 = (b % 64).toNat by omega] at hb
  have e1 : ((wd S k : Nat) : Int) / 2 ^ (b % 64).toNat = ((wd S k / 2 ^ (b % 64).toNat : Nat) : Int) := by
    rw [show ((2 : Int) ^ (b % 64).toNat) = ((2 ^ (b % 64).toNat : Nat) : Int) by rw [Int.natCast_pow]; rfl]
    rfl
  have hle : wd S k / 2 ^ (b % 64).toNat ≤ wd S k := Nat.div_le_self _ _
  rw [e1, show (1 : Int) = ((1 : Nat) : Int) from rfl, bits_and_u64_nat _ _ (by omega) (by omega), Nat.and_one_is_mod, hb]
  cases S b.toNat <;> rfl

set_option maxHeartbeats 1000000 in
theorem has_any (S : Nat → Bool) (b : Int) (h0 : 0 ≤ b) (h1 : b ≤ 255) (w : World) :
    Calls Try.prog 46 #[cv S, .int .u8 b] w fun e w' => e = .returned (.bool (S b.toNat)) ∧ Below w.heap.size w w' := by
  have hB : ∀ x : Array Value, Below w.heap.size w (w.alloc (.cells x 26)) := fun x => (Below.refl _ _).alloc (Nat.le_refl _) _
  have H := Lib.hid (has_bit S b h0)
  have l0 : ((wd S 0 : Nat) : Int) < 18446744073709551616 := by have := wd_lt S 0; omega
  have l1 : ((wd S 1 : Nat) : Int) < 18446744073709551616 := by have := wd_lt S 1; omega
  have l2 : ((wd S 2 : Nat) : Int) < 18446744073709551616 := by have := wd_lt S 2; omega
  have l3 : ((wd S 3 : Nat) : Int) < 18446744073709551616 := by have := wd_lt S 3; omega
  have hq : b / 64 = 0 ∨ b / 64 = 1 ∨ b / 64 = 2 ∨ b / 64 = 3 := by omega
  rcases hq with hq | hq | hq | hq
  · go_enter Try.func46, Try.ntmps46
    go_wp2
    go_ret
    exact ⟨ret_eq (congrArg Value.bool (H.out 0 hq)), hB _⟩
  · go_enter Try.func46, Try.ntmps46
    go_wp2
    go_ret
    exact ⟨ret_eq (congrArg Value.bool (H.out 1 hq)), hB _⟩
  · go_enter Try.func46, Try.ntmps46
    go_wp2
    go_ret
    exact ⟨ret_eq (congrArg Value.bool (H.out 2 hq)), hB _⟩
  · go_enter Try.func46, Try.ntmps46
    go_wp2
    go_ret
    exact ⟨ret_eq (congrArg Value.bool (H.out 3 hq)), hB _⟩
theorem not_word (S : Nat → Bool) (k : Nat) : bits BinOp.xor IntKind.u64 IntKind.u64.max (wd S k : Nat) = (wd (fun n => !S n) k : Nat) := by
  rw [show IntKind.u64.max = ((18446744073709551615 : Nat) : Int) by decide, bits_xor_u64_nat _ _ (by omega) (wd_lt S k)]
  congr 1
  apply Nat.eq_of_testBit_eq
  intro i
  rw [Nat.testBit_xor, wd_testBit, wd_testBit, show (18446744073709551615 : Nat) = 2 ^ 64 - 1 by decide, Nat.testBit_two_pow_sub_one]
  by_cases hi : i < 64 <;> simp [hi]

set_option maxHeartbeats 1000000 in
theorem not_any (S : Nat → Bool) (w : World) :
    Calls Try.prog 40 #[cv S] w fun e w' => e = .returned (cv (fun n => !S n)) ∧ Below w.heap.size w w' := by
  have hB : ∀ x y : Array Value, Below w.heap.size w ((w.alloc (.cells x 26)).alloc (.cells y 26)) := fun x y => ((Below.refl _ _).alloc (Nat.le_refl _) _).alloc (by simp) _
  have H := Lib.hid (not_word S)
  go_enter Try.func40, Try.ntmps40
  go_wp2
  refine wp_loop_rounds 5 ?_
  rw [rounds_succ]
  go_wp2
  rw [rounds_succ]
  go_wp2
  rw [rounds_succ]
  go_wp2
  rw [rounds_succ]
  go_wp2
  rw [rounds_succ]
  go_wp2
  exact bodyPost_ret (v := cv (fun n => !S n)) (by simp [results, Try.results40, go_sem, H.out]) rfl ⟨rfl, hB _ _⟩

theorem or_word (S T : Nat → Bool) (k : Nat) : bits BinOp.or IntKind.u64 (wd S k : Nat) (wd T k : Nat) = (wd (fun n => S n || T n) k : Nat) := by
  rw [bits_or_u64_nat _ _ (wd_lt S k) (wd_lt T k), wd_or]

set_option maxHeartbeats 1000000 in
theorem or_any (S T : Nat → Bool) (w : World) :
    Calls Try.prog 42 #[cv S, cv T] w fun e w' => e = .returned (cv (fun n => S n || T n)) ∧ Below w.heap.size w w' := by
  have H := Lib.hid (or_word S T)
  go_enter Try.func42, Try.ntmps42
  go_wp2
  refine wp_loop_rounds 5 ?_
  rw [rounds_succ]
  go_wp2
  go_region
  go_wp2
  rw [rounds_succ]
  go_wp2
  go_region
  go_wp2
  rw [rounds_succ]
  go_wp2
  go_region
  go_wp2
  rw [rounds_succ]
  go_wp2
  go_region
  go_wp2
  rw [rounds_succ]
  go_wp2
  refine bodyPost_ret (v := cv (fun n => S n || T n)) (by simp [results, Try.results42, go_sem, H.out]) rfl ⟨rfl, ?_⟩
  exact ((((((((Below.refl _ _).alloc (Nat.le_refl _) _).alloc (by simp) _).alloc (by simp; omega) _).drew).drew).drew).drew)
/-- The bytes of the first k letters of a text. -/
def strSet (s : ByteArray) (k : Nat) (n : Nat) : Bool := (s.data.toList.take k).any fun c => c.toNat == n

theorem strSet_zero (s : ByteArray) : strSet s 0 = noByte := by funext n; simp [strSet, noByte]
theorem strSet_succ (s : ByteArray) (k : Nat) (h : k < s.size) : upd (strSet s k) s[k].toNat = strSet s (k + 1) := by
  funext n
  unfold upd strSet
  rw [List.take_succ_eq_append_getElem (by simpa using h), List.any_append]
  simp only [List.any_cons, List.any_nil, Bool.or_false]
  congr 1
  rw [Bool.eq_iff_iff]
  simp only [beq_iff_eq]
  exact ⟨fun h => h.symm, fun h => h.symm⟩

set_option maxHeartbeats 1000000 in
theorem of_any (s : ByteArray) (hs : s.size ≤ 140737488351232) (w : World) :
    Calls Try.prog 34 #[.string s] w fun e w' => e = .returned (cv (strSet s s.size)) ∧ Below w.heap.size w w' := by
  go_enter Try.func34, Try.ntmps34
  go_wp2
  obtain ⟨W0, hW0⟩ : ∃ W0 : World, ((w.alloc (Obj.cells #[Value.int IntKind.u64 0, Value.int IntKind.u64 0, Value.int IntKind.u64 0, Value.int IntKind.u64 0] 26)).alloc (Obj.cells #[Value.int IntKind.u64 0, Value.int IntKind.u64 0, Value.int IntKind.u64 0, Value.int IntKind.u64 0] 26)) = W0 := ⟨_, rfl⟩
  have H1 : HoldsC W0 w.heap.size noByte := by subst hW0; exact (HoldsC.new0 w).alloc _
  have H2 : HoldsC W0 (w.heap.size + 1) noByte := by subst hW0; have := HoldsC.new0 (w.alloc (Obj.cells #[Value.int IntKind.u64 0, Value.int IntKind.u64 0, Value.int IntKind.u64 0, Value.int IntKind.u64 0] 26)); rwa [World.size_alloc] at this
  have HB : Below w.heap.size w W0 := by subst hW0; exact ((Below.refl _ _).alloc (Nat.le_refl _) _).alloc (by simp) _
  rw [hW0]
  clear hW0
  go_loopw [7] (fun i wr => ∃ k : Nat, k ≤ s.size ∧ i = .int .i64 k ∧ HoldsC wr (w.heap.size + 1) (strSet s k) ∧ Below (w.heap.size + 1) W0 wr) (fun i _ => s.size - (intOf i).toNat)
  case atStart => exact ⟨0, Nat.zero_le _, rfl, by rw [strSet_zero]; exact H2, Below.refl _ _⟩
  case round =>
    obtain ⟨k, hk, rfl, hc, hb⟩ := hrel
    have hc' := Lib.hid hc
    obtain ⟨⟨c0, c1, c2, c3⟩, ⟨f0, f1, f2, f3⟩, hl⟩ := hc
    by_cases hlt : k < s.size
    · have hby : ((s[k].toNat : Nat) : Int) ≤ 255 := by have := s[k].toNat_lt; omega
      go_wp2_with fail
      go_region_with (go_at_call 105; refine (with_any _ _ (by omega) (by omega) _).mono ?_; rintro e w1 ⟨rfl, hb1⟩; obtain ⟨hc1, hf1, hz1, -⟩ := Old.calld (Old.refl _) hb1)
      all_goals
        go_wp2
        go_roundw
        case rel =>
          have hc1' : HoldsC w1 (w.heap.size + 1) (strSet s k) := hc'.out.below (Old.calld (Old.refl wr) hb1).2.2.2 hl
          refine ⟨k + 1, by omega, by go_num, ?_, ?_⟩
          · rw [← strSet_succ s k hlt]
            exact hc1'.set _
          · exact below_setC ((hb.trans ((Old.calld (Old.refl wr) hb1).2.2.2.mono (by omega)))) (Nat.le_refl _) _
        case measure => simp [intOf]; omega
    · obtain rfl : k = s.size := by omega
      have hr := H1.below hb (by omega)
      have hr' := Lib.hid hr
      obtain ⟨⟨d0, d1, d2, d3⟩, ⟨g0, g1, g2, g3⟩, gl⟩ := hr
      go_wp2
      have hfin := hr'.out.set (strSet s s.size)
      obtain ⟨⟨e0, e1, e2, e3⟩, -, -⟩ := hfin
      exact bodyPost_ret (v := cv (strSet s s.size)) (by simp [results, Try.results34, go_sem, e0, e1, e2, e3]) rfl ⟨rfl, below_setC (HB.trans (hb.mono (by omega))) (Nat.le_refl _) _⟩
end Go.Proofs.Ytkhcjjdamphbfaa
