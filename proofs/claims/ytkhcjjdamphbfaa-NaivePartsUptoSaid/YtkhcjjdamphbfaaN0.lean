/- Walk of naive.misses. -/
import Derived.Test.YtkhcjjdamphbfaaL1
namespace Go.Proofs.Ytkhcjjdamphbfaa
open Go.RowKit

/-- A byte of a text. -/
def tb (t : ByteArray) (m : Nat) : Nat := ((t.data.toList[m]?).map fun c => c.toNat).getD 0
theorem tb_eq (t : ByteArray) (m : Nat) (hm : m < t.size) : t[m].toNat = tb t m := by
  have h : m < t.data.toList.length := by simpa using hm
  unfold tb
  rw [List.getElem?_eq_getElem h]
  rfl
theorem tb_le (t : ByteArray) (m : Nat) : tb t m ≤ 255 := by
  unfold tb
  cases h : t.data.toList[m]? with
  | none => simp
  | some c => simp; have := c.toNat_lt; omega

/-- How many of the first k elements are missed at a place. -/
def mis (t : ByteArray) (L : Nat → Nat → Bool) (i : Nat) : Nat → Nat
  | 0 => 0
  | k + 1 => mis t L i k + (if L k (tb t (i + k)) then 0 else 1)
theorem mis_le (t : ByteArray) (L : Nat → Nat → Bool) (i k : Nat) : mis t L i k ≤ k := by
  induction k with
  | zero => exact Nat.le_refl _
  | succ k ih => simp only [mis]; split <;> omega
theorem mis_mono (t : ByteArray) (L : Nat → Nat → Bool) (i : Nat) {k n : Nat} (h : k ≤ n) : mis t L i k ≤ mis t L i n := by
  induction h with
  | refl => exact Nat.le_refl _
  | step _ ih => simp only [mis]; omega

theorem has_tb (S : Nat → Bool) (t : ByteArray) (m : Nat) (hm : m < t.size) {b : Bool} (hq : S (tb t m) = b) (w : World) :
    Calls Try.prog 46 #[cv S, .int .u8 (t[m].toNat : Nat)] w fun e w' => e = .returned (.bool b) ∧ Below w.heap.size w w' := by
  have h := has_any S (t[m].toNat : Nat) (by omega) (by have := t[m].toNat_lt; omega) w
  rw [Int.toNat_natCast, tb_eq t m hm, hq] at h
  rw [tb_eq t m hm]
  exact h
theorem rhas_tb (S : Nat → Bool) (t : ByteArray) (m : Nat) (hm : m < t.size) {b : Bool} (hq : S (tb t m) = b) (w : World) :
    Calls Try.prog 47 #[cv S, .int .u8 (t[m].toNat : Nat)] w fun e w' => e = .returned (.bool b) ∧ Below w.heap.size w w' := by
  have h := rhas_any S (t[m].toNat : Nat) (by omega) (by have := t[m].toNat_lt; omega) w
  rw [Int.toNat_natCast, tb_eq t m hm, hq] at h
  rw [tb_eq t m hm]
  exact h

set_option maxRecDepth 100000 in
set_option maxHeartbeats 4000000 in
theorem misses_any (ad : Option Addr) (n cap : Nat) (K : Int) (L : Nat → Nat → Bool) (t : ByteArray) (ht : t.size ≤ 140737488351232) (i : Nat) (hi : i + n ≤ t.size) (most : Int) (w : World) (hR : RowC w ad n L w.heap.size) :
    Calls Try.prog 109 #[lv ad n cap K, .string t, .int .i64 (i : Nat), .int .i64 most] w fun e w' => (∃ r : Nat, e = .returned (.int .i64 (r : Nat)) ∧ ((mis t L i n : Int) ≤ most → r = mis t L i n) ∧ (most < (mis t L i n : Int) → most < (r : Int))) ∧ Below w.heap.size w w' := by
  have hl := HoldsL.new w ad n cap K
  go_enter Try.func109, Try.ntmps109
  go_wp2_with fail
  obtain ⟨W0, hW0⟩ : ∃ W0 : World, w.alloc (.cells #[.slice ad n cap, .int .i64 K] 43) = W0 := ⟨_, rfl⟩
  have HB : Below w.heap.size w W0 := by subst hW0; exact (Below.refl _ _).alloc (Nat.le_refl _) _
  have hR0 := hR.below HB (Nat.le_refl _)
  rw [hW0] at hl ⊢
  clear hW0 hR
  go_step3
  go_wp2
  go_step3
  go_wp2
  have l0 := hl.2.2
  clear hl
  go_loopw [9, 15] (fun c j wr => ∃ k : Nat, k ≤ n ∧ j = .int .i64 k ∧ c = .int .i64 (mis t L i k : Nat) ∧ (k = 0 ∨ (mis t L i k : Int) ≤ most) ∧ Old W0 wr) (fun _ j _ => n - (intOf j).toNat)
  case atStart => exact ⟨0, by omega, rfl, rfl, .inl rfl, Old.refl _⟩
  case round =>
    obtain ⟨k, hk, rfl, rfl, hm, hO⟩ := hrel
    have hR1 := hR0.below hO.2.2.2 (Nat.le_of_lt l0)
    have HB1 := HB.trans (hO.2.2.2.mono HB.size)
    have hz := hO.2.2.1
    have HO := Lib.hid hO
    have HM := Lib.hid hm
    clear hO hm
    by_cases hlt : k < n
    · obtain ⟨b, o, rfl, hb, e0, e1, e2, e3⟩ := hR1.at hlt
      clear hR1 hR0
      have hlti : (k : Int) < n := by omega
      have hin : i + k < t.size := by omega
      have hini : (i : Int) + k < t.size := by omega
      have hin0 : (0 : Int) ≤ (i : Int) + k := by omega
      have hw : IntKind.i64.wrap ((i : Int) + k) = (i : Int) + k := by rw [IntKind.wrap_i64]; omega
      have htn : ((i : Int) + k).toNat = i + k := by omega
      have hm1 : mis t L i (k + 1) = mis t L i k + (if L k (tb t (i + k)) then 0 else 1) := rfl
      have hml := mis_le t L i k
      have hml2 := mis_mono t L i (show k + 1 ≤ n by omega)
      obtain ⟨m, hm⟩ : ∃ m, m = mis t L i k := ⟨_, rfl⟩
      have HM' : Hid (k = 0 ∨ (m : Int) ≤ most) := by rw [hm]; exact HM
      rw [← hm] at hm1 hml ⊢
      clear hm HM
      have hA : Below wr.heap.size wr (wr.alloc (.cells #[.int .u64 (wd (L k) 0 : Nat), .int .u64 (wd (L k) 1 : Nat), .int .u64 (wd (L k) 2 : Nat), .int .u64 (wd (L k) 3 : Nat)] 26)) := (Below.refl _ _).alloc (Nat.le_refl _) _
      cases hq : L k (tb t (i + k))
      · rw [hq, if_neg (by decide)] at hm1
        have H1 := Lib.hid hm1
        have H2 := Lib.hid hml2
        by_cases hgt : most < (m : Int) + 1
        · clear hm1 hml2
          go_wp2_with fail
          go_region_with (first | (go_at_call 46; refine (has_tb _ _ _ (by omega) hq _).mono ?_; rintro e w1 ⟨rfl, hb1⟩))
          all_goals (go_wp2; rw [Exit.noGoto_ret]; go_ret; exact ⟨⟨m + 1, by simp, fun h => by have := H1.out; have := H2.out; omega, fun _ => by omega⟩, HB1.trans ((hA.trans (Below.refl _ _).drew).trans (hb1.mono hA.size) |>.mono HB1.size)⟩)
        · clear hm1 hml2
          go_wp2_with fail
          go_region_with (first | (go_at_call 46; refine (has_tb _ _ _ (by omega) hq _).mono ?_; rintro e w1 ⟨rfl, hb1⟩))
          all_goals (go_wp2; exact ⟨⟨k + 1, by omega, by go_num, by rw [H1.out]; go_num, .inr (by rw [H1.out]; omega), HO.out.trans (Old.of ((hA.trans (Below.refl _ _).drew).trans (hb1.mono hA.size)))⟩, by simp [intOf]; omega⟩)
      · rw [hq, if_pos rfl] at hm1
        have H1 := Lib.hid hm1
        have H2 := Lib.hid hml2
        by_cases hgt : most < (m : Int)
        · clear hm1 hml2
          go_wp2_with fail
          go_region_with (first | (go_at_call 46; refine (has_tb _ _ _ (by omega) hq _).mono ?_; rintro e w1 ⟨rfl, hb1⟩))
          all_goals (go_wp2; rw [Exit.noGoto_ret]; go_ret; exact ⟨⟨m, by simp, fun h => by have := H1.out; have := H2.out; omega, fun _ => by omega⟩, HB1.trans ((hA.trans (Below.refl _ _).drew).trans (hb1.mono hA.size) |>.mono HB1.size)⟩)
        · clear hm1 hml2
          go_wp2_with fail
          go_region_with (first | (go_at_call 46; refine (has_tb _ _ _ (by omega) hq _).mono ?_; rintro e w1 ⟨rfl, hb1⟩))
          all_goals (go_wp2; exact ⟨⟨k + 1, by omega, by go_num, by rw [H1.out]; go_num, .inr (by rw [H1.out]; omega), HO.out.trans (Old.of ((hA.trans (Below.refl _ _).drew).trans (hb1.mono hA.size)))⟩, by simp [intOf]; omega⟩)
    · obtain rfl : k = n := by omega
      go_wp2
      try rw [Exit.noGoto_ret]
      go_ret
      exact ⟨⟨mis t L i k, by simp, fun _ => rfl, fun h => h⟩, HB1⟩
end Go.Proofs.Ytkhcjjdamphbfaa
