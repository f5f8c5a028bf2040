/- The power of two that a size is: walks of ntt.Log and of beagleref02.Log. -/
import Derived.Test.YtkhcjjdamphbfaaL5
import Derived.Test.YtkhcjjdamphbfaaZ1
namespace Go.Proofs.Ytkhcjjdamphbfaa
open Go.RowKit

/-- Is the size so much? -/
def isPow (n : Int) (k : Nat) : Bool := decide (n = (2 : Int) ^ k)
def lgN (n : Int) : Nat := firstN (isPow n) 0 13
/-- Is it a power of two? And which one? -/
def lgB (n : Int) : Bool := decide (lgN n < 13)
def lgV (n : Int) : Nat := if lgN n < 13 then lgN n else 0
theorem lg_hit (n : Int) (k : Nat) (hk : k < 13) (hb : ∀ j, j < k → isPow n j = false) (h : isPow n k = true) : lgB n = true ∧ lgV n = k := by
  obtain ⟨a, b, c, d⟩ := firstN_spec (isPow n) 13 0
  have e : lgN n = k := by
    unfold lgN
    rcases Nat.lt_trichotomy (firstN (isPow n) 0 13) k with hl | hl | hl
    · have := c (by omega)
      rw [hb _ hl] at this
      cases this
    · exact hl
    · rw [d k (by omega) hl] at h
      cases h
  unfold lgB lgV
  rw [e, if_pos hk]
  exact ⟨decide_eq_true hk, rfl⟩
theorem lg_none (n : Int) (hb : ∀ j, j < 13 → isPow n j = false) : lgB n = false ∧ lgV n = 0 := by
  obtain ⟨a, b, c, d⟩ := firstN_spec (isPow n) 13 0
  have e : ¬ (lgN n < 13) := by
    intro hl
    unfold lgN at hl
    have := c (by omega)
    rw [hb _ hl] at this
    cases this
  unfold lgB lgV
  rw [if_neg e]
  exact ⟨decide_eq_false e, rfl⟩
theorem pow2i (k : Nat) (hk : k < 13) : (1 : Int) ≤ 2 ^ k ∧ (2 : Int) ^ k ≤ 4096 ∧ wrap64 ((2 : Int) ^ k) = 2 ^ k := by
  have : k = 0 ∨ k = 1 ∨ k = 2 ∨ k = 3 ∨ k = 4 ∨ k = 5 ∨ k = 6 ∨ k = 7 ∨ k = 8 ∨ k = 9 ∨ k = 10 ∨ k = 11 ∨ k = 12 := by omega
  rcases this with rfl | rfl | rfl | rfl | rfl | rfl | rfl | rfl | rfl | rfl | rfl | rfl | rfl <;> decide +kernel

set_option maxRecDepth 100000 in
set_option maxHeartbeats 4000000 in
theorem log_any (n : Int) (w : World) :
    Calls Try.prog 115 #[.int .i64 n] w fun e w' => e = .returned (.tuple #[.int .i64 (lgV n : Nat), .bool (lgB n)]) ∧ Below w.heap.size w w' := by
  have hh := Lib.hid (lg_hit n)
  have hn := Lib.hid (lg_none n)
  generalize lgB n = B at hh hn
  generalize lgV n = V at hh hn
  go_enter Try.func115, Try.ntmps115
  go_wp2_with fail
  go_loopw [5] (fun i wr => ∃ k : Nat, k ≤ 13 ∧ i = .int .i64 k ∧ Hid (∀ j, j < k → isPow n j = false) ∧ Old w wr) (fun i _ => 13 - (intOf i).toNat)
  case atStart => exact ⟨0, by omega, rfl, Lib.hid (fun j h => by omega), Old.refl _⟩
  case round =>
    obtain ⟨k, hk, rfl, hno, hO⟩ := hrel
    have HO := Lib.hid hO
    clear hO
    by_cases hlt : k < 13
    · have hlti : (k : Int) < 13 := by omega
      have hk0 : (0 : Int) ≤ k := by omega
      obtain ⟨hp1, hp2, hp3⟩ := pow2i k hlt
      cases hq : isPow n k
      · have hne : (n == (2 : Int) ^ k) = false := by unfold isPow at hq; simpa using hq
        have HN2 : Hid (∀ j, j < k + 1 → isPow n j = false) := Lib.hid fun j h2 => by
          by_cases hj : j < k
          · exact hno.out j hj
          · obtain rfl : j = k := by omega
            exact hq
        clear hq
        go_wp2
        exact ⟨⟨k + 1, by omega, by go_num, HN2, HO.out⟩, by simp [intOf]; omega⟩
      · have hne : (n == (2 : Int) ^ k) = true := by unfold isPow at hq; simpa using hq
        obtain ⟨e1, e2⟩ := hh.out k hlt hno.out hq
        have E1 := Lib.hid e1
        have E2 := Lib.hid e2
        clear hq hh hn e1 e2
        go_wp2
        go_ret2
        rw [E1.out, E2.out]
        exact ⟨rfl, HO.out.2.2.2⟩
    · obtain rfl : k = 13 := by omega
      obtain ⟨e1, e2⟩ := hn.out hno.out
      have E1 := Lib.hid e1
      have E2 := Lib.hid e2
      clear hh hn e1 e2
      go_wp2
      go_ret2
      rw [E1.out, E2.out]
      exact ⟨rfl, HO.out.2.2.2⟩

set_option maxRecDepth 100000 in
set_option maxHeartbeats 4000000 in
theorem rlog_any (n : Int) (w : World) :
    Calls Try.prog 123 #[.int .i64 n] w fun e w' => e = .returned (.tuple #[.int .i64 (lgV n : Nat), .bool (lgB n)]) ∧ Below w.heap.size w w' := by
  have hh := Lib.hid (lg_hit n)
  have hn := Lib.hid (lg_none n)
  generalize lgB n = B at hh hn
  generalize lgV n = V at hh hn
  go_enter Try.func123, Try.ntmps123
  go_wp2_with fail
  go_loopw [4, 5] (fun p i wr => ∃ k : Nat, k ≤ 13 ∧ p = .int .i64 ((2 : Int) ^ k) ∧ i = .int .i64 k ∧ Hid (∀ j, j < k → isPow n j = false) ∧ Old w wr) (fun _ i _ => 13 - (intOf i).toNat)
  case atStart => exact ⟨0, by omega, rfl, rfl, Lib.hid (fun j h => by omega), Old.refl _⟩
  case round =>
    obtain ⟨k, hk, rfl, rfl, hno, hO⟩ := hrel
    have HO := Lib.hid hO
    clear hO
    by_cases hlt : k < 13
    · have hlti : (k : Int) ≤ 12 := by omega
      have hk0 : (0 : Int) ≤ k := by omega
      obtain ⟨hp1, hp2, hp3⟩ := pow2i k hlt
      have hs : (2 : Int) ^ (k + 1) = 2 * (2 : Int) ^ k := by rw [Int.pow_succ, Int.mul_comm]
      have HS := Lib.hid hs
      clear hs
      cases hq : isPow n k
      · have hne : ((2 : Int) ^ k == n) = false := by unfold isPow at hq; rw [beq_eq_false_iff_ne]; intro h; exact absurd h.symm (by simpa using hq)
        have HN2 : Hid (∀ j, j < k + 1 → isPow n j = false) := Lib.hid fun j h2 => by
          by_cases hj : j < k
          · exact hno.out j hj
          · obtain rfl : j = k := by omega
            exact hq
        clear hq
        have HPE : ∀ x : Int, x = (2 : Int) ^ k → True := fun _ _ => trivial
        clear HPE
        have hw : IntKind.i64.wrap (2 * (2 : Int) ^ k) = 2 * (2 : Int) ^ k := by rw [IntKind.wrap_i64]; omega
        go_wp2
        exact ⟨⟨k + 1, by omega, by rw [HS.out], by go_num, HN2, HO.out⟩, by simp [intOf]; omega⟩
      · have hne : ((2 : Int) ^ k == n) = true := by unfold isPow at hq; rw [beq_iff_eq]; exact (by simpa using hq : n = (2 : Int) ^ k).symm
        obtain ⟨e1, e2⟩ := hh.out k hlt hno.out hq
        have E1 := Lib.hid e1
        have E2 := Lib.hid e2
        clear hq hh hn e1 e2
        go_wp2
        go_ret2
        rw [E1.out, E2.out]
        exact ⟨rfl, HO.out.2.2.2⟩
    · have hgt : ¬ ((k : Int) ≤ 12) := by omega
      obtain ⟨e1, e2⟩ := hn.out (fun j hj => hno.out j (by omega))
      have E1 := Lib.hid e1
      have E2 := Lib.hid e2
      clear hh hn e1 e2
      go_wp2
      go_ret2
      rw [E1.out, E2.out]
      exact ⟨rfl, HO.out.2.2.2⟩
end Go.Proofs.Ytkhcjjdamphbfaa
