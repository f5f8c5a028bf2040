/- What the ways cost: walks of the functions of the map in plan.Cost. -/
import Derived.Test.YtkhcjjdamphbfaaK5
import Derived.Test.YtkhcjjdamphbfaaKm
namespace Go.Proofs.Ytkhcjjdamphbfaa
open Go.RowKit

theorem mul_in {a b A B : Int} (ha : 0 ≤ a) (hA : a ≤ A) (hb : 0 ≤ b) (hB : b ≤ B) : 0 ≤ a * b ∧ a * b ≤ A * B :=
  ⟨Int.mul_nonneg ha hb, Int.mul_le_mul hA hB hb (Int.le_trans ha hA)⟩
/-- What each way costs. -/
def cs1 (m N : Int) : Int := m * (N - m + 1)
def cs2 (m N : Int) : Int := 4 * (N + m)
def cs3 (x N : Int) : Int := 2 * x + 4 * N
def cs4 (x N k : Int) : Int := (x + N) * k + N
def cs5 (x N f r : Int) : Int := (x + N) * f + N * r + N

set_option maxRecDepth 100000 in
theorem cost1_any (bm bn : Nat) (m N : Int) (hm : 0 ≤ m) (hm2 : m ≤ 1000) (hN : m ≤ N) (hN2 : N ≤ 100000) (w : World) (c0 : w.cell? ⟨bm, 0, none⟩ = some (.int .i64 m)) (c1 : w.cell? ⟨bn, 0, none⟩ = some (.int .i64 N)) :
    Calls Try.prog 118 #[.pointer (some ⟨bm, 0, none⟩), .pointer (some ⟨bn, 0, none⟩)] w fun e w' => e = .returned (.int .i64 (cs1 m N)) ∧ Below w.heap.size w w' := by
  have hp := mul_in hm hm2 (show 0 ≤ N - m + 1 by omega) (show N - m + 1 ≤ 100001 by omega)
  unfold cs1
  have hw : IntKind.i64.wrap (m * (N - m + 1)) = m * (N - m + 1) := by rw [IntKind.wrap_i64]; omega
  go_enter Try.func118, Try.ntmps118
  go_wp2
  go_ret
  exact ⟨rfl, Below.refl _ _⟩
set_option maxRecDepth 100000 in
theorem cost2_any (bm bn : Nat) (m N : Int) (hm : 0 ≤ m) (hm2 : m ≤ 1000) (hN : m ≤ N) (hN2 : N ≤ 100000) (w : World) (c0 : w.cell? ⟨bm, 0, none⟩ = some (.int .i64 m)) (c1 : w.cell? ⟨bn, 0, none⟩ = some (.int .i64 N)) :
    Calls Try.prog 119 #[.pointer (some ⟨bn, 0, none⟩), .pointer (some ⟨bm, 0, none⟩)] w fun e w' => e = .returned (.int .i64 (cs2 m N)) ∧ Below w.heap.size w w' := by
  unfold cs2
  go_enter Try.func119, Try.ntmps119
  go_wp2
  go_ret
  exact ⟨rfl, Below.refl _ _⟩
set_option maxRecDepth 100000 in
theorem cost3_any (bx bn : Nat) (x N : Int) (hx : 0 ≤ x) (hx2 : x ≤ 100000000000) (hN : 0 ≤ N) (hN2 : N ≤ 100000) (w : World) (c0 : w.cell? ⟨bx, 0, none⟩ = some (.int .i64 x)) (c1 : w.cell? ⟨bn, 0, none⟩ = some (.int .i64 N)) :
    Calls Try.prog 120 #[.pointer (some ⟨bx, 0, none⟩), .pointer (some ⟨bn, 0, none⟩)] w fun e w' => e = .returned (.int .i64 (cs3 x N)) ∧ Below w.heap.size w w' := by
  unfold cs3
  go_enter Try.func120, Try.ntmps120
  go_wp2
  go_ret
  exact ⟨rfl, Below.refl _ _⟩
set_option maxRecDepth 100000 in
theorem cost5_any (bx bn bf br : Nat) (x N f r : Int) (hx : 0 ≤ x) (hx2 : x ≤ 100000000000) (hN : 0 ≤ N) (hN2 : N ≤ 100000) (hf : 0 ≤ f) (hf2 : f ≤ 1000) (hr : 0 ≤ r) (hr2 : r ≤ 2000) (w : World) (c0 : w.cell? ⟨bx, 0, none⟩ = some (.int .i64 x)) (c1 : w.cell? ⟨bn, 0, none⟩ = some (.int .i64 N)) (c2 : w.cell? ⟨bf, 0, none⟩ = some (.int .i64 f)) (c3 : w.cell? ⟨br, 0, none⟩ = some (.int .i64 r)) :
    Calls Try.prog 122 #[.pointer (some ⟨bx, 0, none⟩), .pointer (some ⟨bn, 0, none⟩), .pointer (some ⟨bf, 0, none⟩), .pointer (some ⟨br, 0, none⟩)] w fun e w' => e = .returned (.int .i64 (cs5 x N f r)) ∧ Below w.heap.size w w' := by
  have hp := mul_in (show 0 ≤ x + N by omega) (show x + N ≤ 100000100000 by omega) hf hf2
  have hq := mul_in hN hN2 hr hr2
  unfold cs5
  have hw : IntKind.i64.wrap ((x + N) * f) = (x + N) * f := by rw [IntKind.wrap_i64]; omega
  have hw2 : IntKind.i64.wrap (N * r) = N * r := by rw [IntKind.wrap_i64]; omega
  have hw3 : IntKind.i64.wrap ((x + N) * f + N * r) = (x + N) * f + N * r := by rw [IntKind.wrap_i64]; omega
  have hw4 : IntKind.i64.wrap ((x + N) * f + N * r + N) = (x + N) * f + N * r + N := by rw [IntKind.wrap_i64]; omega
  go_enter Try.func122, Try.ntmps122
  go_wp2
  go_ret
  exact ⟨rfl, Below.refl _ _⟩
set_option maxRecDepth 100000 in
set_option maxHeartbeats 4000000 in
theorem cost4_any (bx bn bl : Nat) (x N : Int) (hx : 0 ≤ x) (hx2 : x ≤ 100000000000) (hN : 0 ≤ N) (hN2 : N ≤ 100000) (ad : Option Addr) (n cap : Nat) (K : Int) (L : Nat → Nat → Bool) (hn : (n : Int) ≤ 1000) (w : World) (hR : RowC w ad n L w.heap.size) (hl : HoldsL w bl ad n cap K) (q0 : w.cell? ⟨bx, 0, none⟩ = some (.int .i64 x)) (q1 : w.cell? ⟨bn, 0, none⟩ = some (.int .i64 N)) (l0 : bx < w.heap.size) (l1 : bn < w.heap.size) :
    Calls Try.prog 121 #[.pointer (some ⟨bx, 0, none⟩), .pointer (some ⟨bn, 0, none⟩), .pointer (some ⟨bl, 0, none⟩)] w fun e w' => e = .returned (.int .i64 (cs4 x N ((kindsTo L n).length : Nat))) ∧ Below w.heap.size w w' := by
  have hkl := kindsTo_length L n
  have hk := fun w' h' => kinds_any ad n cap K L (by omega) w' h'
  generalize hkk : kindsTo L n = kk at hk hkl
  have HK := Lib.hid hk
  clear hk hkk
  obtain ⟨k, hke⟩ : ∃ k, k = kk.length := ⟨_, rfl⟩
  rw [← hke] at hkl HK ⊢
  have hp := mul_in (show 0 ≤ x + N by omega) (show x + N ≤ 100000100000 by omega) (show (0 : Int) ≤ (k : Nat) by omega) (show ((k : Nat) : Int) ≤ 1000 by omega)
  unfold cs4
  have hw : IntKind.i64.wrap ((x + N) * k) = (x + N) * k := by rw [IntKind.wrap_i64]; omega
  have hw4 : IntKind.i64.wrap ((x + N) * k + N) = (x + N) * k + N := by rw [IntKind.wrap_i64]; omega
  have hw0 : IntKind.i64.wrap (x + N) = x + N := by rw [IntKind.wrap_i64]; omega
  obtain ⟨c0, c1, cl⟩ := hl
  clear hke
  go_enter Try.func121, Try.ntmps121
  go_wp2_with fail
  go_region_held3 (fun w' => Old w w') (first | with_reducible exact Old.start _ | with_reducible exact Old.calld (Old.refl _) (by assumption) | with_reducible exact Old.call (by assumption) (by assumption)) (first | (go_at_call 80; refine (HK.out _ ((hR.below (show Old w _ by with_reducible assumption).2.2.2 (Nat.le_refl _)).mono (show Old w _ by with_reducible assumption).2.2.1)).mono ?_; rintro e w4 ⟨v4, rfl, ho4, hb4⟩; obtain ⟨adw, cpw, rfl⟩ := own_slice ho4))
  all_goals go_wp2
  all_goals go_ret
  all_goals exact ⟨rfl, (show Old w _ by assumption).2.2.2⟩
end Go.Proofs.Ytkhcjjdamphbfaa
