/- Walk of the closure of zed.rows. -/
import Derived.Test.YtkhcjjdamphbfaaZp
import Derived.Test.YtkhcjjdamphbfaaN3
namespace Go.Proofs.Ytkhcjjdamphbfaa
open Go.RowKit Go.Shelf

set_option maxRecDepth 100000 in
set_option maxHeartbeats 4000000 in
theorem seen_past (i to : Nat) (bt bo bf bu : Nat) (hi : to ≤ i) (w : World) (ht : Boxed w bt 3 (.int .i64 (to : Nat))) :
    Calls Try.prog 127 #[.int .i64 (i : Nat), .pointer (some ⟨bt, 0, none⟩), .pointer (some ⟨bo, 0, none⟩), .pointer (some ⟨bf, 0, none⟩), .pointer (some ⟨bu, 0, none⟩)] w fun e w' => e = .returned (.int .i64 0) ∧ Below w.heap.size w w' := by
  have c1 := ht.cell
  have hge : (to : Int) ≤ i := by omega
  clear ht
  go_enter Try.func127, Try.ntmps127
  go_wp2
  go_ret
  exact ⟨rfl, Below.refl _ _⟩

set_option maxRecDepth 100000 in
set_option maxHeartbeats 4000000 in
theorem seen_own (i fr to : Nat) (bt bo bf bu : Nat) (hi : i < to) (hto : to ≤ 1000000) (hf : fr ≤ i) (g o n cap : Nat) (A : Nat → Int) (hn : i - fr < n) (w : World) (ht : Boxed w bt 3 (.int .i64 (to : Nat))) (hfr : Boxed w bf 3 (.int .i64 (fr : Nat))) (ho : Boxed w bo 48 (.slice (some ⟨g, o, none⟩) n cap))
    (hc : w.cell? ⟨g, o + (i - fr), none⟩ = some (.int .i64 (A (i - fr)))) :
    Calls Try.prog 127 #[.int .i64 (i : Nat), .pointer (some ⟨bt, 0, none⟩), .pointer (some ⟨bo, 0, none⟩), .pointer (some ⟨bf, 0, none⟩), .pointer (some ⟨bu, 0, none⟩)] w fun e w' => e = .returned (.int .i64 (min (A (i - fr)) ((to : Int) - i))) ∧ Below w.heap.size w w' := by
  have c1 := ht.cell
  have c2 := hfr.cell
  have c3 := ho.cell
  have hlt : (i : Int) < to := by omega
  have hlt2 : ¬ to ≤ i := by omega
  obtain ⟨d, hd⟩ : ∃ d, d = i - fr := ⟨_, rfl⟩
  rw [← hd] at hc hn ⊢
  have hw1 : IntKind.i64.wrap ((i : Int) - fr) = (d : Int) := by rw [IntKind.wrap_i64]; omega
  have hw2 : IntKind.i64.wrap ((to : Int) - i) = (to : Int) - i := by rw [IntKind.wrap_i64]; omega
  have hd0 : (0 : Int) ≤ d := by omega
  have hdn : (d : Int) < n := by omega
  clear hd ht hfr ho
  by_cases hq : (to : Int) - i < A d
  · rw [Int.min_eq_right (by omega)]
    go_enter Try.func127, Try.ntmps127
    go_wp2_with fail
    go_region
    go_wp2
    go_ret
    exact ⟨rfl, (Below.refl _ _).drew⟩
  · rw [Int.min_eq_left (by omega)]
    go_enter Try.func127, Try.ntmps127
    go_wp2_with fail
    go_region
    go_wp2
    go_ret
    exact ⟨rfl, (Below.refl _ _).drew⟩

set_option maxRecDepth 100000 in
set_option maxHeartbeats 4000000 in
theorem seen_out (i fr to : Nat) (bt bo bf bu : Nat) (hi : i < to) (hto : to ≤ 1000000) (hf : fr ≤ i) (g o n cap : Nat) (A : Nat → Int) (hn : i - fr < n) (w : World) (ht : Boxed w bt 3 (.int .i64 (to : Nat))) (hfr : Boxed w bf 3 (.int .i64 (fr : Nat))) (ho : Boxed w bo 48 (.slice none 0 0)) (hu : Boxed w bu 48 (.slice (some ⟨g, o, none⟩) n cap))
    (hc : w.cell? ⟨g, o + (i - fr), none⟩ = some (.int .i64 (A (i - fr)))) :
    Calls Try.prog 127 #[.int .i64 (i : Nat), .pointer (some ⟨bt, 0, none⟩), .pointer (some ⟨bo, 0, none⟩), .pointer (some ⟨bf, 0, none⟩), .pointer (some ⟨bu, 0, none⟩)] w fun e w' => e = .returned (.int .i64 (min (A (i - fr)) ((to : Int) - i))) ∧ Below w.heap.size w w' := by
  have c1 := ht.cell
  have c2 := hfr.cell
  have c3 := ho.cell
  have c4 := hu.cell
  have hlt : (i : Int) < to := by omega
  have hlt2 : ¬ to ≤ i := by omega
  obtain ⟨d, hd⟩ : ∃ d, d = i - fr := ⟨_, rfl⟩
  rw [← hd] at hc hn ⊢
  have hw1 : IntKind.i64.wrap ((i : Int) - fr) = (d : Int) := by rw [IntKind.wrap_i64]; omega
  have hw2 : IntKind.i64.wrap ((to : Int) - i) = (to : Int) - i := by rw [IntKind.wrap_i64]; omega
  have hd0 : (0 : Int) ≤ d := by omega
  have hdn : (d : Int) < n := by omega
  clear hd ht hfr ho hu
  by_cases hq : (to : Int) - i < A d
  · rw [Int.min_eq_right (by omega)]
    go_enter Try.func127, Try.ntmps127
    go_wp2_with fail
    go_region
    go_wp2
    go_ret
    exact ⟨rfl, (Below.refl _ _).drew⟩
  · rw [Int.min_eq_left (by omega)]
    go_enter Try.func127, Try.ntmps127
    go_wp2_with fail
    go_region
    go_wp2
    go_ret
    exact ⟨rfl, (Below.refl _ _).drew⟩

end Go.Proofs.Ytkhcjjdamphbfaa
