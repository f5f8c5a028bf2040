/- Walks of the leaf package and of beagleref07: free, Plain, Same, Classes, slices.Equal. -/
import Derived.Test.YtkhcjjdamphbfaaLp
namespace Go.Proofs.Ytkhcjjdamphbfaa
open Go.RowKit

set_option maxRecDepth 100000 in
set_option maxHeartbeats 1000000 in
theorem free_any (S : Nat → Bool) (w : World) :
    Calls Try.prog 111 #[cv S] w fun e w' => e = .returned (.bool (clsEq S fullS)) ∧ Below w.heap.size w w' := by
  have hS := HoldsC.new w S
  go_enter Try.func111, Try.ntmps111
  go_wp2_with fail
  obtain ⟨W0, hW0⟩ : ∃ W0 : World, w.alloc (.cells #[.int .u64 (wd S 0 : Nat), .int .u64 (wd S 1 : Nat), .int .u64 (wd S 2 : Nat), .int .u64 (wd S 3 : Nat)] 26) = W0 := ⟨_, rfl⟩
  have HB : Below w.heap.size w W0 := by subst hW0; exact (Below.refl _ _).alloc (Nat.le_refl _) _
  rw [hW0] at hS ⊢
  clear hW0
  have l0 := hS.2.2
  go_region_held3 (fun w' => Old W0 w') (first | with_reducible exact Old.start _ | with_reducible exact Old.calld (Old.refl _) (by assumption) | with_reducible exact Old.call (by assumption) (by assumption)) (first | (go_at_call 38; refine (full_any _).mono ?_; rintro e w1 ⟨rfl, hb1⟩))
  go_wp2
  go_ret
  exact ⟨rfl, HB.trans ((show Old W0 _ by assumption).2.2.2.mono HB.size)⟩

set_option maxRecDepth 100000 in
set_option maxHeartbeats 1000000 in
theorem rfree_any (S : Nat → Bool) (w : World) :
    Calls Try.prog 112 #[cv S] w fun e w' => e = .returned (.bool (clsEq S fullS)) ∧ Below w.heap.size w w' := by
  rw [← free_cnt]
  have HB : Below w.heap.size w (w.alloc (.cells #[.int .u64 (wd S 0 : Nat), .int .u64 (wd S 1 : Nat), .int .u64 (wd S 2 : Nat), .int .u64 (wd S 3 : Nat)] 26)) := (Below.refl _ _).alloc (Nat.le_refl _) _
  have hsz := fun w' => rsize_any S w'
  generalize cnt S = c at hsz ⊢
  have HZ := Lib.hid hsz
  clear hsz
  by_cases hc : c = 256
  · subst hc
    go_enter Try.func112, Try.ntmps112
    go_wp2_with (go_at_call 49; refine (HZ.out _).mono ?_; rintro e w1 ⟨rfl, hb1⟩)
    go_ret
    exact ⟨rfl, HB.trans (hb1.mono HB.size)⟩
  · have hci : ¬ ((c : Int) = 256) := by omega
    go_enter Try.func112, Try.ntmps112
    go_wp2_with (go_at_call 49; refine (HZ.out _).mono ?_; rintro e w1 ⟨rfl, hb1⟩)
    go_ret
    exact ⟨by rw [decide_eq_false hc]; show Ending.returned (.bool ((c : Int) == 256)) = _; rw [show ((c : Int) == 256) = false from by simpa using hci], HB.trans (hb1.mono HB.size)⟩

set_option maxRecDepth 100000 in
set_option maxHeartbeats 4000000 in
theorem classes_any (ad : Option Addr) (n cap : Nat) (L : Nat → Nat → Bool) (ad' : Option Addr) (n' cap' : Nat) (L' : Nat → Nat → Bool) (hn : (n : Int) ≤ 4611686018427387904) (hn' : (n' : Int) ≤ 4611686018427387904) (w : World)
    (hR : RowC w ad n L w.heap.size) (hR' : RowC w ad' n' L' w.heap.size) :
    Calls Try.prog 79 #[.slice ad n cap, .slice ad' n' cap'] w fun e w' => e = .returned (.bool (decide (n = n') && agC L L' n)) ∧ Below w.heap.size w w' := by
  by_cases hne : n = n'
  · subst hne
    go_enter Try.func79, Try.ntmps79
    go_wp2_with fail
    go_loopw [5] (fun i wr => ∃ k : Nat, k ≤ n ∧ i = .int .i64 k ∧ agC L L' k = true ∧ Old w wr) (fun i _ => n - (intOf i).toNat)
    case atStart => exact ⟨0, by omega, rfl, rfl, Old.refl _⟩
    case round =>
      obtain ⟨k, hk, rfl, hag, hO⟩ := hrel
      have hR1 := hR.below hO.2.2.2 (Nat.le_refl _)
      have hR2 := hR'.below hO.2.2.2 (Nat.le_refl _)
      have HO := Lib.hid hO
      have HA := Lib.hid hag
      clear hO hag
      by_cases hlt : k < n
      · obtain ⟨b, o, rfl, hb, e0, e1, e2, e3⟩ := hR1.at hlt
        obtain ⟨b', o', rfl, hb', f0, f1, f2, f3⟩ := hR2.at hlt
        clear hR1 hR2 hR hR'
        have hlti : (k : Int) < n := by omega
        cases hq : clsEq (L k) (L' k)
        · go_wp2_with fail
          go_region
          go_wp2
          go_ret
          refine ⟨?_, HO.out.2.2.2.drew⟩
          have : agC L L' n = false := by
            rw [Bool.eq_false_iff]
            intro h
            have := (agC_iff _ _ _).1 h k hlt
            rw [hq] at this
            cases this
          rw [this]; simp
        · go_wp2_with fail
          go_region
          go_wp2
          refine ⟨⟨k + 1, by omega, by go_num, ?_, Old.trans HO.out (Old.of (below_drewN (Below.refl _ _) _))⟩, by simp [intOf]; omega⟩
          show (agC L L' k && clsEq (L k) (L' k)) = true
          rw [HA.out, hq]; simp
      · obtain rfl : k = n := by omega
        go_wp2
        go_ret
        exact ⟨by rw [HA.out]; simp, HO.out.2.2.2⟩
  · have hni : ¬ ((n : Int) = n') := by omega
    go_enter Try.func79, Try.ntmps79
    go_wp2
    go_ret
    exact ⟨by rw [decide_eq_false hne]; simp, Below.refl _ _⟩

set_option maxRecDepth 100000 in
set_option maxHeartbeats 4000000 in
theorem equal_any (ad : Option Addr) (n cap : Nat) (L : Nat → Nat → Bool) (ad' : Option Addr) (n' cap' : Nat) (L' : Nat → Nat → Bool) (hn : (n : Int) ≤ 4611686018427387904) (hn' : (n' : Int) ≤ 4611686018427387904) (w : World)
    (hR : RowC w ad n L w.heap.size) (hR' : RowC w ad' n' L' w.heap.size) :
    Calls Try.prog 113 #[.slice ad n cap, .slice ad' n' cap'] w fun e w' => e = .returned (.bool (decide (n = n') && agC L L' n)) ∧ Below w.heap.size w w' := by
  by_cases hne : n = n'
  · subst hne
    go_enter Try.func113, Try.ntmps113
    go_wp2_with fail
    go_loopw [13] (fun i wr => ∃ k : Nat, k ≤ n ∧ i = .int .i64 k ∧ agC L L' k = true ∧ Old w wr) (fun i _ => n - (intOf i).toNat)
    case atStart => exact ⟨0, by omega, rfl, rfl, Old.refl _⟩
    case round =>
      obtain ⟨k, hk, rfl, hag, hO⟩ := hrel
      have hR1 := hR.below hO.2.2.2 (Nat.le_refl _)
      have hR2 := hR'.below hO.2.2.2 (Nat.le_refl _)
      have HO := Lib.hid hO
      have HA := Lib.hid hag
      clear hO hag
      by_cases hlt : k < n
      · obtain ⟨b, o, rfl, hb, e0, e1, e2, e3⟩ := hR1.at hlt
        obtain ⟨b', o', rfl, hb', f0, f1, f2, f3⟩ := hR2.at hlt
        clear hR1 hR2 hR hR'
        have hlti : (k : Int) < n := by omega
        cases hq : clsEq (L k) (L' k)
        · go_wp2_with fail
          go_region
          go_wp2
          go_ret
          refine ⟨?_, HO.out.2.2.2.drew⟩
          have : agC L L' n = false := by
            rw [Bool.eq_false_iff]
            intro h
            have := (agC_iff _ _ _).1 h k hlt
            rw [hq] at this
            cases this
          rw [this]; simp
        · go_wp2_with fail
          go_region
          go_wp2
          refine ⟨⟨k + 1, by omega, by go_num, ?_, Old.trans HO.out (Old.of (below_drewN (Below.refl _ _) _))⟩, by simp [intOf]; omega⟩
          show (agC L L' k && clsEq (L k) (L' k)) = true
          rw [HA.out, hq]; simp
      · obtain rfl : k = n := by omega
        go_wp2
        go_ret
        exact ⟨by rw [HA.out]; simp, HO.out.2.2.2⟩
  · have hni : ¬ ((n : Int) = n') := by omega
    go_enter Try.func113, Try.ntmps113
    go_wp2
    go_ret
    exact ⟨by rw [decide_eq_false hne]; simp, Below.refl _ _⟩

set_option maxRecDepth 100000 in
set_option maxHeartbeats 4000000 in
theorem same_any (ad : Option Addr) (n cap : Nat) (K : Int) (L : Nat → Nat → Bool) (ad' : Option Addr) (n' cap' : Nat) (K' : Int) (L' : Nat → Nat → Bool) (hn : (n : Int) ≤ 4611686018427387904) (hn' : (n' : Int) ≤ 4611686018427387904) (w : World)
    (hR : RowC w ad n L w.heap.size) (hR' : RowC w ad' n' L' w.heap.size) :
    Calls Try.prog 78 #[lv ad n cap K, lv ad' n' cap' K'] w fun e w' => e = .returned (.bool (sameB n L K n' L' K')) ∧ Below w.heap.size w w' := by
  have HB : Below w.heap.size w ((w.alloc (.cells #[.slice ad n cap, .int .i64 K] 43)).alloc (.cells #[.slice ad' n' cap', .int .i64 K'] 43)) := ((Below.refl _ _).alloc (Nat.le_refl _) _).alloc (by simp) _
  have hR1 := (hR.below HB (Nat.le_refl _)).mono HB.size
  have hR2 := (hR'.below HB (Nat.le_refl _)).mono HB.size
  unfold sameB
  by_cases hk : K = K'
  · subst hk
    go_enter Try.func78, Try.ntmps78
    go_wp2_with (go_at_call 113; refine (equal_any ad n cap L ad' n' cap' L' hn hn' _ hR1 hR2).mono ?_; rintro e w1 ⟨rfl, hb1⟩)
    go_ret
    exact ⟨by simp, HB.trans (hb1.mono HB.size)⟩
  · go_enter Try.func78, Try.ntmps78
    go_wp2_with fail
    go_ret
    exact ⟨by rw [decide_eq_false hk]; rfl, HB⟩

set_option maxRecDepth 100000 in
set_option maxHeartbeats 4000000 in
theorem rsame_any (ad : Option Addr) (n cap : Nat) (K : Int) (L : Nat → Nat → Bool) (ad' : Option Addr) (n' cap' : Nat) (K' : Int) (L' : Nat → Nat → Bool) (hn : (n : Int) ≤ 4611686018427387904) (hn' : (n' : Int) ≤ 4611686018427387904) (w : World)
    (hR : RowC w ad n L w.heap.size) (hR' : RowC w ad' n' L' w.heap.size) :
    Calls Try.prog 75 #[lv ad n cap K, lv ad' n' cap' K'] w fun e w' => e = .returned (.bool (sameB n L K n' L' K')) ∧ Below w.heap.size w w' := by
  have HB : Below w.heap.size w ((w.alloc (.cells #[.slice ad n cap, .int .i64 K] 43)).alloc (.cells #[.slice ad' n' cap', .int .i64 K'] 43)) := ((Below.refl _ _).alloc (Nat.le_refl _) _).alloc (by simp) _
  have hR1 := (hR.below HB (Nat.le_refl _)).mono HB.size
  have hR2 := (hR'.below HB (Nat.le_refl _)).mono HB.size
  unfold sameB
  by_cases hk : K = K'
  · subst hk
    go_enter Try.func75, Try.ntmps75
    go_wp2_with (go_at_call 79; refine (classes_any ad n cap L ad' n' cap' L' hn hn' _ hR1 hR2).mono ?_; rintro e w1 ⟨rfl, hb1⟩)
    go_ret
    exact ⟨by simp, HB.trans (hb1.mono HB.size)⟩
  · go_enter Try.func75, Try.ntmps75
    go_wp2_with fail
    go_ret
    exact ⟨by rw [decide_eq_false hk]; rfl, HB⟩
end Go.Proofs.Ytkhcjjdamphbfaa
