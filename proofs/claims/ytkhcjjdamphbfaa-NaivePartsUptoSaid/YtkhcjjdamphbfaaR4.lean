/- Walks of the reference classes, fourth part: Size, Single. -/
import Derived.Test.YtkhcjjdamphbfaaR3
namespace Go.Proofs.Ytkhcjjdamphbfaa
open Go.RowKit

theorem own_bools {S : Nat → Bool} {k : Nat} : cntN S (k + 1) = cntN S k + (if S k then 1 else 0) := rfl

set_option maxHeartbeats 1000000 in
set_option maxRecDepth 100000 in
theorem rsize_any (S : Nat → Bool) (w : World) :
    Calls Try.prog 49 #[cv S] w fun e w' => e = .returned (.int .i64 (cnt S)) ∧ Below w.heap.size w w' := by
  go_enter Try.func49, Try.ntmps49
  go_wp2_with fail
  refine (rbytes_any S _).mono ?_
  rintro e w1 ⟨g, cap, rfl, hg, hbl, hb1⟩
  have hb : Below w.heap.size w w1 := ((Below.refl _ _).alloc (Nat.le_refl _) _).trans (hb1.mono (by simp))
  clear hb1
  go_wp2
  go_loop [3, 5] (fun n i => ∃ k m : Nat, k ≤ 256 ∧ m ≤ 256 ∧ i = .int .i64 k ∧ n = .int .i64 m ∧ Hid (m = cntN S k)) (fun _ i => 256 - (intOf i).toNat)
  case atStart => exact ⟨0, 0, by omega, by omega, rfl, rfl, rfl⟩
  case round =>
    obtain ⟨k, m, hk, hm, rfl, rfl, HM⟩ := hrel
    by_cases hlt : k < 256
    · have hcell := hbl.cells k hlt
      have hle := cntN_le S (k + 1)
      cases hS : S k
      · rw [hS] at hcell
        go_wp2
        exact ⟨⟨k + 1, m, by omega, by omega, by go_num, rfl, show m = _ by rw [own_bools, hS]; simpa using HM.out⟩, by simp [intOf]; omega⟩
      · rw [hS] at hcell
        have hm1 : m + 1 ≤ 256 := by have := HM.out; rw [own_bools, hS] at hle; simp at hle; omega
        go_wp2
        exact ⟨⟨k + 1, m + 1, by omega, by omega, by go_num, by go_num, show m + 1 = _ by rw [own_bools, hS, ← HM.out]; rfl⟩, by simp [intOf]; omega⟩
    · obtain rfl : k = 256 := by omega
      go_wp2
      go_ret
      exact ⟨by rw [show cnt S = m from HM.out.symm]; rfl, hb⟩

theorem one_cnt (S : Nat → Bool) : one S = decide (cnt S = 1) := rfl

set_option maxHeartbeats 1000000 in
set_option maxRecDepth 100000 in
theorem rsingle_any (S : Nat → Bool) (w : World) :
    Calls Try.prog 45 #[cv S] w fun e w' => e = .returned (.tuple #[.int .u8 (sgl S), .bool (one S)]) ∧ Below w.heap.size w w' := by
  have hcle : cnt S ≤ 256 := cntN_le S 256
  obtain ⟨n, hn⟩ : ∃ n, n = cnt S := ⟨_, rfl⟩
  have HN := Lib.hid hn
  have hsz := rsize_any S
  rw [← hn] at hsz hcle
  have HSZ := Lib.hid hsz
  clear hsz hn
  go_enter Try.func45, Try.ntmps45
  go_wp2_with fail
  refine (HSZ.out _).mono ?_
  rintro e w1 ⟨rfl, hb1⟩
  have hcl := (HoldsC.new w S).below hb1 (by simp)
  have hb : Below w.heap.size w w1 := ((Below.refl _ _).alloc (Nat.le_refl _) _).trans (hb1.mono (by simp))
  clear hb1
  by_cases h1 : n = 1
  · have ho : one S = true := by rw [one_cnt, ← HN.out, h1]; rfl
    have hf := ((one_iff S).1 (by rw [← HN.out, h1])).1
    have hin := first_in S hf
    have hno := first_none S
    have hs := sgl_yes ho
    obtain ⟨f, hff⟩ : ∃ f, f = first S := ⟨_, rfl⟩
    rw [← hff] at hf hin hno hs
    have HO := Lib.hid ho
    have HI := Lib.hid hin
    have HNO := Lib.hid hno
    have HS := Lib.hid hs
    clear ho hin hno hs hff
    subst h1
    go_wp2
    go_loopw [4] (fun i wr => ∃ k : Nat, k ≤ f ∧ i = .int .i64 k ∧ HoldsC wr w.heap.size S ∧ Below w.heap.size w wr) (fun i _ => 256 - (intOf i).toNat)
    case atStart => exact ⟨0, by omega, rfl, hcl, hb⟩
    case round =>
      obtain ⟨k, hk, rfl, hcl, hb⟩ := hrel
      have HC := Lib.hid hcl
      obtain ⟨⟨c0, c1, c2, c3⟩, ⟨f0, f1, f2, f3⟩, hl⟩ := hcl
      by_cases hlt : k < f
      · have hSk := HNO.out k hlt
        go_wp2_with (go_at_call 47; refine (rhas_any S _ (by omega) (by omega) _).mono ?_; rintro e w2 ⟨rfl, hb2⟩)
        exact ⟨⟨k + 1, by omega, by go_num, HC.out.below hb2 hl, hb.trans (hb2.mono (by omega))⟩, by simp [intOf]; omega⟩
      · obtain rfl : k = f := by omega
        have hSk := HI.out
        go_wp2_with (go_at_call 47; refine (rhas_any S _ (by omega) (by omega) _).mono ?_; rintro e w2 ⟨rfl, hb2⟩)
        go_ret2
        exact ⟨by rw [HS.out, HO.out]; rfl, hb.trans (hb2.mono (by omega))⟩
  · have ho : one S = false := by rw [one_cnt, ← HN.out]; simp [h1]
    have HO := Lib.hid ho
    have hne : ((n : Int) != 1) = true := by rw [bne_iff_ne]; omega
    clear ho
    go_wp2
    go_ret2
    exact ⟨by rw [sgl_no HO.out, HO.out]; rfl, hb⟩
end Go.Proofs.Ytkhcjjdamphbfaa
