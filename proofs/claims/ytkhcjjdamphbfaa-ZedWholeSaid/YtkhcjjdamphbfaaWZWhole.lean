/- Walk of the law ZedWhole. -/
import Derived.Test.YtkhcjjdamphbfaaAl09
import Derived.Test.YtkhcjjdamphbfaaZw
namespace Go.Proofs.Ytkhcjjdamphbfaa
open Go.RowKit Go.Shelf

set_option maxRecDepth 100000 in
set_option maxHeartbeats 4000000 in
theorem zedWhole_walk (s : ByteArray) (hs : s.size ≤ 140737488351232) (w : World) :
    Calls Try.prog 25 #[.string s] w fun e w' => e = .returned (.bool true) ∧ Below w.heap.size w w' := by
  by_cases hf : ((s.size : Nat) : Int) ≤ 300
  · by_cases h0 : s.size = 0
    · have he := empty_of_size s h0
      go_enter Try.func25, Try.ntmps25
      go_wp2_with (go_at_call 84; refine (alive09 _).mono ?_; rintro e w1 ⟨rfl, hb1⟩)
      go_ret
      exact ⟨rfl, hb1⟩
    · have he := full_of_size s (by omega)
      have hle : s.size ≤ 1000 := by omega
      have hp1 := fun w => zper_any s hle w
      have hsz : (s ++ s).size = s.size + s.size := ByteArray.size_append
      have hz := fun w => zfind_any s (s ++ s) hle (by omega) w
      rw [twice_zf s (by omega)] at hz
      have hpp := per_pos s (by omega)
      have hpl := per_le' s
      have hcat : ¬ (9223372036854775807 < s.size + s.size) := by omega
      have hcat2 : s.size + s.size ≤ 9223372036854775807 := by omega
      have hst : stepW s = if s.size % per s = 0 then per s else s.size := rfl
      have hst0 := stepW_pos s (by omega)
      have hgl : stepW s ≤ s.size := by rw [hst]; split <;> omega
      have hcat : ¬ (9223372036854775807 < s.size + s.size) := by omega
      have hcat2 : s.size + s.size ≤ 9223372036854775807 := by omega
      generalize stepW s = g at hz hst hst0 hgl
      generalize per s = P at hp1 hpp hpl hst
      have hll : ((List.range (s.size / g + 1)).map fun m => ((m * g : Nat) : Int)).length = s.size / g + 1 := by simp
      have hgi : ∀ k, k < s.size / g + 1 → gi ((List.range (s.size / g + 1)).map fun m => ((m * g : Nat) : Int)) k = (k : Int) * g := fun k hk => by
        unfold gi
        rw [List.getElem?_map, List.getElem?_range hk]
        simp
      have hmul : ∀ k, k < s.size / g + 1 → k * g ≤ s.size := fun k hk => Nat.le_trans (Nat.mul_le_mul_right g (by omega : k ≤ s.size / g)) (Nat.div_mul_le_self _ _)
      have hqn : s.size / g ≤ s.size := Nat.div_le_self _ _
      have hqi : ((s.size : Nat) : Int) / (g : Int) = ((s.size / g : Nat) : Int) := (Int.natCast_ediv _ _).symm
      generalize ((List.range (s.size / g + 1)).map fun m => ((m * g : Nat) : Int)) = l at hz hll hgi
      generalize s.size / g = Q at hll hgi hmul hqn hqi
      rw [hll] at hz
      have HP1 := Lib.hid hp1
      have HZ := Lib.hid hz
      have HGI := Lib.hid hgi
      have HMUL := Lib.hid hmul
      have HLL := Lib.hid hll
      clear hp1 hz hsz hgi hmul hll
      have hP1 : ¬ ((P : Int) < 1) := by omega
      have hP0 : ¬ ((P : Int) = 0) := by omega
      have hg0 : ¬ ((g : Int) = 0) := by omega
      have tail : ∀ (w2 : World) (ad2 : Option Addr) (cp2 : Nat), True := fun _ _ _ => trivial
      clear tail
      by_cases hm : s.size % P = 0
      · rw [if_pos hm] at hst
        subst hst
        have hrm : (((s.size : Nat) : Int) % (g : Int) == 0) = true := by
          rw [beq_iff_eq]; have : ((s.size % g : Nat) : Int) = 0 := by rw [hm]; rfl
          rw [← this]; exact (Int.natCast_emod _ _).symm
        clear hm
        go_enter Try.func25, Try.ntmps25
        go_wp2_with (first | (go_at_call 91; refine (HP1.out _).mono ?_; rintro e w1 ⟨rfl, hb1⟩) | (go_at_call 87; refine (HZ.out _).mono ?_; rintro e w2 ⟨v2, rfl, ho2, hb2⟩; obtain ⟨ad2, cp2, rfl⟩ := own_slice ho2))
        have HB2 := hb1.trans (hb2.mono hb1.size)
        have hR2 := rowI_of_ints (l := l) (by rw [HLL.out]; exact ho2)
        rw [HLL.out] at hR2
        clear ho2 hb1 hb2
        go_loopw [43] (fun i wr => ∃ k : Nat, k ≤ (Q + 1) ∧ i = .int .i64 k ∧ Old w2 wr) (fun i _ => (Q + 1) - (intOf i).toNat)
        case atStart => exact ⟨0, by omega, rfl, Old.refl _⟩
        case round =>
          obtain ⟨k, hk, rfl, hO⟩ := hrel
          have hR4 := (hR2.below hO.2.2.2 (Nat.le_refl _)).mono hO.2.2.1
          have HO := Lib.hid hO
          clear hR2 hO
          by_cases hlt : k < (Q + 1)
          · obtain ⟨b, o, rfl, hbm, e0⟩ := hR4.at hlt
            rw [HGI.out k hlt] at e0
            clear hR4
            have hmk := HMUL.out k hlt
            have hmki : (k : Int) * g = ((k * g : Nat) : Int) := (Int.natCast_mul _ _).symm
            have hw : IntKind.i64.wrap ((k : Int) * g) = (k : Int) * g := by rw [IntKind.wrap_i64]; omega
            clear hmki
            have hlti : (k : Int) < (Q : Int) + 1 := by omega
            have hk0 : (0 : Int) ≤ k := by omega
            go_wp2
            exact ⟨⟨k + 1, by omega, by go_num, HO.out⟩, by simp [intOf]; omega⟩
          · obtain rfl : k = (Q + 1) := by omega
            go_wp2_with (go_at_call 84; refine (alive09 _).mono ?_; rintro e w4 ⟨rfl, hb4⟩)
            go_ret
            exact ⟨rfl, HB2.trans ((HO.out.2.2.2.trans (hb4.mono HO.out.2.2.1)).mono HB2.size)⟩
      · rw [if_neg hm] at hst
        subst hst
        have hrm : (((s.size : Nat) : Int) % (P : Int) == 0) = false := by
          rw [beq_eq_false_iff_ne]; intro h; exact hm (by have := Int.natCast_emod s.size P; omega)
        clear hm
        obtain rfl : Q = 1 := by rw [Int.ediv_self hg0] at hqi; omega
        simp only [Nat.reduceAdd] at HZ HGI HMUL HLL
        go_enter Try.func25, Try.ntmps25
        go_wp2_with (first | (go_at_call 91; refine (HP1.out _).mono ?_; rintro e w1 ⟨rfl, hb1⟩) | (go_at_call 87; refine (HZ.out _).mono ?_; rintro e w2 ⟨v2, rfl, ho2, hb2⟩; obtain ⟨ad2, cp2, rfl⟩ := own_slice ho2))
        have HB2 := hb1.trans (hb2.mono hb1.size)
        have hR2 := rowI_of_ints (l := l) (by rw [HLL.out]; exact ho2)
        rw [HLL.out] at hR2
        clear ho2 hb1 hb2
        go_loopw [43] (fun i wr => ∃ k : Nat, k ≤ 2 ∧ i = .int .i64 k ∧ Old w2 wr) (fun i _ => 2 - (intOf i).toNat)
        case atStart => exact ⟨0, by omega, rfl, Old.refl _⟩
        case round =>
          obtain ⟨k, hk, rfl, hO⟩ := hrel
          have hR4 := (hR2.below hO.2.2.2 (Nat.le_refl _)).mono hO.2.2.1
          have HO := Lib.hid hO
          clear hR2 hO
          by_cases hlt : k < 2
          · obtain ⟨b, o, rfl, hbm, e0⟩ := hR4.at hlt
            rw [HGI.out k hlt] at e0
            clear hR4
            have hmk := HMUL.out k hlt
            have hmki : (k : Int) * s.size = ((k * s.size : Nat) : Int) := (Int.natCast_mul _ _).symm
            have hw : IntKind.i64.wrap ((k : Int) * s.size) = (k : Int) * s.size := by rw [IntKind.wrap_i64]; omega
            clear hmki
            have hlti : (k : Int) < 2 := by omega
            have hk0 : (0 : Int) ≤ k := by omega
            go_wp2
            exact ⟨⟨k + 1, by omega, by go_num, HO.out⟩, by simp [intOf]; omega⟩
          · obtain rfl : k = 2 := by omega
            go_wp2_with (go_at_call 84; refine (alive09 _).mono ?_; rintro e w4 ⟨rfl, hb4⟩)
            go_ret
            exact ⟨rfl, HB2.trans ((HO.out.2.2.2.trans (hb4.mono HO.out.2.2.1)).mono HB2.size)⟩
  · have hgt : (300 : Int) < (s.size : Nat) := by omega
    go_enter Try.func25, Try.ntmps25
    go_wp2_with (go_at_call 84; refine (alive09 _).mono ?_; rintro e w1 ⟨rfl, hb1⟩)
    go_ret
    exact ⟨rfl, hb1⟩
end Go.Proofs.Ytkhcjjdamphbfaa
