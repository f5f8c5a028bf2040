/- Walk of the law ZedPeriods. -/
import Derived.Test.YtkhcjjdamphbfaaAl09
namespace Go.Proofs.Ytkhcjjdamphbfaa
open Go.RowKit Go.Shelf

theorem per_below (s : ByteArray) (k : Nat) (h1 : 1 ≤ k) (h : k < per s) : hitP s k = false := by
  unfold per at h
  split at h
  · omega
  · exact (firstN_spec (hitP s) (s.size - 1) 1).2.2.2 k h1 h
theorem per_at (s : ByteArray) (h : per s < s.size) : hitP s (per s) = true := by
  have hs : ¬ s.size = 0 := by omega
  unfold per at h ⊢
  rw [if_neg hs] at h ⊢
  exact (firstN_spec (hitP s) (s.size - 1) 1).2.2.1 (by omega)
theorem per_le (s : ByteArray) : per s ≤ s.size := by
  unfold per
  split
  · exact Nat.zero_le _
  · have := (firstN_spec (hitP s) (s.size - 1) 1).2.1
    omega

set_option maxRecDepth 100000 in
set_option maxHeartbeats 4000000 in
theorem zedPeriods_walk (s : ByteArray) (hs : s.size ≤ 140737488351232) (w : World) :
    Calls Try.prog 24 #[.string s] w fun e w' => e = .returned (.bool true) ∧ Below w.heap.size w w' := by
  by_cases hf : ((s.size : Nat) : Int) ≤ 500
  · have hle : s.size ≤ 1000 := by omega
    have hp1 := fun w => zper_any s hle w
    have hp2 := fun w => rzper_any s hle w
    have hpb := Lib.hid (per_below s)
    have hpa := Lib.hid (per_at s)
    have hpl := per_le s
    generalize per s = P at hp1 hp2 hpb hpa hpl
    have HP1 := Lib.hid hp1
    have HP2 := Lib.hid hp2
    clear hp1 hp2
    go_enter Try.func24, Try.ntmps24
    go_wp2_with (first | (go_at_call 91; refine (HP1.out _).mono ?_; rintro e w1 ⟨rfl, hb1⟩) | (go_at_call 92; refine (HP2.out _).mono ?_; rintro e w2 ⟨rfl, hb2⟩))
    refine (zrows_any s hle _).mono ?_
    rintro e w3 ⟨v3, rfl, ho3, hb3⟩
    have HB := hb1.trans ((hb2.trans (hb3.mono hb2.size)).mono hb1.size)
    obtain ⟨ad3, cp3, rfl⟩ := own_slice ho3
    have hR3 := rowI_of_ints (l := rowsL s s) (by rw [rowsL_length]; exact ho3)
    rw [rowsL_length] at hR3
    have HGI := Lib.hid (rowsL_gi s s)
    clear ho3 hb1 hb2 hb3
    go_wp2_with fail
    go_loopw [19] (fun i wr => ∃ k : Nat, k ≤ s.size ∧ i = .int .i64 k ∧ Old w3 wr) (fun i _ => s.size - (intOf i).toNat)
    case atStart => exact ⟨0, by omega, rfl, Old.refl _⟩
    case round =>
      obtain ⟨k, hk, rfl, hO⟩ := hrel
      have hR4 := (hR3.below hO.2.2.2 (Nat.le_refl _)).mono hO.2.2.1
      have HO := Lib.hid hO
      clear hR3 hO
      by_cases hlt : k < s.size
      · obtain ⟨b, o, rfl, hbm, e0⟩ := hR4.at hlt
        rw [HGI.out k hlt] at e0
        clear hR4
        have hlti : (k : Int) < s.size := by omega
        have hk0 : (0 : Int) ≤ k := by omega
        have hml := lc_le s s k
        have hw : IntKind.i64.wrap ((k : Int) + (lc s s k : Nat)) = (k : Int) + (lc s s k : Nat) := by rw [IntKind.wrap_i64]; omega
        by_cases hz : k = 0
        · have hkn : ¬ ((0 : Int) < k) := by omega
          have HZ := Lib.hid hz
          clear hz
          generalize lc s s k = m at *
          go_wp2
          exact ⟨⟨k + 1, by omega, by go_num, HO.out⟩, by simp [intOf]; omega⟩
        · have hkp : (0 : Int) < k := by omega
          by_cases hkP : k ≤ P
          · have hkPi : (k : Int) ≤ P := by omega
            by_cases hkE : k = P
            · have hh : (k : Int) + (lc s s k : Nat) = ((s.size : Nat) : Int) := by
                have := hpa.out (by omega)
                rw [← hkE] at this
                unfold hitP at this
                rw [decide_eq_true_eq] at this
                omega
              have hkEi : (k : Int) = P := by omega
              have HE := Lib.hid hkE
              clear hkE
              have h1 : (((k : Int) + (lc s s k : Nat)) == ((s.size : Nat) : Int)) = true := by rw [hh]; simp
              have h2 : ((k : Int) == (P : Int)) = true := by rw [hkEi]; simp
              clear hh hkEi
              generalize lc s s k = m at *
              go_wp2
              exact ⟨⟨k + 1, by omega, by go_num, HO.out⟩, by simp [intOf]; omega⟩
            · have hh : ¬ ((k : Int) + (lc s s k : Nat) = ((s.size : Nat) : Int)) := by
                have := hpb.out k (by omega) (by omega)
                unfold hitP at this
                rw [decide_eq_false_iff_not] at this
                omega
              have hkEi : ¬ ((k : Int) = P) := by omega
              have h1 : (((k : Int) + (lc s s k : Nat)) == ((s.size : Nat) : Int)) = false := by rw [beq_eq_false_iff_ne]; exact hh
              have h2 : ((k : Int) == (P : Int)) = false := by rw [beq_eq_false_iff_ne]; exact hkEi
              generalize lc s s k = m at *
              go_wp2
              exact ⟨⟨k + 1, by omega, by go_num, HO.out⟩, by simp [intOf]; omega⟩
          · have hkPi : ¬ ((k : Int) ≤ P) := by omega
            generalize lc s s k = m at *
            go_wp2
            exact ⟨⟨k + 1, by omega, by go_num, HO.out⟩, by simp [intOf]; omega⟩
      · obtain rfl : k = s.size := by omega
        go_wp2_with (go_at_call 84; refine (alive09 _).mono ?_; rintro e w4 ⟨rfl, hb4⟩)
        go_ret
        exact ⟨rfl, HB.trans ((HO.out.2.2.2.trans (hb4.mono HO.out.2.2.1)).mono HB.size)⟩
  · have hgt : (500 : Int) < (s.size : Nat) := by omega
    go_enter Try.func24, Try.ntmps24
    go_wp2_with (go_at_call 84; refine (alive09 _).mono ?_; rintro e w1 ⟨rfl, hb1⟩)
    go_ret
    exact ⟨rfl, hb1⟩
end Go.Proofs.Ytkhcjjdamphbfaa
