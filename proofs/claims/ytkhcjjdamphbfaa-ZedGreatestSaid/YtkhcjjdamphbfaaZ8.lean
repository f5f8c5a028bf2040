/- Walks of zed.Period and of beagleref09.Period. -/
import Derived.Test.YtkhcjjdamphbfaaZ7
namespace Go.Proofs.Ytkhcjjdamphbfaa
open Go.RowKit Go.Shelf

/-- Does the text end as it begins, moved on by k? -/
def hitP (s : ByteArray) (k : Nat) : Bool := decide (k + lc s s k = s.size)
/-- The shortest step by which a text repeats itself. -/
def per (s : ByteArray) : Nat := if s.size = 0 then 0 else firstN (hitP s) 1 (s.size - 1)
theorem per_hit (s : ByteArray) (k : Nat) (h1 : 1 ≤ k) (hk : k < s.size) (hb : ∀ j, 1 ≤ j → j < k → hitP s j = false) (hh : hitP s k = true) : per s = k := by
  unfold per
  rw [if_neg (by omega)]
  obtain ⟨a, b, c, d⟩ := firstN_spec (hitP s) (s.size - 1) 1
  rcases Nat.lt_trichotomy (firstN (hitP s) 1 (s.size - 1)) k with h | h | h
  · have := c (by omega)
    rw [hb _ a h] at this
    cases this
  · exact h
  · rw [d k h1 h] at hh
    cases hh
theorem per_none (s : ByteArray) (hb : ∀ j, 1 ≤ j → j < s.size → hitP s j = false) : per s = s.size := by
  unfold per
  split
  · omega
  · obtain ⟨a, b, c, d⟩ := firstN_spec (hitP s) (s.size - 1) 1
    by_cases h : firstN (hitP s) 1 (s.size - 1) < 1 + (s.size - 1)
    · have := c h
      rw [hb _ a (by omega)] at this
      cases this
    · omega
/-- Do the first k bytes stand again p places on? -/
def isP (s : ByteArray) (p : Nat) (k : Nat) : Bool := allN (fun i => tb s i == tb s (i + p)) k
theorem isP_full (s : ByteArray) (p q : Nat) (h : q + p = s.size) : isP s p q = hitP s p := by
  unfold hitP
  rw [Bool.eq_iff_iff, decide_eq_true_eq]
  unfold isP
  rw [allN_iff]
  constructor
  · intro ha
    have : lc s s p = q := by
      refine lc_eq (fun j hj => (good_iff _ _ _ _).2 ⟨by omega, by omega, ?_⟩) (by rw [Bool.eq_false_iff]; intro hg; have := (good_iff _ _ _ _).1 hg; omega)
      have := ha j hj
      rw [beq_iff_eq] at this
      rw [this, Nat.add_comm]
    omega
  · intro hl j hj
    have := ((good_iff _ _ _ _).1 ((lc_spec s s p).1 j (by omega))).2.2
    rw [beq_iff_eq, this, Nat.add_comm]

set_option maxRecDepth 100000 in
set_option maxHeartbeats 4000000 in
theorem zper_any (s : ByteArray) (hs : s.size ≤ 1000) (w : World) :
    Calls Try.prog 91 #[.string s] w fun e w' => e = .returned (.int .i64 (per s : Nat)) ∧ Below w.heap.size w w' := by
  have hph := Lib.hid (per_hit s)
  have hpn := Lib.hid (per_none s)
  generalize per s = P at hph hpn
  go_enter Try.func91, Try.ntmps91
  go_wp2_with fail
  refine (zrows_any s hs _).mono ?_
  rintro e w2 ⟨v2, rfl, ho2, hb2⟩
  obtain ⟨ad2, cp2, rfl⟩ := own_slice ho2
  have hR2 := rowI_of_ints (l := rowsL s s) (by rw [rowsL_length]; exact ho2)
  rw [rowsL_length] at hR2
  have HGI := Lib.hid (rowsL_gi s s)
  clear ho2
  go_wp2_with fail
  go_loopw [8] (fun i wr => ∃ k : Nat, k ≤ s.size ∧ i = .int .i64 k ∧ Hid (∀ j, 1 ≤ j → j < k → hitP s j = false) ∧ Old w2 wr) (fun i _ => s.size - (intOf i).toNat)
  case atStart => exact ⟨0, by omega, rfl, Lib.hid (fun j h1 h2 => by omega), Old.refl _⟩
  case round =>
    obtain ⟨k, hk, rfl, hno, hO⟩ := hrel
    have hR3 := (hR2.below hO.2.2.2 (Nat.le_refl _)).mono hO.2.2.1
    have HO := Lib.hid hO
    clear hR2 hO
    by_cases hlt : k < s.size
    · obtain ⟨b, o, rfl, hbm, e0⟩ := hR3.at hlt
      rw [HGI.out k hlt] at e0
      clear hR3
      have hlti : (k : Int) < s.size := by omega
      have hk0 : (0 : Int) ≤ k := by omega
      by_cases hz : k = 0
      · have hkn : ¬ ((0 : Int) < k) := by omega
        have hn2 : ∀ j, 1 ≤ j → j < k + 1 → hitP s j = false := fun j h1 h2 => by omega
        have HN2 := Lib.hid hn2
        have HZ := Lib.hid hz
        clear hn2 hz
        generalize lc s s k = m at *
        go_wp2
        exact ⟨⟨k + 1, by omega, by go_num, HN2, HO.out⟩, by simp [intOf]; omega⟩
      · have hkp : (0 : Int) < k := by omega
        have hml := lc_le s s k
        have hw : IntKind.i64.wrap ((k : Int) + (lc s s k : Nat)) = (k : Int) + (lc s s k : Nat) := by rw [IntKind.wrap_i64]; omega
        cases hh : hitP s k
        · have hne : (((k : Int) + (lc s s k : Nat)) == ((s.size : Nat) : Int)) = false := by
            have : ¬ (k + lc s s k = s.size) := by unfold hitP at hh; simpa using hh
            rw [beq_eq_false_iff_ne]; omega
          have hn2 : ∀ j, 1 ≤ j → j < k + 1 → hitP s j = false := fun j h1 h2 => by
            by_cases hj : j < k
            · exact hno.out j h1 hj
            · obtain rfl : j = k := by omega
              exact hh
          have HN2 := Lib.hid hn2
          clear hn2 hh
          generalize lc s s k = m at *
          go_wp2
          exact ⟨⟨k + 1, by omega, by go_num, HN2, HO.out⟩, by simp [intOf]; omega⟩
        · have hne : (k : Int) + (lc s s k : Nat) = ((s.size : Nat) : Int) := by
            have : k + lc s s k = s.size := by unfold hitP at hh; simpa using hh
            omega
          have hp := hph.out k (by omega) hlt hno.out hh
          have HPE := Lib.hid hp
          clear hp
          clear hh hph hpn
          generalize lc s s k = m at *
          go_wp2
          go_ret
          rw [HPE.out]
          exact ⟨rfl, hb2.trans (HO.out.2.2.2.mono hb2.size)⟩
    · obtain rfl : k = s.size := by omega
      have HPE := Lib.hid (hpn.out hno.out)
      go_wp2
      go_ret
      rw [HPE.out]
      exact ⟨rfl, hb2.trans (HO.out.2.2.2.mono hb2.size)⟩

set_option maxRecDepth 100000 in
set_option maxHeartbeats 4000000 in
theorem rzper_any (s : ByteArray) (hs : s.size ≤ 1000) (w : World) :
    Calls Try.prog 92 #[.string s] w fun e w' => e = .returned (.int .i64 (per s : Nat)) ∧ Below w.heap.size w w' := by
  have hph := Lib.hid (per_hit s)
  have hpn := Lib.hid (per_none s)
  generalize per s = P at hph hpn
  go_enter Try.func92, Try.ntmps92
  go_wp2_with fail
  go_loopw [3] (fun i wr => ∃ k : Nat, (k ≤ s.size ∨ k = 1) ∧ 1 ≤ k ∧ i = .int .i64 k ∧ Hid (∀ j, 1 ≤ j → j < k → hitP s j = false) ∧ Old w wr) (fun i _ => s.size + 1 - (intOf i).toNat)
  case atStart => exact ⟨1, .inr rfl, by omega, rfl, Lib.hid (fun j h1 h2 => by omega), Old.refl _⟩
  case round =>
    obtain ⟨k, hk, hk1, rfl, hno, hO⟩ := hrel
    have HO := Lib.hid hO
    clear hO
    by_cases hlt : k < s.size
    · have hlti : (k : Int) < s.size := by omega
      have hk0 : (0 : Int) ≤ k := by omega
      go_wp2_with fail
      obtain ⟨w1, hw1⟩ : ∃ w1, w1 = wr := ⟨_, rfl⟩
      subst hw1
      go_loopw [4, 5] (fun x y w2 => ∃ q : Nat, q + k ≤ s.size ∧ x = .bool (isP s k q) ∧ y = .int .i64 q ∧ Old w1 w2) (fun _ y _ => s.size - k - (intOf y).toNat)
      case atStart => exact ⟨0, by omega, rfl, rfl, Old.refl _⟩
      case round =>
        obtain ⟨q, hq, rfl, rfl, hO2⟩ := hrel
        have hq0 : (0 : Int) ≤ q := by omega
        have hw : IntKind.i64.wrap ((q : Int) + k) = (q : Int) + k := by rw [IntKind.wrap_i64]; omega
        have hkq0 : (0 : Int) ≤ (q : Int) + k := by omega
        have htn : ((q : Int) + k).toNat = q + k := by omega
        have HO2 := Lib.hid hO2
        clear hO2
        by_cases hqm : q + k < s.size
        · have hqi : (q : Int) + k < s.size := by omega
          have g1 : q < s.size := by omega
          have g1i : (q : Int) < s.size := by omega
          have hn : isP s k (q + 1) = (isP s k q && (tb s q == tb s (q + k))) := rfl
          have HN := Lib.hid hn
          clear hn
          cases hp : isP s k q
          · rw [hp] at HN
            go_wp2_with fail
            first | (go_quiet (fail)) | fail
            go_wp2
            exact ⟨⟨q + 1, by omega, by rw [HN.out]; rfl, by go_num, HO2.out.trans (Old.of (below_drewN (Below.refl _ _) _))⟩, by simp [intOf]; omega⟩
          · rw [hp] at HN
            cases hb : (tb s q == tb s (q + k))
            · rw [hb] at HN
              have hne : (((s[q].toNat : Nat) : Int) == ((s[q + k].toNat : Nat) : Int)) = false := by
                rw [beq_eq_false_iff_ne] at hb ⊢
                rw [tb_eq s q g1, tb_eq s (q + k) hqm]
                omega
              clear hb
              go_wp2_with fail
              first | (go_quiet (fail)) | fail
              go_wp2
              exact ⟨⟨q + 1, by omega, by rw [HN.out]; rfl, by go_num, HO2.out.trans (Old.of (below_drewN (Below.refl _ _) _))⟩, by simp [intOf]; omega⟩
            · rw [hb] at HN
              have g3b : s[q].toNat = s[q + k].toNat := by
                rw [tb_eq s q g1, tb_eq s (q + k) hqm]
                rwa [beq_iff_eq] at hb
              clear hb
              go_wp2_with fail
              first | (go_quiet (fail)) | fail
              go_wp2
              exact ⟨⟨q + 1, by omega, by rw [HN.out]; rfl, by go_num, HO2.out.trans (Old.of (below_drewN (Below.refl _ _) _))⟩, by simp [intOf]; omega⟩
        · have hqe : q + k = s.size := by omega
          have hqi : ¬ ((q : Int) + k < s.size) := by omega
          have hfull := isP_full s k q hqe
          cases hh : hitP s k
          · rw [hh] at hfull
            have HN2 : Hid (∀ j, 1 ≤ j → j < k + 1 → hitP s j = false) := Lib.hid fun j h1 h2 => by
              by_cases hj : j < k
              · exact hno.out j h1 hj
              · obtain rfl : j = k := by omega
                exact hh
            rw [hfull]
            clear hfull hh
            go_wp2
            exact ⟨⟨k + 1, by omega, by omega, by go_num, HN2, HO.out.trans HO2.out⟩, by simp [intOf]; omega⟩
          · rw [hh] at hfull
            have HPE := Lib.hid (hph.out k hk1 hlt hno.out hh)
            rw [hfull]
            clear hfull hh
            go_wp2
            go_ret
            rw [HPE.out]
            exact ⟨rfl, (HO.out.trans HO2.out).2.2.2⟩
    · have hgt : ¬ ((k : Int) < s.size) := by omega
      have HPE := Lib.hid (hpn.out (fun j h1 h2 => hno.out j h1 (by omega)))
      go_wp2
      go_ret
      rw [HPE.out]
      exact ⟨rfl, HO.out.2.2.2⟩
end Go.Proofs.Ytkhcjjdamphbfaa
