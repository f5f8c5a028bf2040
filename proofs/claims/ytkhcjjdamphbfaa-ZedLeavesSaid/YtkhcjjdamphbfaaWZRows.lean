/- Walks of the laws ZedRows and ZedFinds. -/
import Derived.Test.YtkhcjjdamphbfaaAl09
namespace Go.Proofs.Ytkhcjjdamphbfaa
open Go.RowKit Go.Shelf

theorem places_own (l m : List Int) (hl : l.length ≤ 100000) (hm : m.length ≤ 100000) {ad ad2 : Option Addr} {cap cap2 base base2 : Nat} (w : World) (h : w.ownsRow base 3 1 (.slice ad l.length cap) l.length (ints l)) (h2 : w.ownsRow base2 3 1 (.slice ad2 m.length cap2) m.length (ints m)) :
    Calls Try.prog 56 #[.slice ad l.length cap, .slice ad2 m.length cap2] w fun e w' => e = .returned (.bool (decide (l = m))) ∧ Below w.heap.size w w' := by
  have hp := places_any ad l.length cap (gi l) ad2 m.length cap2 (gi m) (by omega) (by omega) w (rowI_of_ints h) (rowI_of_ints h2)
  rw [agI_lists] at hp
  exact hp

set_option maxRecDepth 100000 in
set_option maxHeartbeats 4000000 in
theorem zedRows_walk (s : ByteArray) (hs : s.size ≤ 140737488351232) (w : World) :
    Calls Try.prog 21 #[.string s] w fun e w' => e = .returned (.bool true) ∧ Below w.heap.size w w' := by
  by_cases hf : ((s.size : Nat) : Int) ≤ 500
  · have hle : s.size ≤ 1000 := by omega
    have hlen := rowsL_length s s
    have hz := fun w => zrows_any s hle w
    have hr := fun w => rrows_any s hle w
    rw [← hlen] at hz hr
    have hle2 : (rowsL s s).length ≤ 100000 := by omega
    generalize rowsL s s = l at hz hr hle2
    clear hlen
    go_enter Try.func21, Try.ntmps21
    go_wp2_with (go_at_call 84; refine (alive09 _).mono ?_; rintro e w1 ⟨rfl, hb1⟩)
    refine (hz _).mono ?_
    rintro e w2 ⟨v2, rfl, ho2, hb2⟩
    obtain ⟨ad2, cap2, rfl⟩ := own_slice ho2
    go_wp2_with fail
    refine (hr _).mono ?_
    rintro e w3 ⟨v3, rfl, ho3, hb3⟩
    obtain ⟨ad3, cap3, rfl⟩ := own_slice ho3
    have ho2' := own_below ho2 hb3
    go_wp2_with fail
    refine (places_own l l hle2 hle2 _ ho2' ho3).mono ?_
    rw [decide_eq_true rfl]
    rintro e w4 ⟨rfl, hb4⟩
    go_wp2
    go_ret
    exact ⟨rfl, hb1.trans ((hb2.trans ((hb3.trans (hb4.mono hb3.size)).mono hb2.size)).mono hb1.size)⟩
  · have hgt : (500 : Int) < (s.size : Nat) := by omega
    go_enter Try.func21, Try.ntmps21
    go_wp2_with (go_at_call 84; refine (alive09 _).mono ?_; rintro e w1 ⟨rfl, hb1⟩)
    go_ret
    exact ⟨rfl, hb1⟩

theorem zf_le (p t : ByteArray) : (zf p t).length ≤ t.size := by
  unfold zf
  split
  · exact Nat.zero_le _
  · exact zfTo_length p t t.size

set_option maxRecDepth 100000 in
set_option maxHeartbeats 4000000 in
theorem zedFinds_walk (p : ByteArray) (hp : p.size ≤ 140737488351232) (t : ByteArray) (ht : t.size ≤ 140737488351232) (w : World) :
    Calls Try.prog 22 #[.string p, .string t] w fun e w' => e = .returned (.bool true) ∧ Below w.heap.size w w' := by
  by_cases hf : ((p.size : Nat) : Int) ≤ 500
  · by_cases hf2 : ((t.size : Nat) : Int) ≤ 500
    · have hle2 : (zf p t).length ≤ 100000 := by have := zf_le p t; omega
      have hz := fun w => zfind_any p t (by omega) (by omega) w
      have hr := fun w => rzfind_any p t (by omega) (by omega) w
      generalize zf p t = l at hz hr hle2
      go_enter Try.func22, Try.ntmps22
      go_wp2_with (go_at_call 84; refine (alive09 _).mono ?_; rintro e w1 ⟨rfl, hb1⟩)
      refine (hz _).mono ?_
      rintro e w2 ⟨v2, rfl, ho2, hb2⟩
      obtain ⟨ad2, cap2, rfl⟩ := own_slice ho2
      go_wp2_with fail
      refine (hr _).mono ?_
      rintro e w3 ⟨v3, rfl, ho3, hb3⟩
      obtain ⟨ad3, cap3, rfl⟩ := own_slice ho3
      have ho2' := own_below ho2 hb3
      go_wp2_with fail
      refine (places_own l l hle2 hle2 _ ho2' ho3).mono ?_
      rw [decide_eq_true rfl]
      rintro e w4 ⟨rfl, hb4⟩
      go_wp2
      go_ret
      exact ⟨rfl, hb1.trans ((hb2.trans ((hb3.trans (hb4.mono hb3.size)).mono hb2.size)).mono hb1.size)⟩
    · have hgt : (500 : Int) < (t.size : Nat) := by omega
      go_enter Try.func22, Try.ntmps22
      go_wp2_with (go_at_call 84; refine (alive09 _).mono ?_; rintro e w1 ⟨rfl, hb1⟩)
      go_ret
      exact ⟨rfl, hb1⟩
  · have hgt : (500 : Int) < (p.size : Nat) := by omega
    go_enter Try.func22, Try.ntmps22
    go_wp2_with (go_at_call 84; refine (alive09 _).mono ?_; rintro e w1 ⟨rfl, hb1⟩)
    go_ret
    exact ⟨rfl, hb1⟩
end Go.Proofs.Ytkhcjjdamphbfaa
