/- Walks of zed.Rows and of beagleref09.Rows. -/
import Derived.Test.YtkhcjjdamphbfaaZ4
namespace Go.Proofs.Ytkhcjjdamphbfaa
open Go.RowKit Go.Shelf

set_option maxRecDepth 100000 in
theorem zrows_any (s : ByteArray) (hs : s.size ≤ 1000) (w : World) :
    Calls Try.prog 85 #[.string s] w fun e w' => ∃ v, e = .returned v ∧ w'.ownsRow w.heap.size 3 1 v s.size (ints (rowsL s s)) ∧ Below w.heap.size w w' := by
  go_enter Try.func85, Try.ntmps85
  go_wp2_with (go_at_call 114; refine (rows_nil s s rfl hs _).mono ?_; rintro e w1 ⟨v, rfl, ho, hb⟩)
  go_ret
  exact ⟨v, rfl, ho, hb⟩

set_option maxRecDepth 100000 in
set_option maxHeartbeats 4000000 in
theorem rrows_any (s : ByteArray) (hs : s.size ≤ 1000) (w : World) :
    Calls Try.prog 86 #[.string s] w fun e w' => ∃ v, e = .returned v ∧ w'.ownsRow w.heap.size 3 1 v s.size (ints (rowsL s s)) ∧ Below w.heap.size w w' := by
  go_enter Try.func86, Try.ntmps86
  go_wp2_with fail
  go_loopw [3, 4] (fun v i wr => ∃ k : Nat, k ≤ s.size ∧ i = .int .i64 k ∧ wr.ownsRow w.heap.size 3 1 v k (ints ((rowsL s s).take k)) ∧ Below w.heap.size w wr) (fun _ i _ => s.size - (intOf i).toNat)
  case atStart => exact ⟨0, by omega, rfl, World.ownsRow_nil _ _ _ _, Below.refl _ _⟩
  case round =>
    obtain ⟨k, hk, rfl, hown, hb⟩ := hrel
    by_cases hlt : k < s.size
    · have hlti : (k : Int) < s.size := by omega
      have hk0 : (0 : Int) ≤ k := by omega
      have HG := Lib.hid (lc_spec s s k)
      have hml := lc_le s s k
      have hmf := lc_fits s s k (by omega)
      have HTK := Lib.hid (rowsL_take s s k hlt)
      obtain ⟨m, hm⟩ : ∃ m, m = lc s s k := ⟨_, rfl⟩
      rw [← hm] at HG hml hmf HTK
      clear hm
      have hz := hb.size
      go_wp2_with fail
      obtain ⟨w1, hw1⟩ : ∃ w1, w1 = wr := ⟨_, rfl⟩
      subst hw1
      go_loopw [5] (fun x w2 => ∃ q : Nat, q ≤ m ∧ x = .int .i64 q ∧ Old w1 w2) (fun x _ => m - (intOf x).toNat)
      case atStart => exact ⟨0, by omega, rfl, Old.refl _⟩
      case round =>
        obtain ⟨q, hq, rfl, hO⟩ := hrel
        have hq0 : (0 : Int) ≤ q := by omega
        have hw : IntKind.i64.wrap ((k : Int) + q) = (k : Int) + q := by rw [IntKind.wrap_i64]; omega
        have hkq0 : (0 : Int) ≤ (k : Int) + q := by omega
        have htn : ((k : Int) + q).toNat = k + q := by omega
        have hown2 := own_below hown hO.2.2.2
        have hb2 := hb.trans (hO.2.2.2.mono hz)
        have hz2 := hb2.size
        have HO := Lib.hid hO
        clear hO hown hb
        by_cases hqm : q < m
        · obtain ⟨g1, g2, g3⟩ := (good_iff _ _ _ _).1 (HG.out.1 q hqm)
          have g1i : (q : Int) < s.size := by omega
          have g2i : (k : Int) + q < s.size := by omega
          have g3b : s[q].toNat = s[k + q].toNat := by rw [tb_eq s q g1, tb_eq s (k + q) g2]; exact g3
          clear g3
          go_wp2_with fail
          first | (go_quiet (fail)) | fail
          go_wp2
          exact ⟨⟨q + 1, by omega, by go_num, HO.out.trans (Old.of (below_drewN (Below.refl _ _) _))⟩, by simp [intOf]; omega⟩
        · obtain rfl : q = m := by omega
          have hbad := HG.out.2
          have hownd : ∀ x, (wr.drewN x).ownsRow w.heap.size 3 1 u3 k (ints ((rowsL s s).take k)) := fun x => own_below hown2 (below_drewN (Below.refl _ _) x)
          have hbd : ∀ x, Below w.heap.size w (wr.drewN x) := fun x => hb2.trans (below_drewN (Below.refl _ _) x)
          have HOD := Lib.hid hownd
          have HBD := Lib.hid hbd
          clear hownd hbd hown2 hb2
          by_cases hBq : k + q < s.size
          · have hBi : (k : Int) + q < s.size := by omega
            have hA : q < s.size := by omega
            have hAi : (q : Int) < s.size := by omega
            have hne : ¬ (s[q].toNat = s[k + q].toNat) := by
              rw [tb_eq s q hA, tb_eq s (k + q) hBq]
              intro h
              rw [(good_iff _ _ _ _).2 ⟨hA, hBq, h⟩] at hbad
              cases hbad
            clear hbad
            go_wp2_with fail
            have hq2 : (((s[q].toNat : Nat) : Int) == ((s[k + q].toNat : Nat) : Int)) = false := by simp only [beq_eq_false_iff_ne, ne_eq, Int.natCast_inj]; exact hne
            first | (go_quiet (fail)) | fail
            go_wp2_with (first | (at_builtin; refine wpList_app elem48 rfl _ _ rfl rfl (HOD.out _) [.int .i64 (q : Nat)] rfl rfl (by simp [Value.oneCell']) (by unfold maxLen; omega) (by omega) (HBD.out 0).size ?_; intro v3 w3 hown3 hb3))
            exact ⟨⟨k + 1, by omega, by go_num, by rw [HTK.out, ints_snoc]; exact hown3, (HBD.out _).trans hb3⟩, by simp [intOf]; omega⟩
          · have hBi : ¬ ((k : Int) + q < s.size) := by omega
            clear hbad
            go_wp2_with fail
            have hq2 : decide ((k : Int) + q < s.size) = false := by simp only [decide_eq_false_iff_not]; omega
            first | (go_quiet (fail)) | fail
            go_wp2_with (first | (at_builtin; refine wpList_app elem48 rfl _ _ rfl rfl (HOD.out _) [.int .i64 (q : Nat)] rfl rfl (by simp [Value.oneCell']) (by unfold maxLen; omega) (by omega) (HBD.out 0).size ?_; intro v3 w3 hown3 hb3))
            exact ⟨⟨k + 1, by omega, by go_num, by rw [HTK.out, ints_snoc]; exact hown3, (HBD.out _).trans hb3⟩, by simp [intOf]; omega⟩
    · obtain rfl : k = s.size := by omega
      go_wp2
      go_ret
      exact ⟨_, rfl, by rwa [List.take_of_length_le (by rw [rowsL_length]; exact Nat.le_refl _)] at hown, hb⟩
end Go.Proofs.Ytkhcjjdamphbfaa
