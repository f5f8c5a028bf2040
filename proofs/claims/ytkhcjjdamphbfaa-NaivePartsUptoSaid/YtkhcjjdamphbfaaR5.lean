/- Walk of the reference Runs. -/
import Derived.Test.YtkhcjjdamphbfaaR4
namespace Go.Proofs.Ytkhcjjdamphbfaa
open Go.RowKit

theorem prs_length (l : List (Nat × Nat)) : (prs l).length = 2 * l.length := by
  induction l with
  | nil => rfl
  | cons a l ih => simp only [prs, List.flatMap_cons, List.length_append, List.length_cons, List.length_nil] at ih ⊢; omega

theorem own_le {w : World} {base base' : Nat} {e : TypeId} {size n : Nat} {v : Value} {xs : List Value} (h : w.ownsRow base e size v n xs) (hb : base' ≤ base) : w.ownsRow base' e size v n xs := by
  refine ⟨h.1, ?_⟩
  rcases h.2 with h2 | ⟨g, cap, cur, hv, hg, r⟩
  · exact Or.inl h2
  · exact Or.inr ⟨g, cap, cur, hv, Nat.le_trans hb hg, r⟩

/-- A run begins. -/
theorem run_new (S : Nat → Bool) (k : Nat) (h : S k = true) (h0 : k = 0 ∨ S (k - 1) = false) (v : Value) (w : World) (b : Nat) :
    w.ownsRow b 22 2 v ((runsTo S k).length + 1) (prs (runsTo S k) ++ [.int .u8 (k : Nat), .int .u8 (k : Nat)]) → w.ownsRow b 22 2 v (runsTo S (k + 1)).length (prs (runsTo S (k + 1))) := by
  intro hh
  rw [runsTo_new S k h h0, prs_snoc, List.length_append, List.length_singleton]
  exact hh

set_option maxHeartbeats 1000000 in
set_option maxRecDepth 100000 in
theorem rruns_any (S : Nat → Bool) (w : World) :
    Calls Try.prog 51 #[cv S] w fun e w' => ∃ v, e = .returned v ∧ w'.ownsRow (w.heap.size + 1) 22 2 v (runs S).length (prs (runs S)) ∧ Below w.heap.size w w' := by
  go_enter Try.func51, Try.ntmps51
  go_wp2_with fail
  refine (rbytes_any S _).mono ?_
  rintro e w1 ⟨g, cap, rfl, hg, hbl, hb1⟩
  have hb : Below w.heap.size w w1 := ((Below.refl _ _).alloc (Nat.le_refl _) _).trans (hb1.mono (by simp))
  have hg0 : w.heap.size + 1 ≤ g := by simp at hg; omega
  have hgl := hbl.lt
  clear hb1 hg
  go_wp2
  go_loopw [3, 5] (fun v i wr => ∃ k : Nat, k ≤ 256 ∧ i = .int .i64 k ∧ wr.ownsRow w1.heap.size 22 2 v (runsTo S k).length (prs (runsTo S k)) ∧ Below w1.heap.size w1 wr) (fun _ i _ => 256 - (intOf i).toNat)
  case atStart => exact ⟨0, by omega, rfl, World.ownsRow_nil _ _ _ _, Below.refl _ _⟩
  case round =>
    obtain ⟨k, hk, rfl, hown, hbr⟩ := hrel
    have hsz := hbr.size
    have hblr := hbl.below hbr hgl
    have hlen := runsTo_length S k
    by_cases hlt : k < 256
    · have hcell := hblr.cells k hlt
      cases hS : S k
      · rw [hS] at hcell
        go_wp2
        exact ⟨⟨k + 1, by omega, by go_num, by rw [runsTo_out S k hS]; exact hown, hbr⟩, by simp [intOf]; omega⟩
      · rw [hS] at hcell
        by_cases hk0 : k = 0
        · subst hk0
          go_wp2_with (at_builtin; refine wpList_app elem38 rfl _ _ rfl rfl hown [.int .u8 0, .int .u8 0] rfl rfl (by simp [Value.oneCell']) (by unfold maxLen; omega) (by omega) (by omega) ?_; intro v3 w3 hown3 hb3)
          exact ⟨⟨1, by omega, rfl, run_new S 0 hS (Or.inl rfl) _ _ _ hown3, hbr.trans hb3⟩, by simp [intOf]⟩
        · have hk1 : (1 : Int) ≤ (k : Int) := by omega
          have hprev := hblr.cells (k - 1) (by omega)
          cases hS1 : S (k - 1)
          · rw [hS1] at hprev
            go_wp2_with (at_builtin; refine wpList_app elem38 rfl _ _ rfl rfl hown [.int .u8 (k : Nat), .int .u8 (k : Nat)] rfl rfl (by simp [Value.oneCell']) (by unfold maxLen; omega) (by omega) (by omega) ?_; intro v3 w3 hown3 hb3)
            exact ⟨⟨k + 1, by omega, by go_num, run_new S k hS (Or.inr hS1) _ _ _ hown3, hbr.trans hb3⟩, by simp [intOf]; omega⟩
          · rw [hS1] at hprev
            obtain ⟨l, f, hl⟩ := (runsTo_spec S k).2.1 (by omega) hS1
            have hnx := runsTo_on S k hS (by omega) hS1
            rw [hl, setLast_snoc] at hnx
            rw [hl, prs_snoc, List.length_append, List.length_singleton] at hown
            obtain ⟨g2, cap2, rfl, hg2, hg2l⟩ := own_form hown (by omega)
            have hpl := prs_length l
            have hc2 := hown.cellAt (l.length * 2 + 1) (by omega)
            have hf2 := hown.frozenAt (l.length * 2 + 1)
            rw [List.getElem?_append_right (by omega), show l.length * 2 + 1 - (prs l).length = 1 by omega] at hc2
            simp only [List.getElem?_cons_succ, List.getElem?_cons_zero] at hc2
            rw [hl, List.length_append, List.length_singleton] at hlen
            have HO := Lib.hid hown
            have HNX := Lib.hid hnx
            have hset : (prs l ++ [Value.int .u8 (f : Nat), .int .u8 (k - 1 : Nat)]).set (l.length * 2 + 1) (.int .u8 (k : Nat)) = prs l ++ [Value.int .u8 (f : Nat), .int .u8 (k : Nat)] := by
              rw [List.set_append_right _ _ (by omega), show l.length * 2 + 1 - (prs l).length = 1 by omega]
              rfl
            have HST := Lib.hid hset
            clear hown hnx hl hpl hset
            go_wp2
            refine ⟨⟨k + 1, by omega, by go_num, ?_, hbr.setCell hg2 _⟩, by simp [intOf]; omega⟩
            rw [HNX.out, prs_snoc, List.length_append, List.length_singleton, ← HST.out]
            exact (HO.out.stored _ _).1
    · obtain rfl : k = 256 := by omega
      go_wp2
      go_ret
      exact ⟨u3, rfl, own_le hown (by omega), hb.trans (hbr.mono (by omega))⟩
end Go.Proofs.Ytkhcjjdamphbfaa
