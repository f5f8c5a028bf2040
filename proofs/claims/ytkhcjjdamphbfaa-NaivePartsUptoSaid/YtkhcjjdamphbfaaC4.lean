/- Walk of class.Runs. -/
import Derived.Test.YtkhcjjdamphbfaaC3
import Derived.Test.YtkhcjjdamphbfaaApp
import Derived.Test.YtkhcjjdamphbfaaRuns
namespace Go.Proofs.Ytkhcjjdamphbfaa
open Go.RowKit

/-- Pairs of bytes, as cells. -/
def prs (l : List (Nat × Nat)) : List Value := l.flatMap fun p => [.int .u8 p.1, .int .u8 p.2]
theorem prs_snoc (l : List (Nat × Nat)) (f t : Nat) : prs (l ++ [(f, t)]) = prs l ++ [.int .u8 f, .int .u8 t] := by simp [prs]

/-- Nothing is open at a place: there no run goes on. -/
def closed (S : Nat → Bool) (k : Nat) : Prop := k = 256 ∨ k = 0 ∨ S (k - 1) = false ∨ S k = false

theorem run_end (S : Nat → Bool) (k j : Nat) (h : k + 1 ≤ j) (h0 : k = 0 ∨ S (k - 1) = false) (hall : ∀ n, k ≤ n → n < j → S n = true) :
    ∀ (v : Value) (w : World) (b : Nat), w.ownsRow b 22 2 v ((runsTo S k).length + 1) (prs (runsTo S k) ++ [.int .u8 (k : Nat), .int .u8 ((j : Int) - 1)]) = w.ownsRow b 22 2 v (runsTo S j).length (prs (runsTo S j)) := by
  intro v w b
  have hr := runsTo_row S k h0 (j - 1 - k) fun i h1 h2 => hall i h1 (by omega)
  rw [show k + (j - 1 - k) + 1 = j by omega, show k + (j - 1 - k) = j - 1 by omega] at hr
  rw [hr, prs_snoc, List.length_append, List.length_singleton, show ((j : Int) - 1) = ((j - 1 : Nat) : Int) by omega]

set_option maxHeartbeats 2000000 in
set_option maxRecDepth 100000 in
theorem runs_any (S : Nat → Bool) (w : World) :
    Calls Try.prog 50 #[cv S] w fun e w' => ∃ v, e = .returned v ∧ w'.ownsRow (w.heap.size + 1) 22 2 v (runs S).length (prs (runs S)) ∧ Below w.heap.size w w' := by
  go_enter Try.func50, Try.ntmps50
  go_wp2
  go_step3
  go_wp2
  go_step3
  go_wp2
  have H0 := HoldsC.new w S
  obtain ⟨W0, hW0⟩ : ∃ W0 : World, w.alloc (.cells #[.int .u64 (wd S 0 : Nat), .int .u64 (wd S 1 : Nat), .int .u64 (wd S 2 : Nat), .int .u64 (wd S 3 : Nat)] 26) = W0 := ⟨_, rfl⟩
  have HB : Below w.heap.size w W0 := by subst hW0; exact (Below.refl _ _).alloc (Nat.le_refl _) _
  have hsz : w.heap.size + 1 ≤ W0.heap.size := by subst hW0; simp
  rw [hW0] at H0 ⊢
  clear hW0
  go_loopw [3, 4] (fun v i wr => ∃ k : Nat, k ≤ 256 ∧ i = .int .i64 k ∧ closed S k ∧ wr.ownsRow (w.heap.size + 1) 22 2 v (runsTo S k).length (prs (runsTo S k)) ∧ Below (w.heap.size + 1) W0 wr) (fun _ i _ => 256 - (intOf i).toNat)
  case atStart => exact ⟨0, by omega, rfl, Or.inr (Or.inl rfl), World.ownsRow_nil _ _ _ _, Below.refl _ _⟩
  case round =>
    obtain ⟨k, hk, rfl, hcl, hown, hb⟩ := hrel
    have hc := H0.below hb (by omega)
    obtain ⟨⟨c0, c1, c2, c3⟩, ⟨f0, f1, f2, f3⟩, hl⟩ := hc
    by_cases hlt : k < 256
    · cases HS : S k
      · go_wp2_with (go_at_call 46; refine (has_any S _ (by omega) (by omega) _).mono ?_; rintro e w1 ⟨rfl, hb1⟩; obtain ⟨hc1, hf1, hz1, -⟩ := Old.of hb1)
        refine ⟨⟨k + 1, by omega, by go_num, Or.inr (Or.inr (Or.inl HS)), ?_, hb.trans (hb1.mono (by omega))⟩, by simp [intOf]; omega⟩
        rw [runsTo_out S k HS]
        exact own_below hown hb1
      · go_wp2_with (go_at_call 46; refine (has_any S _ (by omega) (by omega) _).mono ?_; rintro e w1 ⟨rfl, hb1⟩; obtain ⟨hc1, hf1, hz1, -⟩ := Old.of hb1)
        have hop : k = 0 ∨ S (k - 1) = false := by
          rcases hcl with h | h | h | h
          · omega
          · exact Or.inl h
          · exact Or.inr h
          · rw [HS] at h; cases h
        have HOP := Lib.hid hop
        have hlen := runsTo_length S k
        clear hop hcl hc1 hf1
        obtain ⟨W1, hW1⟩ : ∃ W1, W1 = w1 := ⟨_, rfl⟩
        have hb2 : Below (w.heap.size + 1) W0 W1 := by subst hW1; exact hb.trans (hb1.mono (by omega))
        have hown1 : W1.ownsRow (w.heap.size + 1) 22 2 u3 (runsTo S k).length (prs (runsTo S k)) := by subst hW1; exact own_below hown hb1
        rw [← hW1]
        clear hW1 hb1 hz1 hb hown hl c0 c1 c2 c3 f0 f1 f2 f3
        go_loopw [4] (fun i wr => ∃ j : Nat, k ≤ j ∧ j ≤ 256 ∧ i = .int .i64 j ∧ Hid (∀ n, k ≤ n → n < j → S n = true) ∧ Below (w.heap.size + 1) W0 wr ∧ wr.ownsRow (w.heap.size + 1) 22 2 u3 (runsTo S k).length (prs (runsTo S k))) (fun i _ => 256 - (intOf i).toNat)
        case atStart => exact ⟨k, by omega, by omega, rfl, fun n h1 h2 => absurd h2 (by omega), hb2, hown1⟩
        case round =>
          obtain ⟨j, hj1, hj2, rfl, hall, hb, hown⟩ := hrel
          have hc := H0.below hb (by omega)
          obtain ⟨⟨c0, c1, c2, c3⟩, ⟨f0, f1, f2, f3⟩, hl⟩ := hc
          by_cases hjl : j < 256
          · cases HJ : S j
            · have hj3 : k + 1 ≤ j := by
                rcases Nat.lt_or_ge k j with h | h
                · omega
                · obtain rfl : k = j := by omega
                  rw [HS] at HJ; cases HJ
              have HR := Lib.hid (run_end S k j hj3 HOP.out hall.out)
              go_wp2_with (first | (go_at_call 46; refine (has_any S _ (by omega) (by omega) _).mono ?_; rintro e w2 ⟨rfl, hb1⟩; obtain ⟨hc1, hf1, hz1, -⟩ := Old.of hb1) | (at_builtin; refine wpList_app elem38 rfl _ _ rfl rfl (own_below hown hb1) [.int .u8 (k : Nat), .int .u8 ((j : Int) - 1)] rfl rfl (by simp [Value.oneCell']) (by unfold maxLen; omega) (by omega) (by omega) ?_; intro v3 w3 hown3 hb3))
              rw [HR.out] at hown3
              refine ⟨⟨j, by omega, rfl, Or.inr (Or.inr (Or.inr HJ)), hown3, (hb.trans (hb1.mono (by omega))).trans hb3⟩, by simp [intOf]; omega⟩
            · go_wp2_with (first | (go_at_call 46; refine (has_any S _ (by omega) (by omega) _).mono ?_; rintro e w2 ⟨rfl, hb1⟩; obtain ⟨hc1, hf1, hz1, -⟩ := Old.of hb1))
              refine ⟨⟨j + 1, by omega, by omega, by go_num, ?_, hb.trans (hb1.mono (by omega)), own_below hown hb1⟩, by simp [intOf]; omega⟩
              intro n hn1 hn2
              by_cases he : n = j
              · subst he; exact HJ
              · exact hall.out n hn1 (by omega)
          · obtain rfl : j = 256 := by omega
            have HR := Lib.hid (run_end S k 256 (by omega) HOP.out hall.out)
            go_wp2_with (first | (at_builtin; refine wpList_app elem38 rfl _ _ rfl rfl hown [.int .u8 (k : Nat), .int .u8 255] rfl rfl (by simp [Value.oneCell']) (by unfold maxLen; omega) (by omega) (by omega) ?_; intro v3 w3 hown3 hb3))
            have h3 := HR.out v3 w3 (w.heap.size + 1)
            refine ⟨⟨256, by omega, rfl, Or.inl rfl, by rw [← h3]; exact hown3, hb.trans hb3⟩, by simp [intOf]; omega⟩
    · obtain rfl : k = 256 := by omega
      go_wp2
      try rw [Exit.noGoto_ret]
      go_ret
      exact ⟨u3, rfl, hown, HB.trans (hb.mono (by omega))⟩
end Go.Proofs.Ytkhcjjdamphbfaa
