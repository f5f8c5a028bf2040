/- Walk of the law ClassRuns. -/
import Derived.Test.YtkhcjjdamphbfaaAl06
namespace Go.Proofs.Ytkhcjjdamphbfaa
open Go.RowKit

theorem own_slice {w : World} {base : Nat} {e : TypeId} {size n : Nat} {v : Value} {xs : List Value} (h : w.ownsRow base e size v n xs) : ∃ ad cap, v = .slice ad n cap := by
  rcases h.2 with ⟨rfl, rfl⟩ | ⟨g, cap, cur, hv, _⟩
  · exact ⟨_, _, rfl⟩
  · exact ⟨_, _, hv⟩

theorem prs_get (l : List (Nat × Nat)) : ∀ (k : Nat) (hk : k < l.length), (prs l)[2 * k]? = some (.int .u8 (l[k].1 : Nat)) ∧ (prs l)[2 * k + 1]? = some (.int .u8 (l[k].2 : Nat)) := by
  induction l with
  | nil => intro k hk; simp at hk
  | cons a l ih =>
    intro k hk
    match k with
    | 0 => exact ⟨rfl, rfl⟩
    | k + 1 =>
      have h := ih k (by simpa using hk)
      have e : ∀ j, (prs (a :: l))[j + 2]? = (prs l)[j]? := fun j => rfl
      rw [show 2 * (k + 1) = 2 * k + 2 by omega, show 2 * k + 2 + 1 = 2 * k + 1 + 2 by omega, e, e]
      simpa using h
/-- The cells of an owned row. -/
theorem own_cell {w : World} {base : Nat} {e : TypeId} {size n g cap : Nat} {xs : List Value} (h : w.ownsRow base e size (.slice (some ⟨g, 0, none⟩) n cap) n xs) (j : Nat) {x : Value} (hx : xs[j]? = some x) : w.cell? ⟨g, j, none⟩ = some x := by
  obtain ⟨hl, ⟨h0, _⟩ | ⟨g', cap', cur, hv, _, hg, hn, hc, hs, ht⟩⟩ := h
  · cases h0
  · cases hv
    have hj : j < xs.length := by
      rcases Nat.lt_or_ge j xs.length with h | h
      · exact h
      · rw [List.getElem?_eq_none h] at hx; cases hx
    rw [← ht, List.getElem?_take] at hx
    rw [hl] at hj
    rw [if_pos hj] at hx
    simp [World.cell?, hg]
    simpa using hx
/-- The set of the first k runs. -/
def pre (l : List (Nat × Nat)) (k : Nat) : Nat → Bool := inRuns (l.take k)
theorem pre_zero (l : List (Nat × Nat)) : pre l 0 = noByte := by funext n; rfl
theorem pre_succ (l : List (Nat × Nat)) (k : Nat) (hk : k < l.length) : (fun n => pre l k n || rangeS l[k].1 l[k].2 n) = pre l (k + 1) := by
  funext n
  unfold pre inRuns rangeS
  rw [List.take_add_one, List.getElem?_eq_getElem hk, List.any_append]
  simp
theorem pre_end (S : Nat → Bool) : clsEq (pre (runs S) (runs S).length) S = true := by
  rw [clsEq_iff]
  intro n hn
  unfold pre
  rw [List.take_length, runs, (runsTo_spec S 256).2.2 n]
  simp [hn]
theorem runs_le (S : Nat → Bool) (k : Nat) (hk : k < (runs S).length) : (runs S)[k].1 ≤ 255 ∧ (runs S)[k].2 ≤ 255 := by
  have h := (runsTo_spec S 256).1 (runs S)[k] (List.getElem_mem hk)
  omega

set_option maxHeartbeats 4000000 in
set_option maxRecDepth 100000 in
theorem classRuns_walk (S : Nat → Bool) (w : World) : Calls Try.prog 6 #[cv S] w fun e w' => e = .returned (.bool true) ∧ Below w.heap.size w w' := by
  go_enter Try.func6, Try.ntmps6
  go_wp2_with fail
  have hS := HoldsC.new w S
  obtain ⟨W0, hW0⟩ : ∃ W0 : World, w.alloc (.cells #[.int .u64 (wd S 0 : Nat), .int .u64 (wd S 1 : Nat), .int .u64 (wd S 2 : Nat), .int .u64 (wd S 3 : Nat)] 26) = W0 := ⟨_, rfl⟩
  have HB : Below w.heap.size w W0 := by subst hW0; exact (Below.refl _ _).alloc (Nat.le_refl _) _
  rw [hW0] at hS ⊢
  clear hW0
  have l0 := hS.2.2
  go_region_held3 (fun w' => Old W0 w') (first | with_reducible exact Old.start _ | with_reducible exact Old.calld (Old.refl _) (by assumption) | with_reducible exact Old.call (by assumption) (by assumption)) (first | (go_at_call 50; refine (runs_any _ _).mono ?_; rintro e w1 ⟨v1, rfl, ho1, hb1⟩) | (go_at_call 51; refine (rruns_any _ _).mono ?_; rintro e w2 ⟨v2, rfl, ho2, hb2⟩; have ho3 := own_below (show w1.ownsRow _ 22 2 _ _ _ by assumption) hb2))
  have hn : (((runs S).length : Nat) : Int) ≤ 256 := by have := runsTo_length S 256; unfold runs; omega
  obtain ⟨ad1, cap1, rfl⟩ := own_slice ho1
  obtain ⟨ad2, cap2, rfl⟩ := own_slice ho2
  obtain ⟨n, hnn⟩ : ∃ n, n = (runs S).length := ⟨_, rfl⟩
  have h1 : Old W0 w1 := Old.of ((Below.refl _ W0).drew.trans hb1)
  have h2 : Old W0 w2 := h1.trans (Old.of hb2)
  have hS2 := hS.below h2.2.2.2 l0
  have HB2 := HB.trans (h2.2.2.2.mono HB.size)
  have hH := HoldsC.new0 w2
  have hown1 := own_le (base' := w.heap.size + 1) ho3 (by simp; omega)
  have hown2 := own_le (base' := w.heap.size + 1) ho2 (by have := hb1.size; simp at this; omega)
  clear ho1 ho2 ho3 h1 hb1 hb2 hS
  rw [← hnn] at hown1 hown2 hn ⊢
  have HN := Lib.hid hnn
  clear hnn
  go_wp2
  obtain ⟨W3, hW3⟩ : ∃ W3 : World, w2.alloc (.cells #[.int .u64 0, .int .u64 0, .int .u64 0, .int .u64 0] 26) = W3 := ⟨_, rfl⟩
  have hB3 : Below w2.heap.size w2 W3 := by subst hW3; exact (Below.refl _ _).alloc (Nat.le_refl _) _
  have hs3 : w2.heap.size < W3.heap.size := by subst hW3; simp
  rw [hW3] at hH ⊢
  clear hW3
  obtain ⟨B, hBB⟩ : ∃ B, B = w2.heap.size := ⟨_, rfl⟩
  rw [← hBB] at hH hB3 hs3 ⊢
  have lB : w.heap.size + 1 ≤ B := by have := h2.2.2.1; omega
  have lB1 : B ≤ w2.heap.size := by omega
  have lB2 : w2.heap.size ≤ B := by omega
  clear hBB
  go_loopw [18] (fun i wr => ∃ k : Nat, k ≤ n ∧ i = .int .i64 k ∧ HoldsC wr B (pre (runs S) k) ∧ Below B W3 wr) (fun i _ => n - (intOf i).toNat)
  case atStart => exact ⟨0, by omega, rfl, by rw [pre_zero]; exact hH, Below.refl _ _⟩
  case round =>
    obtain ⟨k, hk, rfl, hc, hb⟩ := hrel
    by_cases hlt : k < n
    · have hnn := HN.out
      have hlk : k < (runs S).length := by omega
      obtain ⟨g1, cp1, hv1, hg1, hl1⟩ := own_form hown1 (by omega)
      obtain ⟨g2, cp2, hv2, hg2, hl2⟩ := own_form hown2 (by omega)
      cases hv1
      cases hv2
      obtain ⟨ha, hb2⟩ := prs_get (runs S) k hlk
      rw [Nat.mul_comm] at ha hb2
      obtain ⟨hra, hrb⟩ := runs_le S k hlk
      have hp := pre_succ (runs S) k hlk
      obtain ⟨x, hx⟩ : ∃ x, x = (runs S)[k].1 := ⟨_, rfl⟩
      obtain ⟨y, hy⟩ : ∃ y, y = (runs S)[k].2 := ⟨_, rfl⟩
      rw [← hx] at ha hra hp
      rw [← hy] at hb2 hrb hp
      have hw : ∀ b o, b < B → wr.cell? ⟨b, o, none⟩ = w2.cell? ⟨b, o, none⟩ := fun b o h => ((hB3.trans hb).cell (p := ⟨b, o, none⟩) h)
      have e1 : wr.cell? ⟨g1, k * 2, none⟩ = some (.int .u8 x) := by rw [hw _ _ (by omega)]; exact own_cell hown1 _ ha
      have e2 : wr.cell? ⟨g1, k * 2 + 1, none⟩ = some (.int .u8 y) := by rw [hw _ _ (by omega)]; exact own_cell hown1 _ hb2
      have e3 : wr.cell? ⟨g2, k * 2, none⟩ = some (.int .u8 x) := by rw [hw _ _ (by omega)]; exact own_cell hown2 _ ha
      have e4 : wr.cell? ⟨g2, k * 2 + 1, none⟩ = some (.int .u8 y) := by rw [hw _ _ (by omega)]; exact own_cell hown2 _ hb2
      have HP := Lib.hid hp
      have HCk := Lib.hid hc
      clear hnn hp hx hy ha hb2 hlk hown1 hown2 hw hS2 hH h2
      obtain ⟨⟨c0, c1, c2, c3⟩, ⟨f0, f1, f2, f3⟩, hl⟩ := hc
      go_wp2_with fail
      go_region
      go_wp2_with fail
      go_region_with (first | (go_at_call 36; refine (range_any _ _ (by omega) (by omega) (by omega) (by omega) _).mono ?_; rintro e w5 ⟨rfl, hb5⟩; have HC5 := HoldsC.below (w := wr.drew.drew) HCk.out hb5 hl) | (go_at_call 42; refine (or_any _ _ _).mono ?_; rintro e w6 ⟨rfl, hb6⟩; have HC6 := HoldsC.below (show HoldsC w5 B (pre (runs S) k) by assumption) hb6 (by have := hb5.size; simp at this; omega)))
      all_goals go_wp2
      all_goals refine ⟨⟨k + 1, by omega, by go_num, by rw [← HP.out]; exact HoldsC.set HC6 _, ?_⟩, by simp [intOf]; omega⟩
      all_goals exact below_setC (hb.trans (((Below.refl B wr).drew.drew.trans (hb5.mono (Nat.le_of_lt hl))).trans (hb6.mono (Nat.le_trans (Nat.le_of_lt hl) hb5.size)))) (Nat.le_refl _) _
    · obtain rfl : k = n := by omega
      have hpe := pre_end S
      rw [← HN.out] at hpe
      have hS3 := hS2.below (hB3.trans hb) (by omega)
      have hB4 := HB2.trans ((hB3.trans hb).mono (by omega))
      clear hH h2 hown1 hown2 hS2
      go_wp2_with (go_at_call 33; refine (alive06 _).mono ?_; rintro e w4 ⟨rfl, hb4⟩; have hS4 := hS3.below hb4 hS3.2.2; have hc4 := hc.below hb4 hc.2.2)
      go_ret
      exact ⟨rfl, hB4.trans (hb4.mono hB4.size)⟩
end Go.Proofs.Ytkhcjjdamphbfaa
