/- append of one row of classes to another one that is full. -/
import Derived.Test.YtkhcjjdamphbfaaNp
import Derived.Test.YtkhcjjdamphbfaaLp
import Derived.ArgAppend
namespace Go.Proofs.Ytkhcjjdamphbfaa
open Go.RowKit

/-- One row, and another one behind it. -/
def bothC (n : Nat) (L L' : Nat → Nat → Bool) (j : Nat) : Nat → Bool := if j < n then L j else L' (j - n)
theorem bothC_cells (n n' : Nat) (L L' : Nat → Nat → Bool) : clsCells (bothC n L L') (n + n') = clsCells L n ++ clsCells L' n' := by
  induction n' with
  | zero =>
    rw [Nat.add_zero, show clsCells L' 0 = [] from rfl, List.append_nil]
    exact clsCells_congr fun j hj => by unfold bothC; rw [if_pos hj]
  | succ n' ih =>
    rw [← Nat.add_assoc]
    simp only [clsCells]
    rw [ih, List.append_assoc]
    have e : bothC n L L' (n + n') = L' n' := by unfold bothC; rw [if_neg (by omega), Nat.add_sub_cancel_left]
    rw [e]

theorem run_append_zero (w : World) (ty : TypeId) (ad : Option Addr) (n cap : Nat) (ad' : Option Addr) (cap' : Nat) (h : n ≤ cap) :
    (Builtin.append_ #[41, 41] ty #[.slice ad n cap, .slice ad' 0 cap']).run Try.prog w = .ok (.slice ad n cap) w := by
  obtain ⟨i, z, ht, hi, hz, hsize, hby, hzs, hsz⟩ := elem41
  cases ad <;> cases ad' <;> simp [Builtin.append_, run_underlying ht, sizeOf, typeInfo, hi, Builtin.lenOf, Builtin.firstCells, loadCells, loadCellsFrom, h, storeCells]
/-- The cells of a row. -/
theorem row_cells {w : World} {b o n m : Nat} {L : Nat → Nat → Bool} (h : RowC w (some ⟨b, o, none⟩) n L m) : ∀ j u, (clsCells L n)[j]? = some u → w.cell? ((⟨b, o, none⟩ : Addr).add j) = some u := by
  intro j u hj
  have hlen := clsCells_length L n
  have hlt : j < n * 4 := by
    rcases Nat.lt_or_ge j (clsCells L n).length with h1 | h1
    · omega
    · rw [List.getElem?_eq_none h1] at hj; cases hj
  rw [Addr.add_lit]
  have hq : j / 4 < n := by omega
  obtain ⟨b', o', hb, -, e0, e1, e2, e3⟩ := h.at hq
  cases hb
  obtain ⟨f0, f1, f2, f3⟩ := clsCells_at L n (j / 4) hq
  have hr : j = j / 4 * 4 ∨ j = j / 4 * 4 + 1 ∨ j = j / 4 * 4 + 2 ∨ j = j / 4 * 4 + 3 := by omega
  generalize j / 4 = q at e0 e1 e2 e3 f0 f1 f2 f3 hr
  rcases hr with rfl | rfl | rfl | rfl
  · rw [f0] at hj; cases hj; exact e0
  · rw [f1] at hj; cases hj; exact e1
  · rw [f2] at hj; cases hj; exact e2
  · rw [f3] at hj; cases hj; exact e3
theorem clsCells_one (L : Nat → Nat → Bool) (n : Nat) : ∀ u ∈ clsCells L n, u.oneCell' = true := by
  induction n with
  | zero => intro u hu; cases hu
  | succ n ih =>
    intro u hu
    simp only [clsCells, List.mem_append, List.mem_cons, List.not_mem_nil, or_false] at hu
    rcases hu with h | rfl | rfl | rfl | rfl
    · exact ih u h
    all_goals rfl
/-- append of a row to a full one. -/
theorem run_append_leaf (w : World) (ty : TypeId) (ad : Option Addr) (n : Nat) (L : Nat → Nat → Bool) (ad' : Option Addr) (n' cap' : Nat) (L' : Nat → Nat → Bool) (hn : n ≤ 1048576) (hn' : n' ≤ 1048576) (m : Nat) (hm : m ≤ w.heap.size)
    (hR : RowC w ad n L m) (hR' : RowC w ad' n' L' m) :
    ∃ ad2 cap2 w', (Builtin.append_ #[41, 41] ty #[.slice ad n n, .slice ad' n' cap']).run Try.prog w = .ok (.slice ad2 (n + n') cap2) w' ∧ RowC w' ad2 (n + n') (bothC n L L') w'.heap.size ∧ (∀ b o, ad2 = some ⟨b, o, none⟩ → 0 < n + n' → b < m ∨ w.heap.size ≤ b) ∧ Below w.heap.size w w' := by
  rcases Nat.eq_zero_or_pos n' with h0 | h0
  · subst h0
    refine ⟨ad, n, w, run_append_zero w ty ad n n ad' cap' (Nat.le_refl _), ?_, ?_, Below.refl _ _⟩
    · rcases hR with h | ⟨b, o, ha, hlt, hc⟩
      · exact .inl (by omega)
      · exact .inr ⟨b, o, ha, Nat.lt_of_lt_of_le hlt hm, fun j hj => by
          have e : bothC n L L' j = L j := by unfold bothC; rw [if_pos (by omega)]
          rw [e]; exact hc j (by omega)⟩
    · intro b o ha hp
      rcases hR with h | ⟨b', o', ha', hlt, -⟩
      · omega
      · rw [ha] at ha'; cases ha'; exact .inl hlt
  · obtain ⟨i, z, ht, hi, hz, hsize, hby, hzs, hsz⟩ := elem41
    rcases hR' with h | ⟨b', o', rfl, hlt', hc'⟩
    · omega
    have hnews := row_cells (.inr ⟨b', o', rfl, hlt', hc'⟩ : RowC w (some ⟨b', o', none⟩) n' L' m)
    have key : ∃ v' w', (Builtin.append_ #[41, 41] ty #[.slice ad n n, .slice (some ⟨b', o', none⟩) n' cap']).run Try.prog w = .ok v' w' ∧ w'.ownsRow w.heap.size 26 4 v' (n + n') (clsCells L n ++ clsCells L' n') ∧ w.grownBy w' none := by
      cases ad with
      | some a =>
        refine run_append_arg_grows w 41 ty 26 i z 4 32 ht hi hz hsize hby hzs hsz a n n (clsCells L n) (clsCells_length L n) ?_ ⟨b', o', none⟩ n' cap' (clsCells L' n') (clsCells_length L' n') hnews (by omega) (by unfold maxLen; omega) (by omega)
        rcases hR with h | ⟨b, o, ha, hlt, hc⟩
        · subst h; intro j u hj; cases hj
        · cases ha
          exact row_cells (.inr ⟨b, o, rfl, hlt, hc⟩ : RowC w (some ⟨b, o, none⟩) n L m)
      | none =>
        have hz0 : n = 0 := by
          rcases hR with h | ⟨b, o, ha, hlt, hc⟩
          · exact h
          · cases ha
        subst hz0
        obtain ⟨v', w', hrun, r1, r2, _⟩ := run_append_own (P := Try.prog) w w.heap.size 41 ty 26 i z 4 32 ht hi hz hsize hby hzs hsz (.slice none 0 0) 0 [] (World.ownsRow_nil w _ 26 4) ⟨b', o', none⟩ n' cap' (clsCells L' n') (clsCells_length L' n') hnews (clsCells_one L' n') (by unfold maxLen; omega) (by omega) (Nat.le_refl _)
        exact ⟨v', w', hrun, r1, r2⟩
    obtain ⟨v', w', hrun, r1, r2⟩ := key
    rw [← bothC_cells] at r1
    obtain ⟨g, c2, rfl, hg, -⟩ := own_form r1 (by omega)
    exact ⟨_, _, w', hrun, rowC_of_own r1, fun b o ha _ => by cases ha; exact .inr hg, grown_below r2 (Nat.le_refl _) (fun k hk => by cases hk)⟩
/-- .. at a step of a region. -/
theorem step_leaf {ops : Array Oper} {o : Oper} {a : Act} {w : World} {K : Act → World → Prop} {Q : Exit → Act → World → Prop} {E' : Prop} (hgd : o.guard = none) (s x : Operand)
    (ho : o.op = .call { callee := .builtin .append, args := #[s, x], argTypes := #[41, 41] })
    (ad : Option Addr) (n : Nat) (L : Nat → Nat → Bool) (ad' : Option Addr) (n' cap' : Nat) (L' : Nat → Nat → Bool) (hs : a.eval s = .slice ad n n) (hx : a.eval x = .slice ad' n' cap') (hn : n ≤ 1048576) (hn' : n' ≤ 1048576) (m : Nat) (hm : m ≤ w.heap.size)
    (hR : RowC w ad n L m) (hR' : RowC w ad' n' L' m)
    (h : ∀ ad2 cap2 w', RowC w' ad2 (n + n') (bothC n L L') w'.heap.size → (∀ b o, ad2 = some ⟨b, o, none⟩ → 0 < n + n' → b < m ∨ w.heap.size ≤ b) → Below w.heap.size w w' → K (a.put o.dst (.slice ad2 (n + n') cap2)) w') :
    if Region.wanted o (yielded ops a.tmps) = true then Oper.wp Try.prog o a w K Q else E' := by
  have hw : Region.wanted o (yielded ops a.tmps) = true := by simp [Region.wanted, hgd]
  rw [if_pos hw]
  obtain ⟨ad2, cap2, w', hr, h1, h2, h3⟩ := run_append_leaf w o.type ad n L ad' n' cap' L' hn hn' m hm hR hR'
  unfold Oper.wp execOp
  simp only [ho, resolve, invoke, builtin, Sem.run_bind, Sem.run_pure, Result.andThen_ok, List.map_toArray, List.map_cons, List.map_nil, hs, hx, hr]
  exact h ad2 cap2 w' h1 h2 h3
theorem rowC_set {w : World} {ad : Option Addr} {n m : Nat} {L : Nat → Nat → Bool} (h : RowC w ad n L m) (p : Addr) (v : Value) (hne : ∀ b o, ad = some ⟨b, o, none⟩ → 0 < n → b ≠ p.block) : RowC (w.setCell p v) ad n L m := by
  rcases Nat.eq_zero_or_pos n with h0 | h0
  · exact .inl h0
  · rcases h with h | ⟨b, o, ha, hlt, hc⟩
    · exact .inl h
    · have hk := Below.heap_setCell w p v b (fun e => hne b o ha h0 e)
      have hcell : ∀ j, (w.setCell p v).cell? ⟨b, j, none⟩ = w.cell? ⟨b, j, none⟩ := fun j => by unfold World.cell?; rw [hk]
      refine .inr ⟨b, o, ha, hlt, fun j hj => ?_⟩
      obtain ⟨h0, h1, h2, h3⟩ := hc j hj
      exact ⟨(hcell _).trans h0, (hcell _).trans h1, (hcell _).trans h2, (hcell _).trans h3⟩
end Go.Proofs.Ytkhcjjdamphbfaa
