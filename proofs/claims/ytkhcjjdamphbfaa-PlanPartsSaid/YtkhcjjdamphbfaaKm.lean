/- A map from ways to functions that a call makes: look-ups and stores at the operation. -/
import Derived.Test.YtkhcjjdamphbfaaLm
namespace Go.Proofs.Ytkhcjjdamphbfaa
open Go.RowKit Go.Maps

theorem law3 : Keyed Try.prog 3 := int_keyed Try.underlying3
theorem key3 (x : Int) (h1 : 1 ≤ x) (h5 : x ≤ 5) : keyOf Try.prog 3 (.int .i64 x) = some (.int .i64 x) := by
  have hw : (Lit.int .i64 x).wf = true := WalkArith.wf_i64 ⟨by omega, by omega⟩
  unfold keyOf
  simp only [Try.underlying3]
  simp [Try.underlying3, hw, mapKey]
theorem zero97 (w : World) : (zeroValue 97).run Try.prog w = .ok .nilFunc w := by kernel_rfl
/-- A function, as it is. -/
def asIs (v : Value) : Option (DataW Value × List MemPlace) := some (.held v, [])

/-- Block b is a map of at most n entries, with p x at way x. -/
def MapF (w : World) (b n : Nat) (p : Int → Value) : Prop :=
  ∃ D : DataW Value, w.ownsMap Try.prog 3 asIs b n D ∧ IsMap D ∧ ∀ x, 1 ≤ x → x ≤ 5 → D.atKey (.int .i64 x) (.held .nilFunc) = .held (p x)
theorem MapF.made (w : World) : MapF (w.alloc (.map #[] 0)) w.heap.size 0 fun _ => .nilFunc :=
  ⟨.map [], World.ownsMap_made _ _ _ _, ⟨[], rfl⟩, fun _ _ _ => rfl⟩
theorem MapF.kept {w w' : World} {b n : Nat} {p : Int → Value} {row : Option Nat} (h : MapF w b n p) (hg : w.grownBy w' row) (hne : some b ≠ row) : MapF w' b n p := by
  obtain ⟨D, h1, h2, h3⟩ := h
  exact ⟨D, h1.kept hg hne, h2, h3⟩
theorem MapF.below {w w' : World} {b n : Nat} {p : Int → Value} (h : MapF w b n p) (hb : Below w.heap.size w w') : MapF w' b n p := h.kept (grown_of_below hb none) (by simp)
theorem MapF.lt {w : World} {b n : Nat} {p : Int → Value} (h : MapF w b n p) : b < w.heap.size := by
  obtain ⟨D, h1, _⟩ := h
  exact h1.lt
/-- A look-up, run. -/
theorem MapF.look {w : World} {b n : Nat} {p : Int → Value} (h : MapF w b n p) (x : Int) (h1 : 1 ≤ x) (h5 : x ≤ 5) : (Instr.lookup 98 (.map (some b)) (.int .i64 x) false).run Try.prog w = .ok (p x) w := by
  obtain ⟨D, g1, g2, g3⟩ := h
  obtain ⟨v, ps, hrun, hv⟩ := g1.lookup law3 Try.underlying98 (zero97 w) (zd := .held .nilFunc) (zp := []) rfl (key3 x h1 h5)
  rw [g3 x h1 h5] at hv
  obtain rfl : v = p x := by
    unfold asIs at hv
    simp at hv
    exact hv.1
  exact hrun
/-- A store, run. -/
theorem MapF.store {w : World} {b n : Nat} {p : Int → Value} (h : MapF w b n p) (hn : n < maxLen) (x : Int) (h1 : 1 ≤ x) (h5 : x ≤ 5) (F : Value) : ∃ w', (Instr.mapUpdate 98 (.map (some b)) (.int .i64 x) F).run Try.prog w = .ok () w' ∧ MapF w' b (n + 1) (fun y => if y = x then F else p y) ∧ w.grownBy w' (some b) := by
  obtain ⟨D, g1, g2, g3⟩ := h
  obtain ⟨w', hrun, r1, r2⟩ := g1.update law3 Try.underlying98 hn (key3 x h1 h5) (d := .held F) (ps := []) rfl
  refine ⟨w', hrun, ⟨_, r1, g2.put _ _, fun y y1 y5 => ?_⟩, r2⟩
  by_cases he : y = x
  · subst he
    rw [atKey_put_same g2 (law3.key (key3 y y1 y5))]
    show _ = DataW.held (if y = y then F else p y)
    rw [if_pos rfl]
  · have hne : (Lit.int .i64 y) ≠ (Lit.int .i64 x) := fun e => he (by cases e; rfl)
    rw [atKey_put_other hne, g3 y y1 y5]
    show _ = DataW.held (if y = x then F else p y)
    rw [if_neg he]
/-- A store, at the operation. -/
theorem wpList_putF (w : World) {ops : Array Oper} {rest : List Oper} {o : Oper} {a : Act} {Q : Exit → Act → World → Prop} (hg : o.guard = none) (m x v : Operand) (hop : o.op = Op.mapUpdate 98 m x v ∨ o.op = Op.insert 98 m x v)
    {b n : Nat} {p : Int → Value} (hm : a.eval m = .map (some b)) (hM : MapF w b n p) (hn : n < maxLen) (y : Int) (h1 : 1 ≤ y) (h5 : y ≤ 5) (F : Value) (hx : a.eval x = .int .i64 y) (hv : a.eval v = F)
    (hK : ∀ w', MapF w' b (n + 1) (fun z => if z = y then F else p z) → w.grownBy w' (some b) → wpList Try.prog ops Q rest (a.put o.dst undef) w') :
    wpList Try.prog ops Q (o :: rest) a w := by
  refine wpList_plain hg fun K' hK' => ?_
  obtain ⟨w', hrun, r1, r2⟩ := hM.store hn y h1 h5 F
  unfold Oper.wp
  rcases hop with hop | hop
  all_goals
    simp only [execOp, hop, hm, hx, hv, hrun, Result.andThen, Sem.run_bind, Sem.run_pure]
    exact hK' _ _ (hK w' r1 r2)
end Go.Proofs.Ytkhcjjdamphbfaa
