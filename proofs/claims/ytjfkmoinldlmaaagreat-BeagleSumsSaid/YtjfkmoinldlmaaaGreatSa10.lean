/- A map from classes to bools that a call makes: look-ups and stores at the operation. -/
import Derived.Test.YtjfkmoinldlmaaaGreatSa05
import Derived.Test.YtjfkmoinldlmaaaGreatSa07
import Derived.Maps.Own
import Derived.Maps.OwnOps
import Derived.Maps.Views
import Derived.WideKeyArr
import Derived.DeepKeys4
namespace Go.Proofs.YtjfkmoinldlmaaaGreat
open Go.RowKit Go.Maps

set_option maxRecDepth 100000 in
theorem arr26 : WideMaps.ArrKey Tryz.prog 100 46 4 := ⟨Tryz.underlying100, by kernel_rfl, cells24, cells26⟩
set_option maxRecDepth 100000 in
theorem law26 : Keyed Tryz.prog 100 := Keyed.of_law arr26.law

set_option maxRecDepth 100000 in
theorem key26 (S : Nat → Bool) : ∃ kl, keyOf Tryz.prog 100 (cv S) = some kl := by
  refine ⟨.string (keyBytes [.int .u64 (wd S 0 : Nat), .int .u64 (wd S 1 : Nat), .int .u64 (wd S 2 : Nat), .int .u64 (wd S 3 : Nat)]), ?_⟩
  have hk : Tryz.prog.keyType 100 = true := by kernel_rfl
  obtain ⟨m, hm⟩ : ∃ m, Tryz.prog.types.size = m + 1 := ⟨Tryz.prog.types.size - 1, by kernel_rfl⟩
  have hw : ∀ i, (Lit.int .u64 (wd S i : Nat)).wf = true := fun i => by
    have := wd_lt S i
    exact WalkArith.wf_u64 ⟨by omega, by omega⟩
  have hl : ∀ (d i : Nat), Tryz.prog.keyLits (d + 1) 46 [.int .u64 (wd S i : Nat)] = some [.int .u64 (wd S i : Nat)] := fun d i => by
    unfold Program.keyLits
    simp [Tryz.underlying46, hw i]
  unfold keyOf
  simp only [Tryz.underlying100]
  rw [if_pos (by simp [hk, Value.formed, Tryz.underlying100, cells26]), hm]
  unfold Program.keyLits
  simp only [Tryz.underlying100, Value.cells, cells24, cells26]
  rw [if_pos (by simp)]
  simp [List.range_succ, hl]

/-- Block b is a map of at most n entries, true at the classes that p says, and at no other ones. -/
def MapS (w : World) (b n : Nat) (p : (Nat → Bool) → Bool) : Prop :=
  ∃ D : DataW Unit, w.ownsMap Tryz.prog 100 (plainElem Tryz.prog 4) b n D ∧ IsMap D ∧ ∀ S kl, keyOf Tryz.prog 100 (cv S) = some kl → D.atKey kl (.lit (.bool false)) = .lit (.bool (p S))

theorem MapS.made (w : World) : MapS (w.alloc (.map #[] 0)) w.heap.size 0 fun _ => false :=
  ⟨.map [], World.ownsMap_made _ _ _ _, ⟨[], rfl⟩, fun _ _ _ => rfl⟩
theorem MapS.kept {w w' : World} {b n : Nat} {p : (Nat → Bool) → Bool} {row : Option Nat} (h : MapS w b n p) (hg : w.grownBy w' row) (hne : some b ≠ row) : MapS w' b n p := by
  obtain ⟨D, h1, h2, h3⟩ := h
  exact ⟨D, h1.kept hg hne, h2, h3⟩
theorem MapS.lt {w : World} {b n : Nat} {p : (Nat → Bool) → Bool} (h : MapS w b n p) : b < w.heap.size := by
  obtain ⟨D, h1, _⟩ := h
  exact h1.lt
theorem MapS.below {w w' : World} {b n : Nat} {p : (Nat → Bool) → Bool} (h : MapS w b n p) (hb : Below w.heap.size w w') : MapS w' b n p := h.kept (grown_of_below hb none) (by simp)
theorem MapS.alloc {w : World} {b n : Nat} {p : (Nat → Bool) → Bool} (h : MapS w b n p) (o : Obj) : MapS (w.alloc o) b n p := h.below ((Below.refl _ _).alloc (Nat.le_refl _) o)
theorem HoldsC.grown {w w' : World} {B : Nat} {S : Nat → Bool} {row : Option Nat} (h : HoldsC w B S) (hg : w.grownBy w' row) (hne : some B ≠ row) : HoldsC w' B S := by
  obtain ⟨⟨c0, c1, c2, c3⟩, ⟨f0, f1, f2, f3⟩, hl⟩ := h
  have e := hg.block B hl hne
  have hc := fun o => World.cell?_of_block (a := ⟨B, o, none⟩) e
  have hf := fun o => World.frozen?_of_block (a := ⟨B, o, none⟩) e
  exact ⟨⟨(hc 0).trans c0, (hc 1).trans c1, (hc 2).trans c2, (hc 3).trans c3⟩, ⟨(hf 0).trans f0, (hf 1).trans f1, (hf 2).trans f2, (hf 3).trans f3⟩, Nat.lt_of_lt_of_le hl hg.size⟩
theorem MapS.of_block {w w' : World} {b n : Nat} {p : (Nat → Bool) → Bool} (h : MapS w b n p) (e : w'.heap[b]? = w.heap[b]?) : MapS w' b n p := by
  obtain ⟨D, ⟨es, c, hb, F, hs, hD⟩, h2, h3⟩ := h
  exact ⟨D, ⟨es, c, e.trans hb, F, hs, hD⟩, h2, h3⟩
theorem MapS.congr {w : World} {b n m : Nat} {p q : (Nat → Bool) → Bool} (h : MapS w b n p) (hm : n ≤ m) (he : ∀ S, p S = q S) : MapS w b m q := by
  obtain ⟨D, h1, h2, h3⟩ := h
  exact ⟨D, h1.mono hm, h2, fun S kl hk => by rw [h3 S kl hk, he]⟩

set_option maxRecDepth 100000 in
theorem plainElem_bool_inv {v : Value} {x : Bool} {ps : List MemPlace} (h : plainElem (H := Unit) Tryz.prog 4 v = some (.lit (.bool x), ps)) : v = .bool x := by
  unfold plainElem at h
  rw [Tryz.underlying4] at h
  cases v <;> simp at h
  obtain ⟨rfl, _⟩ := h
  rfl

set_option maxRecDepth 100000 in
theorem zero4 (w : World) : (zeroValue 4).run Tryz.prog w = .ok (.bool false) w := by kernel_rfl

set_option maxRecDepth 100000 in
/-- A look-up. -/
theorem wpList_look (w : World) {ops : Array Oper} {rest : List Oper} {o : Oper} {a : Act} {Q : Exit → Act → World → Prop} (hg : o.guard = none) (m x : Operand) (hop : o.op = Op.lookup 259 m x false)
    {b n : Nat} {p : (Nat → Bool) → Bool} (hm : a.eval m = .map (some b)) (hM : MapS w b n p) (S : Nat → Bool) (hx : a.eval x = cv S) (r : Bool) (hr : p S = r) (hK : wpList Tryz.prog ops Q rest (a.put o.dst (.bool r)) w) :
    wpList Tryz.prog ops Q (o :: rest) a w := by
  subst hr
  refine wpList_plain hg fun K' hK' => ?_
  obtain ⟨D, h1, h2, h3⟩ := hM
  obtain ⟨kl, hkl⟩ := key26 S
  obtain ⟨v, ps, hrun, hv⟩ := h1.lookup law26 Tryz.underlying259 (zero4 w) (plainElem_bool Tryz.underlying4 false) hkl
  rw [h3 S kl hkl] at hv
  obtain rfl := plainElem_bool_inv hv
  unfold Oper.wp
  simp only [execOp, hop, hm, hx, hrun, Result.andThen, Sem.run_bind, Sem.run_pure]
  exact hK' _ _ hK

theorem cv_inj {S T : Nat → Bool} : cv S = cv T ↔ clsEq S T = true := by
  rw [words_iff]
  constructor
  · intro h
    simp only [cv, Value.agg.injEq, Array.mk.injEq, List.cons.injEq, Value.int.injEq, true_and, and_true, Int.natCast_inj] at h
    exact h
  · rintro ⟨h0, h1, h2, h3⟩
    unfold cv
    rw [h0, h1, h2, h3]

set_option maxRecDepth 100000 in
/-- A store. -/
theorem wpList_put (w : World) {ops : Array Oper} {rest : List Oper} {o : Oper} {a : Act} {Q : Exit → Act → World → Prop} (hg : o.guard = none) (m x v : Operand) (hop : o.op = Op.mapUpdate 259 m x v ∨ o.op = Op.insert 259 m x v)
    {b n : Nat} {p : (Nat → Bool) → Bool} (hm : a.eval m = .map (some b)) (hM : MapS w b n p) (hn : n < maxLen) (S : Nat → Bool) (hx : a.eval x = cv S) (hv : a.eval v = .bool true)
    (hK : ∀ w', MapS w' b (n + 1) (fun T => p T || clsEq S T) → w.grownBy w' (some b) → wpList Tryz.prog ops Q rest (a.put o.dst undef) w') :
    wpList Tryz.prog ops Q (o :: rest) a w := by
  refine wpList_plain hg fun K' hK' => ?_
  obtain ⟨D, h1, h2, h3⟩ := hM
  obtain ⟨kl, hkl⟩ := key26 S
  obtain ⟨w', hrun, r1, r2⟩ := h1.update law26 Tryz.underlying259 hn hkl (plainElem_bool Tryz.underlying4 true)
  have hfin : MapS w' b (n + 1) (fun T => p T || clsEq S T) := by
    refine ⟨_, r1, h2.put kl _, fun T kl' hk' => ?_⟩
    by_cases he : clsEq S T = true
    · have e : cv S = cv T := cv_inj.2 he
      rw [← e, hkl] at hk'
      cases hk'
      rw [atKey_put_same h2 (law26.key hkl)]
      show _ = DataW.lit (.bool (p T || clsEq S T))
      rw [he, Bool.or_true]
    · have hne : kl' ≠ kl := fun e => he (cv_inj.1 (law26.inj hkl (e ▸ hk')))
      rw [atKey_put_other hne, h3 T kl' hk']
      simp only [Bool.not_eq_true] at he
      show _ = DataW.lit (.bool (p T || clsEq S T))
      rw [he, Bool.or_false]
  unfold Oper.wp
  rcases hop with hop | hop
  all_goals
    simp only [execOp, hop, hm, hx, hv, hrun, Result.andThen, Sem.run_bind, Sem.run_pure]
    exact hK' _ _ (hK w' hfin r2)
end Go.Proofs.YtjfkmoinldlmaaaGreat

/- A map from ways to functions that a call makes: look-ups and stores at the operation. -/
namespace Go.Proofs.YtjfkmoinldlmaaaGreat
open Go.RowKit Go.Maps

set_option maxRecDepth 100000 in
theorem law3 : Keyed Tryz.prog 3 := int_keyed Tryz.underlying3
set_option maxRecDepth 100000 in
theorem key3 (x : Int) (h1 : 1 ≤ x) (h5 : x ≤ 5) : keyOf Tryz.prog 3 (.int .i64 x) = some (.int .i64 x) := by
  have hw : (Lit.int .i64 x).wf = true := WalkArith.wf_i64 ⟨by omega, by omega⟩
  unfold keyOf
  simp only [Tryz.underlying3]
  simp [Tryz.underlying3, hw, mapKey]
set_option maxRecDepth 100000 in
theorem zero97 (w : World) : (zeroValue 250).run Tryz.prog w = .ok .nilFunc w := by kernel_rfl
/-- A function, as it is. -/
def asIs (v : Value) : Option (DataW Value × List MemPlace) := some (.held v, [])

/-- Block b is a map of at most n entries, with p x at way x. -/
def MapF (w : World) (b n : Nat) (p : Int → Value) : Prop :=
  ∃ D : DataW Value, w.ownsMap Tryz.prog 3 asIs b n D ∧ IsMap D ∧ ∀ x, 1 ≤ x → x ≤ 5 → D.atKey (.int .i64 x) (.held .nilFunc) = .held (p x)
theorem MapF.made (w : World) : MapF (w.alloc (.map #[] 0)) w.heap.size 0 fun _ => .nilFunc :=
  ⟨.map [], World.ownsMap_made _ _ _ _, ⟨[], rfl⟩, fun _ _ _ => rfl⟩
theorem MapF.kept {w w' : World} {b n : Nat} {p : Int → Value} {row : Option Nat} (h : MapF w b n p) (hg : w.grownBy w' row) (hne : some b ≠ row) : MapF w' b n p := by
  obtain ⟨D, h1, h2, h3⟩ := h
  exact ⟨D, h1.kept hg hne, h2, h3⟩
theorem MapF.below {w w' : World} {b n : Nat} {p : Int → Value} (h : MapF w b n p) (hb : Below w.heap.size w w') : MapF w' b n p := h.kept (grown_of_below hb none) (by simp)
theorem MapF.lt {w : World} {b n : Nat} {p : Int → Value} (h : MapF w b n p) : b < w.heap.size := by
  obtain ⟨D, h1, _⟩ := h
  exact h1.lt
set_option maxRecDepth 100000 in
/-- A look-up, run. -/
theorem MapF.look {w : World} {b n : Nat} {p : Int → Value} (h : MapF w b n p) (x : Int) (h1 : 1 ≤ x) (h5 : x ≤ 5) : (Instr.lookup 272 (.map (some b)) (.int .i64 x) false).run Tryz.prog w = .ok (p x) w := by
  obtain ⟨D, g1, g2, g3⟩ := h
  obtain ⟨v, ps, hrun, hv⟩ := g1.lookup law3 Tryz.underlying272 (zero97 w) (zd := .held .nilFunc) (zp := []) rfl (key3 x h1 h5)
  rw [g3 x h1 h5] at hv
  obtain rfl : v = p x := by
    unfold asIs at hv
    simp at hv
    exact hv.1
  exact hrun
set_option maxRecDepth 100000 in
/-- A store, run. -/
theorem MapF.store {w : World} {b n : Nat} {p : Int → Value} (h : MapF w b n p) (hn : n < maxLen) (x : Int) (h1 : 1 ≤ x) (h5 : x ≤ 5) (F : Value) : ∃ w', (Instr.mapUpdate 272 (.map (some b)) (.int .i64 x) F).run Tryz.prog w = .ok () w' ∧ MapF w' b (n + 1) (fun y => if y = x then F else p y) ∧ w.grownBy w' (some b) := by
  obtain ⟨D, g1, g2, g3⟩ := h
  obtain ⟨w', hrun, r1, r2⟩ := g1.update law3 Tryz.underlying272 hn (key3 x h1 h5) (d := .held F) (ps := []) rfl
  refine ⟨w', hrun, ⟨_, r1, g2.put _ _, fun y y1 y5 => ?_⟩, r2⟩
  by_cases he : y = x
  · subst he
    rw [atKey_put_same g2 (law3.key (key3 y y1 y5))]
    show _ = DataW.held (if y = y then F else p y)
    rw [if_pos rfl]
  · have hne : (Lit.int .i64 y) ≠ (Lit.int .i64 x) := fun e => he (by cases e; rfl)
    rw [atKey_put_other hne, g3 y y1 y5]
    show _ = DataW.held (if y = x then F else p y)
    rw [if_neg he]
set_option maxRecDepth 100000 in
/-- A store, at the operation. -/
theorem wpList_putF (w : World) {ops : Array Oper} {rest : List Oper} {o : Oper} {a : Act} {Q : Exit → Act → World → Prop} (hg : o.guard = none) (m x v : Operand) (hop : o.op = Op.mapUpdate 272 m x v ∨ o.op = Op.insert 272 m x v)
    {b n : Nat} {p : Int → Value} (hm : a.eval m = .map (some b)) (hM : MapF w b n p) (hn : n < maxLen) (y : Int) (h1 : 1 ≤ y) (h5 : y ≤ 5) (F : Value) (hx : a.eval x = .int .i64 y) (hv : a.eval v = F)
    (hK : ∀ w', MapF w' b (n + 1) (fun z => if z = y then F else p z) → w.grownBy w' (some b) → wpList Tryz.prog ops Q rest (a.put o.dst undef) w') :
    wpList Tryz.prog ops Q (o :: rest) a w := by
  refine wpList_plain hg fun K' hK' => ?_
  obtain ⟨w', hrun, r1, r2⟩ := hM.store hn y h1 h5 F
  unfold Oper.wp
  rcases hop with hop | hop
  all_goals
    simp only [execOp, hop, hm, hx, hv, hrun, Result.andThen, Sem.run_bind, Sem.run_pure]
    exact hK' _ _ (hK w' r1 r2)
end Go.Proofs.YtjfkmoinldlmaaaGreat
