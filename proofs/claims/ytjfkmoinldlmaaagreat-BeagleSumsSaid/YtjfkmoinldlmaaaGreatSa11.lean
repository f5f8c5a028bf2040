/- A region that draws its order, within a round of a range over a function. -/
import Derived.Test.YtjfkmoinldlmaaaGreatSa05
import Derived.Test.YtjfkmoinldlmaaaGreatSa08
import Derived.RangeFuncBox
import Derived.Maps.AppendAt
import Derived.OrdersIn
import Derived.OrdersHeld
import Derived.Deep.RegionHeld
import Derived.OwnWalkIn
namespace Go.Proofs.YtjfkmoinldlmaaaGreat
open Go.RowKit Go.Shelf

section
variable {P : Program}
/-- An operation that is no defer statement is carried out in a round as anywhere. -/
theorem oper_round {l n : Nat} {o : Oper} {a : Act} {w : World} {K : Act → World → Prop} {Q : Exit → Act → World → Prop} (hd : ∀ c, o.op ≠ .defer c) (h : o.wp P a w K Q) : o.wpIn (Fence.wide.inRound l) n P a w K Q := by
  refine ⟨fun _ _ => trivial, ?_⟩
  rw [Fence.inRound_round, Oper.semAt_some l _ _ hd]
  unfold Oper.wp at h
  generalize (execOp a.eval o).run P w = r at *
  cases r with
  | ok x w' =>
    cases x with
    | value v => exact h
    | skip => exact h
    | defer d => exact h
    | enter f args => exact ⟨fun hx => (by cases hx), CallsIn.inRound l (callsIn_wide.2 h)⟩
    | row r args => exact ⟨fun hx => (by cases hx), fun c cs _ => let ⟨v, w2, hr, hs⟩ := h c cs; ⟨v, w2, hr, (stepsIn_wide (P := P)).2 hs⟩⟩
    | round l f tmps assign body => exact h.elim
    | _ => exact h.elim
  | halt x w' => cases x <;> first | exact h | exact h.elim

/-- So is a region that draws its order. -/
theorem any_round {l n : Nat} {ops : Array Oper} {Q : Exit → Act → World → Prop} {md : Region.Mode} (hd : ∀ (i : Nat) o, ops[i]? = some o → ∀ c, o.op ≠ .defer c) (hQ : ¬ LetsOut Q) :
    ∀ (fuel : Nat) (listed : Array Bool) (a : Act) (w : World), wpAny P md ops Q fuel listed a w → wpAnyIn (Fence.wide.inRound l) n P md ops Q fuel listed a w := by
  intro fuel
  induction fuel with
  | zero => intro listed a w h; exact h
  | succ fuel ih =>
    intro listed a w h
    refine ⟨h.1, fun i hi => ?_⟩
    have h1 := h.2 i hi
    unfold wpOp at h1
    unfold wpOpIn
    cases ho : ops[i]? with
    | none => simp only [ho] at h1; exact ih _ _ _ h1
    | some o =>
      simp only [ho] at h1 ⊢
      by_cases hw : Region.wanted o (yielded ops a.tmps) = true
      · rw [if_pos hw] at h1 ⊢
        rcases h1 with h1 | h1
        · exact Oper.wpIn_mono (fun a w => ih _ a w) (oper_round (hd i o ho) h1)
        · exact absurd h1.2 hQ
      · rw [if_neg hw] at h1 ⊢
        exact ⟨fun _ _ => trivial, ih _ _ _ h1⟩

/-- No operation is a defer statement. -/
def noDefer (ops : Array Oper) : Bool := ops.all fun o => match o.op with | .defer _ => false | _ => true
theorem noDefer_spec {ops : Array Oper} (h : noDefer ops = true) (i : Nat) (o : Oper) (ho : ops[i]? = some o) (c) : o.op ≠ .defer c := by
  intro e
  unfold noDefer at h
  rw [Array.all_eq_true] at h
  obtain ⟨hi, rfl⟩ := Array.getElem?_eq_some_iff.1 ho
  have := h i hi
  rw [e] at this
  cases this

theorem region_round {l n id : Nat} {ops : Array Oper} {Q : Exit → Act → World → Prop} {a : Act} {w : World} (S : World → Prop) (hm : P.follows .mixedOrders = true) (hd : noDefer ops = true) (hQ : ¬ LetsOut Q) (hS : S w.drew)
    (h : S w.drew → wpAnyH P .any ops Q S ops.size (Array.replicate ops.size false) a w.drew) : (Code.region id ops true).wpIn (Fence.wide.inRound l) n P Q a w :=
  wpIn_region_any hm (any_round (fun i o ho c => noDefer_spec hd i o ho c) hQ _ _ _ _ (wpAny_of_held _ _ _ _ (h hS)))
end
end Go.Proofs.YtjfkmoinldlmaaaGreat

/- Walk of the closure of zed.rows. -/
namespace Go.Proofs.YtjfkmoinldlmaaaGreat
open Go.RowKit Go.Shelf

set_option maxRecDepth 100000 in
set_option maxHeartbeats 4000000 in
theorem seen_past (i to : Nat) (bt bo bf bu : Nat) (hi : to ≤ i) (w : World) (ht : Boxed w bt 3 (.int .i64 (to : Nat))) :
    Calls Tryz.prog 219 #[.int .i64 (i : Nat), .pointer (some ⟨bt, 0, none⟩), .pointer (some ⟨bo, 0, none⟩), .pointer (some ⟨bf, 0, none⟩), .pointer (some ⟨bu, 0, none⟩)] w fun e w' => e = .returned (.int .i64 0) ∧ Below w.heap.size w w' := by
  have c1 := ht.cell
  have hge : (to : Int) ≤ i := by omega
  clear ht
  go_enter Tryz.func219, Tryz.ntmps219
  go_wp2
  go_ret
  exact ⟨rfl, Below.refl _ _⟩

set_option maxRecDepth 100000 in
set_option maxHeartbeats 4000000 in
theorem seen_own (i fr to : Nat) (bt bo bf bu : Nat) (hi : i < to) (hto : to ≤ 1000000) (hf : fr ≤ i) (g o n cap : Nat) (A : Nat → Int) (hn : i - fr < n) (w : World) (ht : Boxed w bt 3 (.int .i64 (to : Nat))) (hfr : Boxed w bf 3 (.int .i64 (fr : Nat))) (ho : Boxed w bo 24 (.slice (some ⟨g, o, none⟩) n cap))
    (hc : w.cell? ⟨g, o + (i - fr), none⟩ = some (.int .i64 (A (i - fr)))) :
    Calls Tryz.prog 219 #[.int .i64 (i : Nat), .pointer (some ⟨bt, 0, none⟩), .pointer (some ⟨bo, 0, none⟩), .pointer (some ⟨bf, 0, none⟩), .pointer (some ⟨bu, 0, none⟩)] w fun e w' => e = .returned (.int .i64 (min (A (i - fr)) ((to : Int) - i))) ∧ Below w.heap.size w w' := by
  have c1 := ht.cell
  have c2 := hfr.cell
  have c3 := ho.cell
  have hlt : (i : Int) < to := by omega
  have hlt2 : ¬ to ≤ i := by omega
  obtain ⟨d, hd⟩ : ∃ d, d = i - fr := ⟨_, rfl⟩
  rw [← hd] at hc hn ⊢
  have hw1 : IntKind.i64.wrap ((i : Int) - fr) = (d : Int) := by rw [IntKind.wrap_i64]; omega
  have hw2 : IntKind.i64.wrap ((to : Int) - i) = (to : Int) - i := by rw [IntKind.wrap_i64]; omega
  have hd0 : (0 : Int) ≤ d := by omega
  have hdn : (d : Int) < n := by omega
  clear hd ht hfr ho
  by_cases hq : (to : Int) - i < A d
  · rw [Int.min_eq_right (by omega)]
    go_enter Tryz.func219, Tryz.ntmps219
    go_wp2_with fail
    go_region
    go_wp2
    go_ret
    exact ⟨rfl, (Below.refl _ _).drew⟩
  · rw [Int.min_eq_left (by omega)]
    go_enter Tryz.func219, Tryz.ntmps219
    go_wp2_with fail
    go_region
    go_wp2
    go_ret
    exact ⟨rfl, (Below.refl _ _).drew⟩

set_option maxRecDepth 100000 in
set_option maxHeartbeats 4000000 in
theorem seen_out (i fr to : Nat) (bt bo bf bu : Nat) (hi : i < to) (hto : to ≤ 1000000) (hf : fr ≤ i) (g o n cap : Nat) (A : Nat → Int) (hn : i - fr < n) (w : World) (ht : Boxed w bt 3 (.int .i64 (to : Nat))) (hfr : Boxed w bf 3 (.int .i64 (fr : Nat))) (ho : Boxed w bo 24 (.slice none 0 0)) (hu : Boxed w bu 24 (.slice (some ⟨g, o, none⟩) n cap))
    (hc : w.cell? ⟨g, o + (i - fr), none⟩ = some (.int .i64 (A (i - fr)))) :
    Calls Tryz.prog 219 #[.int .i64 (i : Nat), .pointer (some ⟨bt, 0, none⟩), .pointer (some ⟨bo, 0, none⟩), .pointer (some ⟨bf, 0, none⟩), .pointer (some ⟨bu, 0, none⟩)] w fun e w' => e = .returned (.int .i64 (min (A (i - fr)) ((to : Int) - i))) ∧ Below w.heap.size w w' := by
  have c1 := ht.cell
  have c2 := hfr.cell
  have c3 := ho.cell
  have c4 := hu.cell
  have hlt : (i : Int) < to := by omega
  have hlt2 : ¬ to ≤ i := by omega
  obtain ⟨d, hd⟩ : ∃ d, d = i - fr := ⟨_, rfl⟩
  rw [← hd] at hc hn ⊢
  have hw1 : IntKind.i64.wrap ((i : Int) - fr) = (d : Int) := by rw [IntKind.wrap_i64]; omega
  have hw2 : IntKind.i64.wrap ((to : Int) - i) = (to : Int) - i := by rw [IntKind.wrap_i64]; omega
  have hd0 : (0 : Int) ≤ d := by omega
  have hdn : (d : Int) < n := by omega
  clear hd ht hfr ho hu
  by_cases hq : (to : Int) - i < A d
  · rw [Int.min_eq_right (by omega)]
    go_enter Tryz.func219, Tryz.ntmps219
    go_wp2_with fail
    go_region
    go_wp2
    go_ret
    exact ⟨rfl, (Below.refl _ _).drew⟩
  · rw [Int.min_eq_left (by omega)]
    go_enter Tryz.func219, Tryz.ntmps219
    go_wp2_with fail
    go_region
    go_wp2
    go_ret
    exact ⟨rfl, (Below.refl _ _).drew⟩

end Go.Proofs.YtjfkmoinldlmaaaGreat

/- Walk of naive.Counts: a range over a function. -/
namespace Go.Proofs.YtjfkmoinldlmaaaGreat
open Go.RowKit Go.Shelf
attribute [local go_sem] Oper.semAt_some

set_option maxRecDepth 100000 in
/-- append at a step of a region that draws its order: nothing but its row is written. -/
theorem step_app2 {T E size bytes base : Nat} (hE : ElemT T E size bytes) {ops : Array Oper} {o : Oper} {a : Act} {K : Act → World → Prop} {Q : Exit → Act → World → Prop} {E' : Prop} (hgd : o.guard = none) (s x : Operand)
    (ho : o.op = .call { callee := .builtin .append, args := #[s, x], argTypes := #[T, T] })
    {v : Value} {n : Nat} {xs : List Value} (hs : a.eval s = v) {w0 : World} (hown : w0.ownsRow base E size v n xs) (nc : List Value)
    (hx : a.eval x = .slice (some ⟨w0.heap.size, 0, none⟩) 1 1) (hl : nc.length = size) (h1 : ∀ u ∈ nc, u.oneCell' = true) (hn : n + 1 ≤ maxLen) (hbytes : (n + 1) * bytes ≤ 140737488355328) (hbase : base ≤ w0.heap.size)
    (h : ∀ v' w', w'.ownsRow base E size v' (n + 1) (xs ++ nc) → (w0.alloc (.cells nc.toArray E)).grownBy w' v.ownBlock → K (a.put o.dst v') w') :
    if Region.wanted o (yielded ops a.tmps) = true then Oper.wp Tryz.prog o a (w0.alloc (.cells nc.toArray E)) K Q else E' := by
  have hw : Region.wanted o (yielded ops a.tmps) = true := by simp [Region.wanted, hgd]
  rw [if_pos hw]
  obtain ⟨i, z, ht, hi, hz, hsize, hby, hzs, hsz⟩ := hE
  have hnews : ∀ (j : Nat) u, nc[j]? = some u → (w0.alloc (.cells nc.toArray E)).cell? ((⟨w0.heap.size, 0, none⟩ : Addr).add j) = some u := by
    intro j u hj
    have e : (⟨w0.heap.size, 0, none⟩ : Addr).add j = ⟨w0.heap.size, j, none⟩ := by unfold Addr.add; split <;> simp_all
    rw [e, World.cell?_alloc_new]
    simpa using hj
  obtain ⟨v', w', hr, h2, h3, _, _⟩ := run_append_own_at (P := Tryz.prog) (w0.alloc (.cells nc.toArray E)) base T o.type E i z size bytes ht hi hz hsize hby hzs hsz v n xs (hown.alloc _) ⟨w0.heap.size, 0, none⟩ 1 1 nc (by omega) hnews h1 hn hbytes (by simp; omega)
  unfold Oper.wp execOp
  simp only [ho, resolve, invoke, builtin, Sem.run_bind, Sem.run_pure, Result.andThen_ok, List.map_toArray, List.map_cons, List.map_nil, hs, hx, hr]
  exact h v' w' h2 h3

/-- Behind an append into a box below the row: the box, the row, and what lay elsewhere. -/
theorem Boxed.appended2 {W w1 : World} {m n₀ B : Nat} {t e : TypeId} {size : Nat} {v v' : Value} {k q : Nat} {xs ys : List Value} {tmp : Obj}
    (hv : Boxed W B t v) (hte : t ≠ e) (hrow : W.ownsRow n₀ e size v k xs) (hn₀ : n₀ ≤ W.heap.size) (hm : m ≤ B) (hmn : m ≤ n₀)
    (hown' : w1.ownsRow n₀ e size v' q ys) (hgrow : (W.alloc tmp).grownBy w1 v.ownBlock) :
    Boxed w1 B t v ∧ Boxed (w1.setCell ⟨B, 0, none⟩ v') B t v' ∧ (w1.setCell ⟨B, 0, none⟩ v').ownsRow n₀ e size v' q ys ∧ KeepsOthers W (w1.setCell ⟨B, 0, none⟩ v') ∧ Below m W (w1.setCell ⟨B, 0, none⟩ v') ∧
      ∀ b o, b < n₀ → b ≠ B → (w1.setCell ⟨B, 0, none⟩ v').cell? ⟨b, o, none⟩ = W.cell? ⟨b, o, none⟩ := by
  have hv1 : Boxed w1 B t v := (hv.alloc tmp).kept hgrow (hv.not_row hte hrow)
  have hlt := hrow.lt
  refine ⟨hv1, hv1.set v', hown'.kept (grownBy_setCell' w1 B v') (.inr (hv1.not_row hte hown').symm), ?_, ?_, ?_⟩
  · refine ((KeepsOthers.alloc W tmp).trans (KeepsOthers.of_grownBy hgrow fun j o ej hj => ?_)).trans (KeepsOthers.setCell _ _ _)
    rcases (hrow.alloc tmp).2 with ⟨rfl, _⟩ | ⟨g, cap, cur, rfl, _, hgb, _⟩
    · simp [Value.ownBlock] at ej
    · obtain rfl : g = j := by simpa [Value.ownBlock] using ej
      rw [hgb] at hj; cases hj; rfl
  · exact (((Below.refl m W).alloc (Nat.le_trans hmn hn₀) tmp).grown hgrow (by simp; omega) fun j ej => Nat.le_trans hmn (hlt j ej).1).setCell (p := ⟨B, 0, none⟩) hm v'
  · intro b o hb hne
    have h1 := World.cell?_of_block (a := ⟨b, o, none⟩) ((grownBy_setCell' w1 B v').block b (by have := hgrow.size; simp at this; show b < w1.heap.size; omega) (fun e => hne (by cases e; rfl)))
    have h2 := World.cell?_of_block (a := ⟨b, o, none⟩) (hgrow.block b (by simp; show b < W.heap.size + 1; omega) (fun e => by have := (hlt b e.symm).1; omega))
    have h3 := World.cell?_of_block (a := ⟨b, o, none⟩) ((World.grownBy_alloc W tmp none).block b (show b < W.heap.size by omega) (by simp))
    exact h1.trans (h2.trans h3)

theorem Boxed.below {W W' : World} {B n : Nat} {t : TypeId} {v : Value} (h : Boxed W B t v) (hb : Below n W W') (hn : B < n) : Boxed W' B t v := (hb.block B hn).trans h
theorem takeD {P : Program} {ops : Array Oper} {Q : Exit → Act → World → Prop} {md : Region.Mode} {S : World → Prop} (i d : Nat) (v : Value) {oi : Oper} {fuel : Nat} {listed : Array Bool} {a : Act} {w : World} (hi : ops[i]? = some oi) (hd : oi.dst = some d)
    (hs : Region.noSelect ops = true) (hf : Region.free md ops listed i = true) (hr : (Region.ready md ops listed).contains i = true)
    (hQ : ∀ c a w, Q (.panic c) (a.put (some d) v) w → Q (.panic c) a w) (hy : YieldsIf P ops S oi v a) (hS : S w)
    (h : wpAnyH P md ops Q S fuel (listed.setIfInBounds i true) (a.put (some d) v) w) : wpAnyH P md ops Q S (fuel + 1) listed a w :=
  wpAnyH_take hi hs hf hr (by rw [hd]; exact hQ) hy hS (by rw [hd]; exact h)

set_option maxRecDepth 100000 in
set_option maxHeartbeats 4000000 in
theorem counts_any (ad : Option Addr) (n cap : Nat) (K : Int) (L : Nat → Nat → Bool) (hn : (n : Int) ≤ 1000) (t : ByteArray) (ht : t.size ≤ 1000) (w : World) (hR : RowC w ad n L w.heap.size) :
    Calls Tryz.prog 81 #[lv ad n cap K, .string t] w fun e w' => ∃ v, e = .returned v ∧ w'.ownsRow w.heap.size 3 1 v (many t n L K 0) (ints ((plc 0 (many t n L K 0)).map fun i => ((mis t L i n : Nat) : Int))) ∧ Below w.heap.size w w' := by
  refine (callsIn_wide (n := 9)).1 ?_
  refine callsIn_of_wp_marks Tryz.func81 rfl trivial ?_ rfl
  simp only [Tryz.ntmps81, List.size_toArray, List.length_cons, List.length_nil, Nat.reduceAdd, Nat.reduceSub, Array.replicate_succ, Array.replicate_zero, List.push_toArray, List.append_toArray, List.nil_append, List.cons_append]
  have hL0 := HoldsL.new w ad n cap K
  have bT := Boxed.new (w.alloc (.cells #[.slice ad n cap, .int .i64 K] 52)) 9 (.string t)
  have bO := Boxed.new ((w.alloc (.cells #[.slice ad n cap, .int .i64 K] 52)).alloc (.cells #[.string t] 9)) 24 (.slice none 0 0)
  have hB0 : Below w.heap.size w (((w.alloc (.cells #[.slice ad n cap, .int .i64 K] 52)).alloc (.cells #[.string t] 9)).alloc (.cells #[.slice none 0 0] 24)) := (((Below.refl _ w).alloc (Nat.le_refl _) _).alloc (by simp) _).alloc (by simp; omega) _
  gi_wp2_with (refine ⟨trivial, ?_⟩; gi_at_call 138; refine (callsIn_wide.2 (placesF_any ad n cap K t 0 _)).mono ?_; rintro e w1 ⟨rfl, hl, htx, hst, hsz, hb⟩)
  simp only [World.size_alloc, Nat.add_assoc, Nat.reduceAdd] at hl htx hst hsz hb bT bO ⊢
  obtain ⟨c, hc⟩ : ∃ c, c = w.heap.size := ⟨_, rfl⟩
  obtain ⟨W3, hW3⟩ : ∃ W3 : World, (((w.alloc (.cells #[.slice ad n cap, .int .i64 K] 52)).alloc (.cells #[.string t] 9)).alloc (.cells #[.slice none 0 0] 24)) = W3 := ⟨_, rfl⟩
  have q0 : W3.cell? ⟨c, 0, none⟩ = some (.slice ad n cap) := by subst hW3; subst hc; simp [go_sem]
  have q1 : W3.cell? ⟨c, 1, none⟩ = some (.int .i64 K) := by subst hW3; subst hc; simp [go_sem]
  have q2 : W3.cell? ⟨c + 1, 0, none⟩ = some (.string t) := by subst hW3; subst hc; simp [go_sem]
  have hs3 : W3.heap.size = c + 3 := by subst hW3; subst hc; simp
  rw [hW3] at hb bO hB0
  clear hW3 bT hL0
  rw [← hc] at hl htx hst hsz hb bO hB0 hR ⊢
  have hcw : c ≤ w.heap.size := by omega
  have HCW := Lib.hid hc
  clear hc
  have hR3 := hR.below hB0 (Nat.le_refl _)
  have hBw1 : Below c w w1 := hB0.trans (hb.mono (by omega))
  have hP : PlArgs w1 c (c + 3) ad n cap K L t 0 := ⟨⟨hl.1, hl.2.1⟩, htx, hst, hR3.below hb (by omega)⟩
  have p0 := (hb.cell (p := ⟨c, 0, none⟩) (by show c < c + 3; omega)).trans q0
  have p1 := (hb.cell (p := ⟨c, 1, none⟩) (by show c < c + 3; omega)).trans q1
  have p2 := (hb.cell (p := ⟨c + 1, 0, none⟩) (by show c + 1 < c + 3; omega)).trans q2
  have bO1 : Boxed w1 (c + 2) 24 (.slice none 0 0) := Boxed.below bO hb (by omega)
  obtain ⟨cnt, hcnt⟩ : ∃ cnt, cnt = many t n L K 0 := ⟨_, rfl⟩
  refine wpIn_rangeFunc_ownG rfl (by omega) (gf := 181) (lb := #[.pointer (some ⟨c + 3, 0, none⟩), .pointer (some ⟨c + 5, 0, none⟩), .pointer (some ⟨c + 4, 0, none⟩)]) rfl trivial (enters_of Tryz.func181 (by kernel_rfl) rfl)
    (places_stops 8 c (c + 3) ad n cap K L hn t ht 0 0 rfl w1 (by omega) (by omega) hP) keeps3_t (keeps3_b (by omega) (by omega)) (Below.refl _ _) (fun _ => rfl)
    (fun pre W => ((W.cell? ⟨c, 0, none⟩ = some (.slice ad n cap) ∧ W.cell? ⟨c, 1, none⟩ = some (.int .i64 K) ∧ W.cell? ⟨c + 1, 0, none⟩ = some (.string t)) ∧ (∃ v, Boxed W (c + 2) 24 v ∧ W.ownsRow (c + 6) 3 1 v pre.length (ints (pre.map fun i => ((mis t L (pw t n L K 0 i) n : Nat) : Int))) ∧ True)) ∧ Below c w1 W)
    (fun _ _ _ => False)
    (OwnFrom.and (OwnFrom.and (Own.from (fun s A B row hs hg hr => ⟨cell_kept hs.1 hg hr, cell_kept hs.2.1 hg hr, cell_kept hs.2.2 hg hr⟩) _) (Own.from (holdsRow_own (c + 6) (c + 2) 24 3 1 (fun pre : List Nat => pre.length) (fun pre => ints (pre.map fun i => ((mis t L (pw t n L K 0 i) n : Nat) : Int))) (fun _ _ => True)) _)) (ownFrom_below (by omega) (by omega)))
    (fun _ _ _ _ _ hs _ _ => hs)
    ⟨⟨⟨p0, p1, p2⟩, _, bO1, World.ownsRow_nil _ _ _ _, trivial⟩, Below.refl _ _⟩
    (fun x => { tmps := #[lv ad n cap K, .string t, .pointer (some ⟨c, 0, none⟩), .pointer (some ⟨c + 1, 0, none⟩), .slice none 0 0, .pointer (some ⟨c + 2, 0, none⟩), .int .i64 (pw t n L K 0 x : Nat), .agg #[.slice ad n cap, .int .i64 K], .string t, .func (.func 181) #[] #[.pointer (some ⟨c + 3, 0, none⟩), .pointer (some ⟨c + 5, 0, none⟩), .pointer (some ⟨c + 4, 0, none⟩)], .int .i64 (pw t n L K 0 x : Nat), undef, undef, undef, undef, undef, undef, undef, undef, undef, undef, undef], defers := [] }) ?assign ?body ?done ?stop
  case assign =>
    intro l x W K hK
    gi_wp2
    exact hK
  case body =>
    rintro l pre x W ⟨⟨⟨e0, e1, e2⟩, v, hv, hrow, -⟩, hB⟩ hlt
    obtain ⟨ad1, cap1, rfl⟩ := own_slice hrow
    have hvc := hv.cell
    gi_wp2_with fail
    have hyn := pw_fits hlt x
    have hpl : pre.length ≤ 1000 := by have h1 : pre.length < many t n L K 0 := hlt; unfold many at h1; split at h1 <;> omega
    obtain ⟨y, hy⟩ : ∃ y, y = pw t n L K 0 x := ⟨_, rfl⟩
    rw [← hy] at hyn ⊢
    have HY := Lib.hid hy
    clear hy hlt
    have hRW : RowC W.drew ad n L W.drew.heap.size := (hR.below (hBw1.trans hB) (Nat.le_refl _)).mono (show c ≤ W.drew.heap.size by have := hB.size; simp; omega)
    have hsW := hv.lt
    have hmis := mis_le t L y n
    have hmix : Tryz.prog.follows .mixedOrders = true := by kernel_rfl
    refine region_round (fun w' => w'.cell? ⟨c, 0, none⟩ = some (.slice ad n cap) ∧ w'.cell? ⟨c, 1, none⟩ = some (.int .i64 K) ∧ w'.cell? ⟨c + 1, 0, none⟩ = some (.string t)) hmix (by kernel_rfl) (by rintro ⟨a, w, h⟩; exact h) ⟨e0, e1, e2⟩ ?_
    intro hS
    refine takeD 1 12 (.agg #[.slice ad n cap, .int .i64 K]) rfl rfl (by kernel_rfl) (by kernel_rfl) (by kernel_rfl) (fun _ _ _ h => h) (Or.inl ⟨by rfl, by intro w' hSw; obtain ⟨s0, s1, s2⟩ := hSw; go_simp⟩) hS ?_
    simp only [Act.put, List.setIfInBounds_toArray, List.set_cons_zero, List.set_cons_succ]
    refine takeD 2 13 (.string t) rfl rfl (by kernel_rfl) (by kernel_rfl) (by kernel_rfl) (fun _ _ _ h => h) (Or.inl ⟨by rfl, by intro w' hSw; obtain ⟨s0, s1, s2⟩ := hSw; go_simp⟩) hS ?_
    simp only [Act.put, List.setIfInBounds_toArray, List.set_cons_zero, List.set_cons_succ]
    refine takeD 3 14 (.int .i64 (y : Nat)) rfl rfl (by kernel_rfl) (by kernel_rfl) (by kernel_rfl) (fun _ _ _ h => h) (Or.inl ⟨by rfl, by intro w' hSw; obtain ⟨s0, s1, s2⟩ := hSw; go_simp⟩) hS ?_
    simp only [Act.put, List.setIfInBounds_toArray, List.set_cons_zero, List.set_cons_succ]
    refine takeD 4 15 (.pointer (some ⟨c, 0, none⟩)) rfl rfl (by kernel_rfl) (by kernel_rfl) (by kernel_rfl) (fun _ _ _ h => h) (Or.inl ⟨by rfl, by intro w' hSw; obtain ⟨s0, s1, s2⟩ := hSw; go_simp⟩) hS ?_
    simp only [Act.put, List.setIfInBounds_toArray, List.set_cons_zero, List.set_cons_succ]
    refine takeD 5 16 (.slice ad n cap) rfl rfl (by kernel_rfl) (by kernel_rfl) (by kernel_rfl) (fun _ _ _ h => h) (Or.inl ⟨by rfl, by intro w' hSw; obtain ⟨s0, s1, s2⟩ := hSw; go_simp⟩) hS ?_
    simp only [Act.put, List.setIfInBounds_toArray, List.set_cons_zero, List.set_cons_succ]
    refine takeD 6 17 (.int .i64 (n : Nat)) rfl rfl (by kernel_rfl) (by kernel_rfl) (by kernel_rfl) (fun _ _ _ h => h) (Or.inl ⟨by rfl, by intro w' hSw; obtain ⟨s0, s1, s2⟩ := hSw; go_simp⟩) hS ?_
    simp only [Act.put, List.setIfInBounds_toArray, List.set_cons_zero, List.set_cons_succ]
    have hrowd := hrow.drew
    have hvd : Boxed W.drew (c + 2) 24 (.slice ad1 pre.length cap1) := hv
    have h6 : c + 6 ≤ W.heap.size := by have := hB.size; omega
    refine wpAnyH_ready (rs := [0, 7]) (by kernel_rfl) (by simp) ?_
    refine AllReadyH.cons rfl (fun Kc hK => ?_) (AllReadyH.cons rfl (fun Kc hK => ?_) AllReadyH.nil)
    · go_simp
      refine hK.out _ _ hS (fun hH => ?_)
      try simp only [Act.put, List.setIfInBounds_toArray, List.set_cons_zero, List.set_cons_succ]
      clear hK Kc
      refine wpAnyH_ready (rs := [7]) (by kernel_rfl) (by simp) ?_
      refine AllReadyH.cons rfl (fun Kc hK => ?_) AllReadyH.nil
      go_simp
      go_at_call 139
      refine (misses_any ad n cap K L t (by omega) y hyn n _ hRW).mono ?_
      rintro e w2 ⟨⟨r, rfl, hr1, -⟩, hb2⟩
      obtain rfl : r = mis t L y n := hr1 (by omega)
      dsimp only
      have hv2 := hvd.kept (grown_of_below hb2 none) (by simp)
      have hvc2 := hv2.cell
      have hrow2 := own_below hrowd hb2
      have hz2 : W.drew.heap.size ≤ w2.heap.size := hb2.size
      have hz2' : W.heap.size ≤ w2.heap.size := hz2
      have hcl2 : c + 2 < w2.heap.size := by omega
      have hS2 : w2.cell? ⟨c, 0, none⟩ = some (.slice ad n cap) ∧ w2.cell? ⟨c, 1, none⟩ = some (.int .i64 K) ∧ w2.cell? ⟨c + 1, 0, none⟩ = some (.string t) := ⟨(hb2.cell (p := ⟨c, 0, none⟩) (show c < W.heap.size by omega)).trans e0, (hb2.cell (p := ⟨c, 1, none⟩) (show c < W.heap.size by omega)).trans e1, (hb2.cell (p := ⟨c + 1, 0, none⟩) (show c + 1 < W.heap.size by omega)).trans e2⟩
      refine hK.out _ _ hS2 (fun hH => ?_)
      try simp only [Act.put, List.setIfInBounds_toArray, List.set_cons_zero, List.set_cons_succ]
      clear hK Kc
      refine wpAnyH_ready (rs := [8]) (by kernel_rfl) (by simp) ?_
      refine AllReadyH.cons rfl (fun Kc hK => ?_) AllReadyH.nil
      go_simp
      have hS3 : (w2.alloc (.cells #[.int .i64 (mis t L y n : Nat)] 3)).cell? ⟨c, 0, none⟩ = some (.slice ad n cap) ∧ (w2.alloc (.cells #[.int .i64 (mis t L y n : Nat)] 3)).cell? ⟨c, 1, none⟩ = some (.int .i64 K) ∧ (w2.alloc (.cells #[.int .i64 (mis t L y n : Nat)] 3)).cell? ⟨c + 1, 0, none⟩ = some (.string t) := by have l0 : c < w2.heap.size := (by omega); have l1 : c + 1 < w2.heap.size := (by omega); obtain ⟨s0, s1, s2⟩ := hS2; refine ⟨?_, ?_, ?_⟩ <;> simp [go_sem, l0, l1, s0, s1, s2]
      refine hK.out _ _ hS3 (fun hH => ?_)
      try simp only [Act.put, List.setIfInBounds_toArray, List.set_cons_zero, List.set_cons_succ]
      clear hK Kc
      refine wpAnyH_ready (rs := [9]) (by kernel_rfl) (by simp) ?_
      refine AllReadyH.cons (o := { dst := some 20, op := .call { callee := .builtin .append, args := #[.tmp 11, .tmp 19], argTypes := #[24, 24] }, type := 24, pos := "naive.go:54", after := #[{ on := 0, ground := .data }, { on := 8, ground := .data }, { on := 7, ground := .chain }], guard := none }) rfl (fun Kc hK => ?_) AllReadyH.nil
      refine step_app2 (w0 := w2) elem24 (by with_reducible rfl) (.tmp 11) (.tmp 19) (by with_reducible rfl) (v := .slice ad1 pre.length cap1) (n := pre.length) (by rfl) hrow2 [.int .i64 (mis t L y n : Nat)] (by rfl) (by rfl) (by simp [Value.oneCell']) (by unfold maxLen; omega) (by omega) (by omega) ?_
      intro v3 w3 hown3 hgrow3
      obtain ⟨g3, cap3, rfl⟩ := ownsRow_succ hown3
      obtain ⟨hv3, hv4, hr4, hk4, hb4, hc4⟩ := Boxed.appended2 hv2 (m := c) (by decide) hrow2 (by omega) (by omega) (by omega) hown3 hgrow3
      have hvc3 := hv3.cell
      have hvf3 := hv3.frozen
      have hS5 : (w3.setCell ⟨c + 2, 0, none⟩ (.slice (some ⟨g3, 0, none⟩) (pre.length + 1) cap3)).cell? ⟨c, 0, none⟩ = some (.slice ad n cap) ∧ (w3.setCell ⟨c + 2, 0, none⟩ (.slice (some ⟨g3, 0, none⟩) (pre.length + 1) cap3)).cell? ⟨c, 1, none⟩ = some (.int .i64 K) ∧ (w3.setCell ⟨c + 2, 0, none⟩ (.slice (some ⟨g3, 0, none⟩) (pre.length + 1) cap3)).cell? ⟨c + 1, 0, none⟩ = some (.string t) := ⟨(hc4 c 0 (by omega) (by omega)).trans hS2.1, (hc4 c 1 (by omega) (by omega)).trans hS2.2.1, (hc4 (c + 1) 0 (by omega) (by omega)).trans hS2.2.2⟩
      have hS4 : w3.cell? ⟨c, 0, none⟩ = some (.slice ad n cap) ∧ w3.cell? ⟨c, 1, none⟩ = some (.int .i64 K) ∧ w3.cell? ⟨c + 1, 0, none⟩ = some (.string t) := ⟨(World.cell?_setCell_far w3 ⟨c + 2, 0, none⟩ ⟨c, 0, none⟩ (.slice (some ⟨g3, 0, none⟩) (pre.length + 1) cap3) (by simp)).symm.trans hS5.1, (World.cell?_setCell_far w3 ⟨c + 2, 0, none⟩ ⟨c, 1, none⟩ (.slice (some ⟨g3, 0, none⟩) (pre.length + 1) cap3) (by simp)).symm.trans hS5.2.1, (World.cell?_setCell_far w3 ⟨c + 2, 0, none⟩ ⟨c + 1, 0, none⟩ (.slice (some ⟨g3, 0, none⟩) (pre.length + 1) cap3) (by simp)).symm.trans hS5.2.2⟩
      refine hK.out _ _ hS4 (fun hH => ?_)
      try simp only [Act.put, List.setIfInBounds_toArray, List.set_cons_zero, List.set_cons_succ]
      clear hK Kc
      refine wpAnyH_ready (rs := [10]) (by kernel_rfl) (by simp) ?_
      refine AllReadyH.cons rfl (fun Kc hK => ?_) AllReadyH.nil
      go_simp
      refine hK.out _ _ hS5 (fun hH => ?_)
      try simp only [Act.put, List.setIfInBounds_toArray, List.set_cons_zero, List.set_cons_succ]
      clear hK Kc
      refine wpAnyH_done (by kernel_rfl) ?_ _
      gi_wp2
      refine ⟨KeepsOthers.from ((KeepsOthers.drew W).trans ((KeepsOthers.of_grownBy (grown_of_below hb2 none) (by simp)).trans hk4)) _, ⟨((Below.refl c W).drew.trans (hb2.mono (show c ≤ W.heap.size by omega))).trans hb4, fun b o h1 h2 => (hc4 b o (by omega) (by omega)).trans (hb2.cell (p := ⟨b, o, none⟩) (show b < W.heap.size by omega))⟩, ⟨hS5, _, hv4, ?_⟩, (hB.trans ((Below.refl c W).drew.trans (hb2.mono (show c ≤ W.heap.size by omega)))).trans hb4⟩
      rw [show (pre ++ [x]).length = pre.length + 1 by simp, List.map_append, List.map_cons, List.map_nil, ints_snoc, ← HY.out]
      exact hr4
    · go_simp
      go_at_call 139
      refine (misses_any ad n cap K L t (by omega) y hyn n _ hRW).mono ?_
      rintro e w2 ⟨⟨r, rfl, hr1, -⟩, hb2⟩
      obtain rfl : r = mis t L y n := hr1 (by omega)
      dsimp only
      have hv2 := hvd.kept (grown_of_below hb2 none) (by simp)
      have hvc2 := hv2.cell
      have hrow2 := own_below hrowd hb2
      have hz2 : W.drew.heap.size ≤ w2.heap.size := hb2.size
      have hz2' : W.heap.size ≤ w2.heap.size := hz2
      have hcl2 : c + 2 < w2.heap.size := by omega
      have hS2 : w2.cell? ⟨c, 0, none⟩ = some (.slice ad n cap) ∧ w2.cell? ⟨c, 1, none⟩ = some (.int .i64 K) ∧ w2.cell? ⟨c + 1, 0, none⟩ = some (.string t) := ⟨(hb2.cell (p := ⟨c, 0, none⟩) (show c < W.heap.size by omega)).trans e0, (hb2.cell (p := ⟨c, 1, none⟩) (show c < W.heap.size by omega)).trans e1, (hb2.cell (p := ⟨c + 1, 0, none⟩) (show c + 1 < W.heap.size by omega)).trans e2⟩
      refine hK.out _ _ hS2 (fun hH => ?_)
      try simp only [Act.put, List.setIfInBounds_toArray, List.set_cons_zero, List.set_cons_succ]
      clear hK Kc
      refine wpAnyH_ready (rs := [0, 8]) (by kernel_rfl) (by simp) ?_
      refine AllReadyH.cons rfl (fun Kc hK => ?_) (AllReadyH.cons rfl (fun Kc hK => ?_) AllReadyH.nil)
      · go_simp
        refine hK.out _ _ hS2 (fun hH => ?_)
        try simp only [Act.put, List.setIfInBounds_toArray, List.set_cons_zero, List.set_cons_succ]
        clear hK Kc
        refine wpAnyH_ready (rs := [8]) (by kernel_rfl) (by simp) ?_
        refine AllReadyH.cons rfl (fun Kc hK => ?_) AllReadyH.nil
        go_simp
        have hS3 : (w2.alloc (.cells #[.int .i64 (mis t L y n : Nat)] 3)).cell? ⟨c, 0, none⟩ = some (.slice ad n cap) ∧ (w2.alloc (.cells #[.int .i64 (mis t L y n : Nat)] 3)).cell? ⟨c, 1, none⟩ = some (.int .i64 K) ∧ (w2.alloc (.cells #[.int .i64 (mis t L y n : Nat)] 3)).cell? ⟨c + 1, 0, none⟩ = some (.string t) := by have l0 : c < w2.heap.size := (by omega); have l1 : c + 1 < w2.heap.size := (by omega); obtain ⟨s0, s1, s2⟩ := hS2; refine ⟨?_, ?_, ?_⟩ <;> simp [go_sem, l0, l1, s0, s1, s2]
        refine hK.out _ _ hS3 (fun hH => ?_)
        try simp only [Act.put, List.setIfInBounds_toArray, List.set_cons_zero, List.set_cons_succ]
        clear hK Kc
        refine wpAnyH_ready (rs := [9]) (by kernel_rfl) (by simp) ?_
        refine AllReadyH.cons (o := { dst := some 20, op := .call { callee := .builtin .append, args := #[.tmp 11, .tmp 19], argTypes := #[24, 24] }, type := 24, pos := "naive.go:54", after := #[{ on := 0, ground := .data }, { on := 8, ground := .data }, { on := 7, ground := .chain }], guard := none }) rfl (fun Kc hK => ?_) AllReadyH.nil
        refine step_app2 (w0 := w2) elem24 (by with_reducible rfl) (.tmp 11) (.tmp 19) (by with_reducible rfl) (v := .slice ad1 pre.length cap1) (n := pre.length) (by rfl) hrow2 [.int .i64 (mis t L y n : Nat)] (by rfl) (by rfl) (by simp [Value.oneCell']) (by unfold maxLen; omega) (by omega) (by omega) ?_
        intro v3 w3 hown3 hgrow3
        obtain ⟨g3, cap3, rfl⟩ := ownsRow_succ hown3
        obtain ⟨hv3, hv4, hr4, hk4, hb4, hc4⟩ := Boxed.appended2 hv2 (m := c) (by decide) hrow2 (by omega) (by omega) (by omega) hown3 hgrow3
        have hvc3 := hv3.cell
        have hvf3 := hv3.frozen
        have hS5 : (w3.setCell ⟨c + 2, 0, none⟩ (.slice (some ⟨g3, 0, none⟩) (pre.length + 1) cap3)).cell? ⟨c, 0, none⟩ = some (.slice ad n cap) ∧ (w3.setCell ⟨c + 2, 0, none⟩ (.slice (some ⟨g3, 0, none⟩) (pre.length + 1) cap3)).cell? ⟨c, 1, none⟩ = some (.int .i64 K) ∧ (w3.setCell ⟨c + 2, 0, none⟩ (.slice (some ⟨g3, 0, none⟩) (pre.length + 1) cap3)).cell? ⟨c + 1, 0, none⟩ = some (.string t) := ⟨(hc4 c 0 (by omega) (by omega)).trans hS2.1, (hc4 c 1 (by omega) (by omega)).trans hS2.2.1, (hc4 (c + 1) 0 (by omega) (by omega)).trans hS2.2.2⟩
        have hS4 : w3.cell? ⟨c, 0, none⟩ = some (.slice ad n cap) ∧ w3.cell? ⟨c, 1, none⟩ = some (.int .i64 K) ∧ w3.cell? ⟨c + 1, 0, none⟩ = some (.string t) := ⟨(World.cell?_setCell_far w3 ⟨c + 2, 0, none⟩ ⟨c, 0, none⟩ (.slice (some ⟨g3, 0, none⟩) (pre.length + 1) cap3) (by simp)).symm.trans hS5.1, (World.cell?_setCell_far w3 ⟨c + 2, 0, none⟩ ⟨c, 1, none⟩ (.slice (some ⟨g3, 0, none⟩) (pre.length + 1) cap3) (by simp)).symm.trans hS5.2.1, (World.cell?_setCell_far w3 ⟨c + 2, 0, none⟩ ⟨c + 1, 0, none⟩ (.slice (some ⟨g3, 0, none⟩) (pre.length + 1) cap3) (by simp)).symm.trans hS5.2.2⟩
        refine hK.out _ _ hS4 (fun hH => ?_)
        try simp only [Act.put, List.setIfInBounds_toArray, List.set_cons_zero, List.set_cons_succ]
        clear hK Kc
        refine wpAnyH_ready (rs := [10]) (by kernel_rfl) (by simp) ?_
        refine AllReadyH.cons rfl (fun Kc hK => ?_) AllReadyH.nil
        go_simp
        refine hK.out _ _ hS5 (fun hH => ?_)
        try simp only [Act.put, List.setIfInBounds_toArray, List.set_cons_zero, List.set_cons_succ]
        clear hK Kc
        refine wpAnyH_done (by kernel_rfl) ?_ _
        gi_wp2
        refine ⟨KeepsOthers.from ((KeepsOthers.drew W).trans ((KeepsOthers.of_grownBy (grown_of_below hb2 none) (by simp)).trans hk4)) _, ⟨((Below.refl c W).drew.trans (hb2.mono (show c ≤ W.heap.size by omega))).trans hb4, fun b o h1 h2 => (hc4 b o (by omega) (by omega)).trans (hb2.cell (p := ⟨b, o, none⟩) (show b < W.heap.size by omega))⟩, ⟨hS5, _, hv4, ?_⟩, (hB.trans ((Below.refl c W).drew.trans (hb2.mono (show c ≤ W.heap.size by omega)))).trans hb4⟩
        rw [show (pre ++ [x]).length = pre.length + 1 by simp, List.map_append, List.map_cons, List.map_nil, ints_snoc, ← HY.out]
        exact hr4
      · go_simp
        have hS3 : (w2.alloc (.cells #[.int .i64 (mis t L y n : Nat)] 3)).cell? ⟨c, 0, none⟩ = some (.slice ad n cap) ∧ (w2.alloc (.cells #[.int .i64 (mis t L y n : Nat)] 3)).cell? ⟨c, 1, none⟩ = some (.int .i64 K) ∧ (w2.alloc (.cells #[.int .i64 (mis t L y n : Nat)] 3)).cell? ⟨c + 1, 0, none⟩ = some (.string t) := by have l0 : c < w2.heap.size := (by omega); have l1 : c + 1 < w2.heap.size := (by omega); obtain ⟨s0, s1, s2⟩ := hS2; refine ⟨?_, ?_, ?_⟩ <;> simp [go_sem, l0, l1, s0, s1, s2]
        refine hK.out _ _ hS3 (fun hH => ?_)
        try simp only [Act.put, List.setIfInBounds_toArray, List.set_cons_zero, List.set_cons_succ]
        clear hK Kc
        refine wpAnyH_ready (rs := [0]) (by kernel_rfl) (by simp) ?_
        refine AllReadyH.cons rfl (fun Kc hK => ?_) AllReadyH.nil
        go_simp
        refine hK.out _ _ hS3 (fun hH => ?_)
        try simp only [Act.put, List.setIfInBounds_toArray, List.set_cons_zero, List.set_cons_succ]
        clear hK Kc
        refine wpAnyH_ready (rs := [9]) (by kernel_rfl) (by simp) ?_
        refine AllReadyH.cons (o := { dst := some 20, op := .call { callee := .builtin .append, args := #[.tmp 11, .tmp 19], argTypes := #[24, 24] }, type := 24, pos := "naive.go:54", after := #[{ on := 0, ground := .data }, { on := 8, ground := .data }, { on := 7, ground := .chain }], guard := none }) rfl (fun Kc hK => ?_) AllReadyH.nil
        refine step_app2 (w0 := w2) elem24 (by with_reducible rfl) (.tmp 11) (.tmp 19) (by with_reducible rfl) (v := .slice ad1 pre.length cap1) (n := pre.length) (by rfl) hrow2 [.int .i64 (mis t L y n : Nat)] (by rfl) (by rfl) (by simp [Value.oneCell']) (by unfold maxLen; omega) (by omega) (by omega) ?_
        intro v3 w3 hown3 hgrow3
        obtain ⟨g3, cap3, rfl⟩ := ownsRow_succ hown3
        obtain ⟨hv3, hv4, hr4, hk4, hb4, hc4⟩ := Boxed.appended2 hv2 (m := c) (by decide) hrow2 (by omega) (by omega) (by omega) hown3 hgrow3
        have hvc3 := hv3.cell
        have hvf3 := hv3.frozen
        have hS5 : (w3.setCell ⟨c + 2, 0, none⟩ (.slice (some ⟨g3, 0, none⟩) (pre.length + 1) cap3)).cell? ⟨c, 0, none⟩ = some (.slice ad n cap) ∧ (w3.setCell ⟨c + 2, 0, none⟩ (.slice (some ⟨g3, 0, none⟩) (pre.length + 1) cap3)).cell? ⟨c, 1, none⟩ = some (.int .i64 K) ∧ (w3.setCell ⟨c + 2, 0, none⟩ (.slice (some ⟨g3, 0, none⟩) (pre.length + 1) cap3)).cell? ⟨c + 1, 0, none⟩ = some (.string t) := ⟨(hc4 c 0 (by omega) (by omega)).trans hS2.1, (hc4 c 1 (by omega) (by omega)).trans hS2.2.1, (hc4 (c + 1) 0 (by omega) (by omega)).trans hS2.2.2⟩
        have hS4 : w3.cell? ⟨c, 0, none⟩ = some (.slice ad n cap) ∧ w3.cell? ⟨c, 1, none⟩ = some (.int .i64 K) ∧ w3.cell? ⟨c + 1, 0, none⟩ = some (.string t) := ⟨(World.cell?_setCell_far w3 ⟨c + 2, 0, none⟩ ⟨c, 0, none⟩ (.slice (some ⟨g3, 0, none⟩) (pre.length + 1) cap3) (by simp)).symm.trans hS5.1, (World.cell?_setCell_far w3 ⟨c + 2, 0, none⟩ ⟨c, 1, none⟩ (.slice (some ⟨g3, 0, none⟩) (pre.length + 1) cap3) (by simp)).symm.trans hS5.2.1, (World.cell?_setCell_far w3 ⟨c + 2, 0, none⟩ ⟨c + 1, 0, none⟩ (.slice (some ⟨g3, 0, none⟩) (pre.length + 1) cap3) (by simp)).symm.trans hS5.2.2⟩
        refine hK.out _ _ hS4 (fun hH => ?_)
        try simp only [Act.put, List.setIfInBounds_toArray, List.set_cons_zero, List.set_cons_succ]
        clear hK Kc
        refine wpAnyH_ready (rs := [10]) (by kernel_rfl) (by simp) ?_
        refine AllReadyH.cons rfl (fun Kc hK => ?_) AllReadyH.nil
        go_simp
        refine hK.out _ _ hS5 (fun hH => ?_)
        try simp only [Act.put, List.setIfInBounds_toArray, List.set_cons_zero, List.set_cons_succ]
        clear hK Kc
        refine wpAnyH_done (by kernel_rfl) ?_ _
        gi_wp2
        refine ⟨KeepsOthers.from ((KeepsOthers.drew W).trans ((KeepsOthers.of_grownBy (grown_of_below hb2 none) (by simp)).trans hk4)) _, ⟨((Below.refl c W).drew.trans (hb2.mono (show c ≤ W.heap.size by omega))).trans hb4, fun b o h1 h2 => (hc4 b o (by omega) (by omega)).trans (hb2.cell (p := ⟨b, o, none⟩) (show b < W.heap.size by omega))⟩, ⟨hS5, _, hv4, ?_⟩, (hB.trans ((Below.refl c W).drew.trans (hb2.mono (show c ≤ W.heap.size by omega)))).trans hb4⟩
        rw [show (pre ++ [x]).length = pre.length + 1 by simp, List.map_append, List.map_cons, List.map_nil, ints_snoc, ← HY.out]
        exact hr4
  case done =>
    rintro D ys W hD rfl ⟨⟨⟨e0, e1, e2⟩, v, hv, hrow, -⟩, hB⟩ hK
    obtain ⟨ad1, cap1, rfl⟩ := own_slice hrow
    have hvc := hv.cell
    gi_wp2
    refine ⟨by simp, .inl ⟨_, _, rfl, run_takeDeferred hK, ?_⟩⟩
    have hcw' : w.heap.size ≤ c := by have := HCW.out; omega
    have hbe := belowK_b (w := w) (Nat.le_refl _) W D _ (.deferred none) (by omega) hK rfl rfl
    have hB' : Below w.heap.size w W := (hBw1.trans hB).mono hcw'
    have hrow' := own_le (ownsRow_putObj hrow (.deferred none) hK rfl) (show w.heap.size ≤ c + 6 by omega)
    rw [plc_length, pw_map t n L K 0 _ (Nat.le_refl _) (fun q => ((mis t L q n : Nat) : Int))] at hrow'
    exact ⟨_, results_tmp rfl _ _ _, _, by rw [plc_length]; rfl, hrow', hB'.trans hbe⟩
  case stop =>
    rintro D cc pre W _ _ h _
    exact h.elim
end Go.Proofs.YtjfkmoinldlmaaaGreat

/- Walk of naive.Find: a range over a function. -/
namespace Go.Proofs.YtjfkmoinldlmaaaGreat
open Go.RowKit Go.Shelf
attribute [local go_sem] Oper.semAt_some

set_option maxRecDepth 100000 in
theorem info3 : (Tryz.prog.info? 3).map (fun i => (i.zero, i.size, i.bytes)) = some (some (.int .i64 0), 1, 8) := by kernel_rfl
/-- Those of some places at which few are missed. -/
def fnd (t : ByteArray) (n : Nat) (L : Nat → Nat → Bool) (K : Int) (l : List Nat) : List Int := (l.filter fun q => decide ((mis t L q n : Int) ≤ K)).map fun q => ((q : Nat) : Int)
theorem fnd_snoc (t : ByteArray) (n : Nat) (L : Nat → Nat → Bool) (K : Int) (l : List Nat) (q : Nat) : fnd t n L K (l ++ [q]) = if (mis t L q n : Int) ≤ K then fnd t n L K l ++ [(q : Int)] else fnd t n L K l := by
  unfold fnd
  rw [List.filter_append]
  by_cases h : (mis t L q n : Int) ≤ K
  · rw [if_pos h]; simp [h]
  · rw [if_neg h]; simp [h]
theorem fnd_length (t : ByteArray) (n : Nat) (L : Nat → Nat → Bool) (K : Int) (l : List Nat) : (fnd t n L K l).length ≤ l.length := by
  unfold fnd
  rw [List.length_map]
  exact List.length_filter_le _ _

set_option maxRecDepth 100000 in
set_option maxHeartbeats 4000000 in
theorem find_any (ad : Option Addr) (n cap : Nat) (K : Int) (L : Nat → Nat → Bool) (hn : (n : Int) ≤ 1000) (t : ByteArray) (ht : t.size ≤ 1000) (w : World) (hR : RowC w ad n L w.heap.size) :
    Calls Tryz.prog 79 #[lv ad n cap K, .string t] w fun e w' => ∃ v, e = .returned v ∧ w'.ownsRow w.heap.size 3 1 v (fnd t n L K (plc 0 (many t n L K 0))).length (ints (fnd t n L K (plc 0 (many t n L K 0)))) ∧ Below w.heap.size w w' := by
  refine (callsIn_wide (n := 9)).1 ?_
  refine callsIn_of_wp_marks Tryz.func79 rfl trivial ?_ rfl
  simp only [Tryz.ntmps79, List.size_toArray, List.length_cons, List.length_nil, Nat.reduceAdd, Nat.reduceSub, Array.replicate_succ, Array.replicate_zero, List.push_toArray, List.append_toArray, List.nil_append, List.cons_append]
  have hL0 := HoldsL.new w ad n cap K
  have bT := Boxed.new (w.alloc (.cells #[.slice ad n cap, .int .i64 K] 52)) 9 (.string t)
  have bO := Boxed.new ((w.alloc (.cells #[.slice ad n cap, .int .i64 K] 52)).alloc (.cells #[.string t] 9)) 24 (.slice none 0 0)
  have hB0 : Below w.heap.size w (((w.alloc (.cells #[.slice ad n cap, .int .i64 K] 52)).alloc (.cells #[.string t] 9)).alloc (.cells #[.slice none 0 0] 24)) := (((Below.refl _ w).alloc (Nat.le_refl _) _).alloc (by simp) _).alloc (by simp; omega) _
  gi_wp2_with (refine ⟨trivial, ?_⟩; gi_at_call 138; refine (callsIn_wide.2 (placesF_any ad n cap K t 0 _)).mono ?_; rintro e w1 ⟨rfl, hl, htx, hst, hsz, hb⟩)
  simp only [World.size_alloc, Nat.add_assoc, Nat.reduceAdd] at hl htx hst hsz hb bT bO ⊢
  obtain ⟨c, hc⟩ : ∃ c, c = w.heap.size := ⟨_, rfl⟩
  obtain ⟨W3, hW3⟩ : ∃ W3 : World, (((w.alloc (.cells #[.slice ad n cap, .int .i64 K] 52)).alloc (.cells #[.string t] 9)).alloc (.cells #[.slice none 0 0] 24)) = W3 := ⟨_, rfl⟩
  have q0 : W3.cell? ⟨c, 0, none⟩ = some (.slice ad n cap) := by subst hW3; subst hc; simp [go_sem]
  have q1 : W3.cell? ⟨c, 1, none⟩ = some (.int .i64 K) := by subst hW3; subst hc; simp [go_sem]
  have q2 : W3.cell? ⟨c + 1, 0, none⟩ = some (.string t) := by subst hW3; subst hc; simp [go_sem]
  have hs3 : W3.heap.size = c + 3 := by subst hW3; subst hc; simp
  rw [hW3] at hb bO hB0
  clear hW3 bT hL0
  rw [← hc] at hl htx hst hsz hb bO hB0 hR ⊢
  have hcw : c ≤ w.heap.size := by omega
  have HCW := Lib.hid hc
  clear hc
  have hR3 := hR.below hB0 (Nat.le_refl _)
  have hBw1 : Below c w w1 := hB0.trans (hb.mono (by omega))
  have hP : PlArgs w1 c (c + 3) ad n cap K L t 0 := ⟨⟨hl.1, hl.2.1⟩, htx, hst, hR3.below hb (by omega)⟩
  have p0 := (hb.cell (p := ⟨c, 0, none⟩) (by show c < c + 3; omega)).trans q0
  have p1 := (hb.cell (p := ⟨c, 1, none⟩) (by show c < c + 3; omega)).trans q1
  have p2 := (hb.cell (p := ⟨c + 1, 0, none⟩) (by show c + 1 < c + 3; omega)).trans q2
  have bO1 : Boxed w1 (c + 2) 24 (.slice none 0 0) := Boxed.below bO hb (by omega)
  obtain ⟨cnt, hcnt⟩ : ∃ cnt, cnt = many t n L K 0 := ⟨_, rfl⟩
  refine wpIn_rangeFunc_ownG rfl (by omega) (gf := 181) (lb := #[.pointer (some ⟨c + 3, 0, none⟩), .pointer (some ⟨c + 5, 0, none⟩), .pointer (some ⟨c + 4, 0, none⟩)]) rfl trivial (enters_of Tryz.func181 (by kernel_rfl) rfl)
    (places_stops 8 c (c + 3) ad n cap K L hn t ht 0 0 rfl w1 (by omega) (by omega) hP) keeps3_t (keeps3_b (by omega) (by omega)) (Below.refl _ _) (fun _ => rfl)
    (fun pre W => ((W.cell? ⟨c, 0, none⟩ = some (.slice ad n cap) ∧ W.cell? ⟨c, 1, none⟩ = some (.int .i64 K) ∧ W.cell? ⟨c + 1, 0, none⟩ = some (.string t)) ∧ (∃ v, Boxed W (c + 2) 24 v ∧ W.ownsRow (c + 6) 3 1 v (fnd t n L K (pre.map fun q => pw t n L K 0 q)).length (ints (fnd t n L K (pre.map fun q => pw t n L K 0 q))) ∧ True)) ∧ Below c w1 W)
    (fun _ _ _ => False)
    (OwnFrom.and (OwnFrom.and (Own.from (fun s A B row hs hg hr => ⟨cell_kept hs.1 hg hr, cell_kept hs.2.1 hg hr, cell_kept hs.2.2 hg hr⟩) _) (Own.from (holdsRow_own (c + 6) (c + 2) 24 3 1 (fun pre : List Nat => (fnd t n L K (pre.map fun q => pw t n L K 0 q)).length) (fun pre => ints (fnd t n L K (pre.map fun q => pw t n L K 0 q))) (fun _ _ => True)) _)) (ownFrom_below (by omega) (by omega)))
    (fun _ _ _ _ _ hs _ _ => hs)
    ⟨⟨⟨p0, p1, p2⟩, _, bO1, World.ownsRow_nil _ _ _ _, trivial⟩, Below.refl _ _⟩
    (fun x => { tmps := #[lv ad n cap K, .string t, .pointer (some ⟨c, 0, none⟩), .pointer (some ⟨c + 1, 0, none⟩), .slice none 0 0, .pointer (some ⟨c + 2, 0, none⟩), .int .i64 (pw t n L K 0 x : Nat), .agg #[.slice ad n cap, .int .i64 K], .string t, .func (.func 181) #[] #[.pointer (some ⟨c + 3, 0, none⟩), .pointer (some ⟨c + 5, 0, none⟩), .pointer (some ⟨c + 4, 0, none⟩)], .int .i64 (pw t n L K 0 x : Nat), undef, undef, undef, undef, undef, undef, undef, undef, undef, undef, undef, undef, undef, undef], defers := [] }) ?assign ?body ?done ?stop
  case assign =>
    intro l x W K hK
    gi_wp2
    exact hK
  case body =>
    rintro l pre x W ⟨⟨⟨e0, e1, e2⟩, v, hv, hrow, -⟩, hB⟩ hlt
    obtain ⟨ad1, cap1, rfl⟩ := own_slice hrow
    have hvc := hv.cell
    obtain ⟨i0, hi, hy0, hy1, hy2⟩ := info_parts info3
    have hyn := pw_fits hlt x
    have hpl : pre.length ≤ 1000 := by have h1 : pre.length < many t n L K 0 := hlt; unfold many at h1; split at h1 <;> omega
    have hfl := fnd_length t n L K (pre.map fun q => pw t n L K 0 q)
    rw [List.length_map] at hfl
    have hsn := fnd_snoc t n L K (pre.map fun q => pw t n L K 0 q) (pw t n L K 0 x)
    rw [show (pre.map fun q => pw t n L K 0 q) ++ [pw t n L K 0 x] = (pre ++ [x]).map fun q => pw t n L K 0 q by rw [List.map_append]; rfl] at hsn
    have HSN := Lib.hid hsn
    clear hsn
    obtain ⟨y, hy⟩ : ∃ y, y = pw t n L K 0 x := ⟨_, rfl⟩
    rw [← hy] at hyn HSN ⊢
    clear hy hlt
    obtain ⟨fl, hfe⟩ : ∃ fl, fl = fnd t n L K (pre.map fun q => pw t n L K 0 q) := ⟨_, rfl⟩
    rw [← hfe] at hrow hfl hvc hv HSN
    clear hfe
    have hRW : RowC W.drew ad n L W.drew.heap.size := (hR.below (hBw1.trans hB) (Nat.le_refl _)).mono (show c ≤ W.drew.heap.size by have := hB.size; simp; omega)
    have h6 : c + 6 ≤ W.heap.size := by have := hB.size; omega
    have hmix : Tryz.prog.follows .mixedOrders = true := by kernel_rfl
    gi_wp2_with fail
    refine region_round (fun w' => w'.cell? ⟨c, 0, none⟩ = some (.slice ad n cap) ∧ w'.cell? ⟨c, 1, none⟩ = some (.int .i64 K) ∧ w'.cell? ⟨c + 1, 0, none⟩ = some (.string t)) hmix (by kernel_rfl) (by rintro ⟨a, w, h⟩; exact h) ⟨e0, e1, e2⟩ ?_
    intro hS
    refine takeD 0 11 (.agg #[.slice ad n cap, .int .i64 K]) rfl rfl (by kernel_rfl) (by kernel_rfl) (by kernel_rfl) (fun _ _ _ h => h) (Or.inl ⟨by rfl, by intro w' hSw; obtain ⟨s0, s1, s2⟩ := hSw; go_simp⟩) hS ?_
    try simp only [Act.put, List.setIfInBounds_toArray, List.set_cons_zero, List.set_cons_succ]
    refine takeD 1 12 (.string t) rfl rfl (by kernel_rfl) (by kernel_rfl) (by kernel_rfl) (fun _ _ _ h => h) (Or.inl ⟨by rfl, by intro w' hSw; obtain ⟨s0, s1, s2⟩ := hSw; go_simp⟩) hS ?_
    try simp only [Act.put, List.setIfInBounds_toArray, List.set_cons_zero, List.set_cons_succ]
    refine takeD 2 13 (.int .i64 (y : Nat)) rfl rfl (by kernel_rfl) (by kernel_rfl) (by kernel_rfl) (fun _ _ _ h => h) (Or.inl ⟨by rfl, by intro w' hSw; obtain ⟨s0, s1, s2⟩ := hSw; go_simp⟩) hS ?_
    try simp only [Act.put, List.setIfInBounds_toArray, List.set_cons_zero, List.set_cons_succ]
    refine takeD 3 14 (.pointer (some ⟨c, 1, none⟩)) rfl rfl (by kernel_rfl) (by kernel_rfl) (by kernel_rfl) (fun _ _ _ h => h) (Or.inl ⟨by rfl, by intro w' hSw; obtain ⟨s0, s1, s2⟩ := hSw; go_simp⟩) hS ?_
    try simp only [Act.put, List.setIfInBounds_toArray, List.set_cons_zero, List.set_cons_succ]
    refine takeD 4 15 (.int .i64 K) rfl rfl (by kernel_rfl) (by kernel_rfl) (by kernel_rfl) (fun _ _ _ h => h) (Or.inl ⟨by rfl, by intro w' hSw; obtain ⟨s0, s1, s2⟩ := hSw; go_simp⟩) hS ?_
    try simp only [Act.put, List.setIfInBounds_toArray, List.set_cons_zero, List.set_cons_succ]
    refine takeD 6 17 (.pointer (some ⟨c, 1, none⟩)) rfl rfl (by kernel_rfl) (by kernel_rfl) (by kernel_rfl) (fun _ _ _ h => h) (Or.inl ⟨by rfl, by intro w' hSw; obtain ⟨s0, s1, s2⟩ := hSw; go_simp⟩) hS ?_
    try simp only [Act.put, List.setIfInBounds_toArray, List.set_cons_zero, List.set_cons_succ]
    refine takeD 7 18 (.int .i64 K) rfl rfl (by kernel_rfl) (by kernel_rfl) (by kernel_rfl) (fun _ _ _ h => h) (Or.inl ⟨by rfl, by intro w' hSw; obtain ⟨s0, s1, s2⟩ := hSw; go_simp⟩) hS ?_
    try simp only [Act.put, List.setIfInBounds_toArray, List.set_cons_zero, List.set_cons_succ]
    have hrowd := hrow.drew
    have hvd : Boxed W.drew (c + 2) 24 (.slice ad1 fl.length cap1) := hv
    refine wpAnyH_ready (rs := [5]) (by kernel_rfl) (by simp) ?_
    refine AllReadyH.cons rfl (fun Kc hK => ?_) AllReadyH.nil
    go_simp
    go_at_call 139
    refine (misses_any ad n cap K L t (by omega) y hyn K _ hRW).mono ?_
    rintro e w2 ⟨⟨r, rfl, hr1, hr2⟩, hb2⟩
    dsimp only
    have hv2 := hvd.kept (grown_of_below hb2 none) (by simp)
    have hrow2 := own_below hrowd hb2
    have hz2 : W.drew.heap.size ≤ w2.heap.size := hb2.size
    have hz2' : W.heap.size ≤ w2.heap.size := hz2
    have hcl2 : c + 2 < w2.heap.size := by omega
    have hS2 : w2.cell? ⟨c, 0, none⟩ = some (.slice ad n cap) ∧ w2.cell? ⟨c, 1, none⟩ = some (.int .i64 K) ∧ w2.cell? ⟨c + 1, 0, none⟩ = some (.string t) := ⟨(hb2.cell (p := ⟨c, 0, none⟩) (show c < W.heap.size by omega)).trans e0, (hb2.cell (p := ⟨c, 1, none⟩) (show c < W.heap.size by omega)).trans e1, (hb2.cell (p := ⟨c + 1, 0, none⟩) (show c + 1 < W.heap.size by omega)).trans e2⟩
    refine hK.out _ _ hS2 (fun hH => ?_)
    try simp only [Act.put, List.setIfInBounds_toArray, List.set_cons_zero, List.set_cons_succ]
    clear hK Kc
    have hko : KeepsOthers W w2 := (KeepsOthers.drew W).trans (KeepsOthers.of_grownBy (grown_of_below hb2 none) (by simp))
    have hbW : Below c W w2 := (Below.refl c W).drew.trans (hb2.mono (show c ≤ W.heap.size by omega))
    have hk3 : ∀ b o, c + 3 ≤ b → b < c + 3 + 3 → w2.cell? ⟨b, o, none⟩ = W.cell? ⟨b, o, none⟩ := fun b o h1 h2 => hb2.cell (p := ⟨b, o, none⟩) (show b < W.heap.size by omega)
    have HK3 := Lib.hid hk3
    have hvc2 := hv2.cell
    clear hk3 hvd hrowd e0 e1 e2 hS hRW hv hrow hb2 hvc
    obtain ⟨s0, s1, s2⟩ := hS2
    by_cases hq : (mis t L y n : Int) ≤ K
    · have hr := hr1 hq
      have hrK : (r : Int) ≤ K := by omega
      clear hr1 hr2 hr
      rw [if_pos hq] at HSN
      clear hq
      refine takeD 8 19 (.bool true) rfl rfl (by kernel_rfl) (by kernel_rfl) (by kernel_rfl) (fun _ _ _ h => h) (Or.inl ⟨by rfl, by intro w' hSw; go_simp⟩) hH ?_
      try simp only [Act.put, List.setIfInBounds_toArray, List.set_cons_zero, List.set_cons_succ]
      refine wpAnyH_done (by kernel_rfl) ?_ _
      gi_wp2_with (gi_at_builtin; refine wpListIn_append_own _ rfl _ _ 24 rfl (c + 6) 3 i0 (.int .i64 0) 1 8 Tryz.underlying24 hi hy0 hy1 hy2 rfl (by decide) _ _ _ rfl (hrow2.alloc _) ⟨w2.heap.size, 0, none⟩ 1 1 [.int .i64 (y : Nat)] rfl rfl (cell_one_new _ _ _) (by simp [Value.oneCell']) (by unfold maxLen; omega) (by omega) (by simp; omega) ?_; intro v' w3 hown3 hgrow3 _; obtain ⟨g3, cap3, rfl⟩ := ownsRow_succ hown3; obtain ⟨hv3, hv4, hr4, hk4, hb4, hc4⟩ := Boxed.appended2 hv2 (m := c) (by decide) hrow2 (by omega) (by omega) (by omega) hown3 hgrow3; have hvc3 := hv3.cell; have hvf3 := hv3.frozen)
      refine ⟨(hko.trans hk4).from _, ⟨hbW.trans hb4, fun b o h1 h2 => (hc4 b o (by omega) (by omega)).trans (HK3.out b o h1 h2)⟩, ⟨⟨(hc4 c 0 (by omega) (by omega)).trans s0, (hc4 c 1 (by omega) (by omega)).trans s1, (hc4 (c + 1) 0 (by omega) (by omega)).trans s2⟩, _, hv4, ?_⟩, (hB.trans hbW).trans hb4⟩
      rw [HSN, ints_snoc, List.length_append]
      exact ⟨hr4, trivial⟩
    · have hr := hr2 (by omega)
      have hrK : K < (r : Int) := by omega
      clear hr1 hr2 hr
      rw [if_neg hq] at HSN
      clear hq
      refine takeD 8 19 (.bool false) rfl rfl (by kernel_rfl) (by kernel_rfl) (by kernel_rfl) (fun _ _ _ h => h) (Or.inl ⟨by rfl, by intro w' hSw; go_simp⟩) hH ?_
      try simp only [Act.put, List.setIfInBounds_toArray, List.set_cons_zero, List.set_cons_succ]
      refine wpAnyH_done (by kernel_rfl) ?_ _
      gi_wp2
      exact ⟨hko.from _, ⟨hbW, HK3.out⟩, ⟨⟨s0, s1, s2⟩, _, hv2, by rw [HSN]; exact ⟨hrow2, trivial⟩⟩, hB.trans hbW⟩
  case done =>
    rintro D ys W hD rfl ⟨⟨⟨e0, e1, e2⟩, v, hv, hrow, -⟩, hB⟩ hK
    obtain ⟨ad1, cap1, rfl⟩ := own_slice hrow
    have hvc := hv.cell
    gi_wp2
    refine ⟨by simp, .inl ⟨_, _, rfl, run_takeDeferred hK, ?_⟩⟩
    have hcw' : w.heap.size ≤ c := by have := HCW.out; omega
    have hbe := belowK_b (w := w) (Nat.le_refl _) W D _ (.deferred none) (by omega) hK rfl rfl
    have hB' : Below w.heap.size w W := (hBw1.trans hB).mono hcw'
    have hrow' := own_le (ownsRow_putObj hrow (.deferred none) hK rfl) (show w.heap.size ≤ c + 6 by omega)
    have hpm := pw_map t n L K 0 (many t n L K 0) (Nat.le_refl _) (fun q => q)
    rw [List.map_id'] at hpm
    rw [hpm] at hrow'
    exact ⟨_, results_tmp rfl _ _ _, _, rfl, by show World.ownsRow _ _ 3 1 (.slice ad1 (fnd t n L K (List.map (fun q => pw t n L K 0 q) (plc 0 (many t n L K 0)))).length cap1) _ _; rw [hpm]; exact hrow', hB'.trans hbe⟩
  case stop =>
    rintro D cc pre W _ _ h _
    exact h.elim
end Go.Proofs.YtjfkmoinldlmaaaGreat

/- Walk of naive.At: a range over a function that is left at once. -/
namespace Go.Proofs.YtjfkmoinldlmaaaGreat
open Go.RowKit Go.Shelf
attribute [local go_sem] Oper.semAt_some

end Go.Proofs.YtjfkmoinldlmaaaGreat

/- Walk of naive.First: a range over a function that is left when something is found. -/
namespace Go.Proofs.YtjfkmoinldlmaaaGreat
open Go.RowKit Go.Shelf
attribute [local go_sem] Oper.semAt_some

theorem plc_add (s a b : Nat) : plc s (a + b) = plc s a ++ plc (s + a) b := by
  unfold plc
  rw [List.range_add, List.map_append, List.map_map]
  congr 1
  refine List.map_congr_left fun x _ => ?_
  simp only [Function.comp_apply]
  omega
theorem fnd_append (t : ByteArray) (n : Nat) (L : Nat → Nat → Bool) (K : Int) (l m : List Nat) : fnd t n L K (l ++ m) = fnd t n L K l ++ fnd t n L K m := by
  unfold fnd
  rw [List.filter_append, List.map_append]
/-- The first place from s on at which few are missed. -/
def firstF (t : ByteArray) (n : Nat) (L : Nat → Nat → Bool) (K : Int) (s : Nat) : Option Int := (fnd t n L K (plc s (many t n L K s))).head?

end Go.Proofs.YtjfkmoinldlmaaaGreat

/- What naive counts, finds and finds first is what the document says: plain lists. -/
namespace Go.Proofs.YtjfkmoinldlmaaaGreat

theorem many_at (t : ByteArray) (n : Nat) (L : Nat → Nat → Bool) (K : Int) (k : Nat) : okAt t n L K (k : Nat) = decide (k < many t n L K 0) := by
  unfold okAt many
  cases rightB n L K
  · simp
  · simp only [Bool.true_and, if_true]
    rw [Bool.eq_iff_iff]
    simp
    omega
theorem cnts_to (t : ByteArray) (n : Nat) (L : Nat → Nat → Bool) (K : Int) (k : Nat) : cntsTo t n L K k = (plc 0 (min k (many t n L K 0))).map fun i => ((mis t L i n : Nat) : Int) := by
  induction k with
  | zero => simp [cntsTo, plc]
  | succ k ih =>
    simp only [cntsTo]
    rw [many_at, ih]
    by_cases h : k < many t n L K 0
    · rw [decide_eq_true h, if_pos rfl, Nat.min_eq_left (by omega), Nat.min_eq_left (by omega), plc_succ, List.map_append, Nat.zero_add]
      rfl
    · rw [decide_eq_false h, if_neg (by decide), Nat.min_eq_right (by omega), Nat.min_eq_right (by omega)]
theorem many_le (t : ByteArray) (n : Nat) (L : Nat → Nat → Bool) (K : Int) (s : Nat) : many t n L K s ≤ t.size + 1 := by unfold many; split <;> omega
theorem cnts_eq (t : ByteArray) (n : Nat) (L : Nat → Nat → Bool) (K : Int) : cntsTo t n L K (t.size + 1) = (plc 0 (many t n L K 0)).map fun i => ((mis t L i n : Nat) : Int) := by
  rw [cnts_to, Nat.min_eq_right (many_le _ _ _ _ _)]
theorem hits_plc (t : ByteArray) (n : Nat) (L : Nat → Nat → Bool) (K : Int) (m k : Nat) (hk : k ≤ m) : hitsTo (gi ((plc 0 m).map fun i => ((mis t L i n : Nat) : Int))) K k = fnd t n L K (plc 0 k) := by
  induction k with
  | zero => simp [hitsTo, plc, fnd]
  | succ k ih =>
    simp only [hitsTo]
    rw [ih (by omega), plc_succ, fnd_snoc, Nat.zero_add]
    have e : gi ((plc 0 m).map fun i => ((mis t L i n : Nat) : Int)) k = ((mis t L k n : Nat) : Int) := by
      unfold gi plc
      rw [List.getElem?_map, List.getElem?_map, List.getElem?_range (by omega)]
      simp
    rw [e]
theorem find_eq (t : ByteArray) (n : Nat) (L : Nat → Nat → Bool) (K : Int) : findL t n L K = fnd t n L K (plc 0 (many t n L K 0)) := by
  unfold findL
  rw [cnts_eq, List.length_map, plc_length]
  exact hits_plc t n L K _ _ (Nat.le_refl _)
theorem fnd_mem {t : ByteArray} {n : Nat} {L : Nat → Nat → Bool} {K : Int} {l : List Nat} {x : Int} (h : x ∈ fnd t n L K l) : ∃ q, q ∈ l ∧ x = (q : Int) := by
  unfold fnd at h
  obtain ⟨q, hq, rfl⟩ := List.mem_map.1 h
  exact ⟨q, (List.mem_filter.1 hq).1, rfl⟩
theorem plc_mem {s k x : Nat} (h : x ∈ plc s k) : s ≤ x ∧ x < s + k := by
  unfold plc at h
  obtain ⟨j, hj, rfl⟩ := List.mem_map.1 h
  have := List.mem_range.1 hj
  omega
theorem many_from (t : ByteArray) (n : Nat) (L : Nat → Nat → Bool) (K : Int) (s : Nat) : many t n L K s = many t n L K 0 - s := by unfold many; split <;> omega
theorem find_head {l : List Int} {p : Int → Bool} (h : ∀ x ∈ l, p x = true) : l.find? p = l.head? := by
  cases l with
  | nil => rfl
  | cons a r => rw [List.find?_cons_of_pos (h a (by simp))]; rfl
theorem first_ref (t : ByteArray) (n : Nat) (L : Nat → Nat → Bool) (K b : Int) (s : Nat) (hs : max 0 b = (s : Int)) : fge (findL t n L K) b = firstF t n L K s := by
  unfold fge firstF
  rw [find_eq, many_from t n L K s]
  generalize many t n L K 0 = m
  by_cases hm : s ≤ m
  · obtain ⟨r, rfl⟩ : ∃ r, m = s + r := ⟨m - s, by omega⟩
    rw [plc_add, fnd_append, List.find?_append, Nat.add_sub_cancel_left, Nat.zero_add]
    have h1 : (fnd t n L K (plc 0 s)).find? (fun x => decide (b ≤ x)) = none := by
      rw [List.find?_eq_none]
      intro x hx
      obtain ⟨q, hq, rfl⟩ := fnd_mem hx
      have := plc_mem hq
      simp
      omega
    rw [h1, Option.none_or]
    refine find_head fun x hx => ?_
    obtain ⟨q, hq, rfl⟩ := fnd_mem hx
    have := plc_mem hq
    simp
    omega
  · rw [show m - s = 0 by omega]
    have h0 : fnd t n L K (plc s 0) = [] := rfl
    rw [h0, List.head?_nil, List.find?_eq_none]
    intro x hx
    obtain ⟨q, hq, rfl⟩ := fnd_mem hx
    have := plc_mem hq
    simp
    omega
end Go.Proofs.YtjfkmoinldlmaaaGreat

/- What the loop of zed.rows holds. -/
namespace Go.Proofs.YtjfkmoinldlmaaaGreat
open Go.RowKit Go.Shelf

structure ST (w wr : World) (c : Nat) (own : Value) (s t : ByteArray) (k fr to : Nat) : Prop where
  ow : Boxed wr c 24 own
  row : wr.ownsRow (c + 1) 3 1 (.slice (some ⟨c + 1, 0, none⟩) k t.size) k (ints ((rowsL s t).take k))
  ob : Boxed wr (c + 2) 24 (.slice (some ⟨c + 1, 0, none⟩) k t.size)
  fb : Boxed wr (c + 3) 3 (.int .i64 (fr : Nat))
  tb : Boxed wr (c + 4) 3 (.int .i64 (to : Nat))
  be : Below c w wr
  sz : c + 5 ≤ wr.heap.size

theorem ST.below {w wr w' : World} {c : Nat} {own : Value} {s t : ByteArray} {k fr to : Nat} (h : ST w wr c own s t k fr to) (hb : Below wr.heap.size wr w') : ST w w' c own s t k fr to where
  ow := Boxed.below h.ow hb (by have := h.sz; omega)
  row := own_below h.row hb
  ob := Boxed.below h.ob hb (by have := h.sz; omega)
  fb := Boxed.below h.fb hb (by have := h.sz; omega)
  tb := Boxed.below h.tb hb (by have := h.sz; omega)
  be := h.be.trans (hb.mono (by have := h.sz; omega))
  sz := Nat.le_trans h.sz hb.size

theorem own_set {w : World} {c k cap : Nat} {xs : List Value} (h : w.ownsRow (c + 1) 3 1 (.slice (some ⟨c + 1, 0, none⟩) k cap) k xs) (b : Nat) (hb : b ≠ c + 1) (v : Value) : (w.setCell ⟨b, 0, none⟩ v).ownsRow (c + 1) 3 1 (.slice (some ⟨c + 1, 0, none⟩) k cap) k xs :=
  h.kept (grownBy_setCell' w b v) (.inr (by simp [Value.ownBlock]; omega))

theorem ST.set {w wr : World} {c : Nat} {own : Value} {s t : ByteArray} {k fr to : Nat} (h : ST w wr c own s t k fr to) (fr' to' : Nat) :
    ST w ((wr.setCell ⟨c + 3, 0, none⟩ (.int .i64 (fr' : Nat))).setCell ⟨c + 4, 0, none⟩ (.int .i64 (to' : Nat))) c own s t k fr' to' where
  ow := Boxed.other (Boxed.other h.ow (by omega) _) (by omega) _
  row := own_set (own_set h.row _ (by omega) _) _ (by omega) _
  ob := Boxed.other (Boxed.other h.ob (by omega) _) (by omega) _
  fb := Boxed.other (Boxed.set _ h.fb) (by omega) _
  tb := Boxed.set _ (Boxed.other h.tb (by omega) _)
  be := (h.be.setCell (p := ⟨c + 3, 0, none⟩) (show c ≤ c + 3 by omega) _).setCell (p := ⟨c + 4, 0, none⟩) (show c ≤ c + 4 by omega) _
  sz := by simpa using h.sz

theorem ST.app {w wr w5 : World} {c : Nat} {own : Value} {s t : ByteArray} {k fr to : Nat} (h : ST w wr c own s t k fr to) {tmp : Obj} (hg : (wr.alloc tmp).grownBy w5 (some (c + 1)))
    (hr : w5.ownsRow (c + 1) 3 1 (.slice (some ⟨c + 1, 0, none⟩) (k + 1) t.size) (k + 1) (ints ((rowsL s t).take (k + 1)))) :
    Boxed w5 (c + 2) 24 (.slice (some ⟨c + 1, 0, none⟩) k t.size) ∧ ST w (w5.setCell ⟨c + 2, 0, none⟩ (.slice (some ⟨c + 1, 0, none⟩) (k + 1) t.size)) c own s t (k + 1) fr to := by
  have h1 : ∀ {B T : Nat} {v : Value}, Boxed wr B T v → B ≠ c + 1 → Boxed w5 B T v := fun hb hne => (hb.alloc tmp).kept hg (fun e => hne (by cases e; rfl))
  refine ⟨h1 h.ob (by omega), ?_⟩
  exact {
    ow := Boxed.other (h1 h.ow (by omega)) (by omega) _
    row := own_set hr _ (by omega) _
    ob := Boxed.set _ (h1 h.ob (by omega))
    fb := Boxed.other (h1 h.fb (by omega)) (by omega) _
    tb := Boxed.other (h1 h.tb (by omega)) (by omega) _
    be := ((h.be.alloc (by have := h.sz; omega) tmp).grown hg (by have := h.sz; simp; omega) (fun j e => by cases e; omega)).setCell (p := ⟨c + 2, 0, none⟩) (show c ≤ c + 2 by omega) _
    sz := by have h2 := h.sz; have h3 := hg.size; simp at h3 ⊢; omega }

set_option maxRecDepth 100000 in
theorem make0 (n : Nat) (hn : n ≤ 1000000) (w : World) : (Instr.makeSlice 24 (.int .i64 0) (.int .i64 (n : Nat))).run Tryz.prog w = .ok (.slice (some ⟨w.heap.size, 0, none⟩) 0 n) (w.alloc (.cells (madeCells #[.int .i64 0] n) 3)) := by
  obtain ⟨i, hi, h1, h2, h3⟩ := info_parts (P := Tryz.prog) (show (Tryz.prog.info? 3).map (fun i => (i.zero, i.size, i.bytes)) = some (some (.int .i64 0), 1, 8) from by kernel_rfl)
  have h := run_make (P := Tryz.prog) w 24 3 i (.int .i64 0) Tryz.underlying24 hi h1 .i64 .i64 0 n (by omega) (by omega) (by rw [h3]; omega) (by omega)
  rw [h2, Nat.mul_one] at h
  exact h
end Go.Proofs.YtjfkmoinldlmaaaGreat
