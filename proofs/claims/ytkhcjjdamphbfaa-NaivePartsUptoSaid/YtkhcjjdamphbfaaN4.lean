/- Walk of naive.Counts: a range over a function. -/
import Derived.Test.YtkhcjjdamphbfaaN1
import Derived.Test.YtkhcjjdamphbfaaN2
import Derived.Test.YtkhcjjdamphbfaaN3
import Derived.RangeFuncBox
import Derived.Maps.AppendAt
namespace Go.Proofs.Ytkhcjjdamphbfaa
open Go.RowKit Go.Shelf
attribute [local go_sem] Oper.semAt_some

/-- append at a step of a region that draws its order: nothing but its row is written. -/
theorem step_app2 {T E size bytes base : Nat} (hE : ElemT T E size bytes) {ops : Array Oper} {o : Oper} {a : Act} {K : Act → World → Prop} {Q : Exit → Act → World → Prop} {E' : Prop} (hgd : o.guard = none) (s x : Operand)
    (ho : o.op = .call { callee := .builtin .append, args := #[s, x], argTypes := #[T, T] })
    {v : Value} {n : Nat} {xs : List Value} (hs : a.eval s = v) {w0 : World} (hown : w0.ownsRow base E size v n xs) (nc : List Value)
    (hx : a.eval x = .slice (some ⟨w0.heap.size, 0, none⟩) 1 1) (hl : nc.length = size) (h1 : ∀ u ∈ nc, u.oneCell' = true) (hn : n + 1 ≤ maxLen) (hbytes : (n + 1) * bytes ≤ 140737488355328) (hbase : base ≤ w0.heap.size)
    (h : ∀ v' w', w'.ownsRow base E size v' (n + 1) (xs ++ nc) → (w0.alloc (.cells nc.toArray E)).grownBy w' v.ownBlock → K (a.put o.dst v') w') :
    if Region.wanted o (yielded ops a.tmps) = true then Oper.wp Try.prog o a (w0.alloc (.cells nc.toArray E)) K Q else E' := by
  have hw : Region.wanted o (yielded ops a.tmps) = true := by simp [Region.wanted, hgd]
  rw [if_pos hw]
  obtain ⟨i, z, ht, hi, hz, hsize, hby, hzs, hsz⟩ := hE
  have hnews : ∀ (j : Nat) u, nc[j]? = some u → (w0.alloc (.cells nc.toArray E)).cell? ((⟨w0.heap.size, 0, none⟩ : Addr).add j) = some u := by
    intro j u hj
    have e : (⟨w0.heap.size, 0, none⟩ : Addr).add j = ⟨w0.heap.size, j, none⟩ := by unfold Addr.add; split <;> simp_all
    rw [e, World.cell?_alloc_new]
    simpa using hj
  obtain ⟨v', w', hr, h2, h3, _, _⟩ := run_append_own_at (P := Try.prog) (w0.alloc (.cells nc.toArray E)) base T o.type E i z size bytes ht hi hz hsize hby hzs hsz v n xs (hown.alloc _) ⟨w0.heap.size, 0, none⟩ 1 1 nc (by omega) hnews h1 hn hbytes (by simp; omega)
  unfold Oper.wp execOp
  simp only [ho, resolve, invoke, builtin, Sem.run_bind, Sem.run_pure, Result.andThen_ok, List.map_toArray, List.map_cons, List.map_nil, hs, hx, hr]
  exact h v' w' h2 h3

/-- Behind an append into a box below the row: the box, the row, and what lay elsewhere. -/
theorem Boxed.appended2 {W w1 : World} {m n₀ B : Nat} {t e : TypeId} {size : Nat} {v v' : Value} {k q : Nat} {xs ys : List Value} {tmp : Obj}
    (hv : Boxed W B t v) (hte : t ≠ e) (hrow : W.ownsRow n₀ e size v k xs) (hn₀ : n₀ ≤ W.heap.size) (hm : m ≤ B) (hmn : m ≤ n₀)
    (hown' : w1.ownsRow n₀ e size v' q ys) (hgrow : (W.alloc tmp).grownBy w1 v.ownBlock) :
    Boxed w1 B t v ∧ Boxed (w1.setCell ⟨B, 0, none⟩ v') B t v' ∧ (w1.setCell ⟨B, 0, none⟩ v').ownsRow n₀ e size v' q ys ∧ KeepsOthers W (w1.setCell ⟨B, 0, none⟩ v') ∧ Below m W (w1.setCell ⟨B, 0, none⟩ v') ∧
      ∀ b o, b < n₀ → b ≠ B → (w1.setCell ⟨B, 0, none⟩ v').cell? ⟨b, o, none⟩ = W.cell? ⟨b, o, none⟩ := by
  have hv1 : Boxed w1 B t v := (hv.alloc tmp).kept hgrow (hv.not_row hte hrow)
  have hlt := hrow.lt
  refine ⟨hv1, hv1.set v', hown'.kept (grownBy_setCell' w1 B v') (.inr (hv1.not_row hte hown').symm), ?_, ?_, ?_⟩
  · refine ((KeepsOthers.alloc W tmp).trans (KeepsOthers.of_grownBy hgrow fun j o ej hj => ?_)).trans (KeepsOthers.setCell _ _ _)
    rcases (hrow.alloc tmp).2 with ⟨rfl, _⟩ | ⟨g, cap, cur, rfl, _, hgb, _⟩
    · simp [Value.ownBlock] at ej
    · obtain rfl : g = j := by simpa [Value.ownBlock] using ej
      rw [hgb] at hj; cases hj; rfl
  · exact (((Below.refl m W).alloc (Nat.le_trans hmn hn₀) tmp).grown hgrow (by simp; omega) fun j ej => Nat.le_trans hmn (hlt j ej).1).setCell (p := ⟨B, 0, none⟩) hm v'
  · intro b o hb hne
    have h1 := World.cell?_of_block (a := ⟨b, o, none⟩) ((grownBy_setCell' w1 B v').block b (by have := hgrow.size; simp at this; show b < w1.heap.size; omega) (fun e => hne (by cases e; rfl)))
    have h2 := World.cell?_of_block (a := ⟨b, o, none⟩) (hgrow.block b (by simp; show b < W.heap.size + 1; omega) (fun e => by have := (hlt b e.symm).1; omega))
    have h3 := World.cell?_of_block (a := ⟨b, o, none⟩) ((World.grownBy_alloc W tmp none).block b (show b < W.heap.size by omega) (by simp))
    exact h1.trans (h2.trans h3)

theorem Boxed.below {W W' : World} {B n : Nat} {t : TypeId} {v : Value} (h : Boxed W B t v) (hb : Below n W W') (hn : B < n) : Boxed W' B t v := (hb.block B hn).trans h
theorem takeD {P : Program} {ops : Array Oper} {Q : Exit → Act → World → Prop} {md : Region.Mode} {S : World → Prop} (i d : Nat) (v : Value) {oi : Oper} {fuel : Nat} {listed : Array Bool} {a : Act} {w : World} (hi : ops[i]? = some oi) (hd : oi.dst = some d)
    (hs : Region.noSelect ops = true) (hf : Region.free md ops listed i = true) (hr : (Region.ready md ops listed).contains i = true)
    (hQ : ∀ c a w, Q (.panic c) (a.put (some d) v) w → Q (.panic c) a w) (hy : YieldsIf P ops S oi v a) (hS : S w)
    (h : wpAnyH P md ops Q S fuel (listed.setIfInBounds i true) (a.put (some d) v) w) : wpAnyH P md ops Q S (fuel + 1) listed a w :=
  wpAnyH_take hi hs hf hr (by rw [hd]; exact hQ) hy hS (by rw [hd]; exact h)

set_option maxRecDepth 100000 in
set_option maxHeartbeats 4000000 in
theorem counts_any (ad : Option Addr) (n cap : Nat) (K : Int) (L : Nat → Nat → Bool) (hn : (n : Int) ≤ 1000) (t : ByteArray) (ht : t.size ≤ 1000) (w : World) (hR : RowC w ad n L w.heap.size) :
    Calls Try.prog 57 #[lv ad n cap K, .string t] w fun e w' => ∃ v, e = .returned v ∧ w'.ownsRow w.heap.size 3 1 v (many t n L K 0) (ints ((plc 0 (many t n L K 0)).map fun i => ((mis t L i n : Nat) : Int))) ∧ Below w.heap.size w w' := by
  refine (callsIn_wide (n := 9)).1 ?_
  refine callsIn_of_wp_marks Try.func57 rfl trivial ?_ rfl
  simp only [Try.ntmps57, List.size_toArray, List.length_cons, List.length_nil, Nat.reduceAdd, Nat.reduceSub, Array.replicate_succ, Array.replicate_zero, List.push_toArray, List.append_toArray, List.nil_append, List.cons_append]
  have hL0 := HoldsL.new w ad n cap K
  have bT := Boxed.new (w.alloc (.cells #[.slice ad n cap, .int .i64 K] 43)) 9 (.string t)
  have bO := Boxed.new ((w.alloc (.cells #[.slice ad n cap, .int .i64 K] 43)).alloc (.cells #[.string t] 9)) 48 (.slice none 0 0)
  have hB0 : Below w.heap.size w (((w.alloc (.cells #[.slice ad n cap, .int .i64 K] 43)).alloc (.cells #[.string t] 9)).alloc (.cells #[.slice none 0 0] 48)) := (((Below.refl _ w).alloc (Nat.le_refl _) _).alloc (by simp) _).alloc (by simp; omega) _
  gi_wp2_with (refine ⟨trivial, ?_⟩; gi_at_call 108; refine (callsIn_wide.2 (placesF_any ad n cap K t 0 _)).mono ?_; rintro e w1 ⟨rfl, hl, htx, hst, hsz, hb⟩)
  simp only [World.size_alloc, Nat.add_assoc, Nat.reduceAdd] at hl htx hst hsz hb bT bO ⊢
  obtain ⟨c, hc⟩ : ∃ c, c = w.heap.size := ⟨_, rfl⟩
  obtain ⟨W3, hW3⟩ : ∃ W3 : World, (((w.alloc (.cells #[.slice ad n cap, .int .i64 K] 43)).alloc (.cells #[.string t] 9)).alloc (.cells #[.slice none 0 0] 48)) = W3 := ⟨_, rfl⟩
  have q0 : W3.cell? ⟨c, 0, none⟩ = some (.slice ad n cap) := by subst hW3; subst hc; simp [go_sem]
  have q1 : W3.cell? ⟨c, 1, none⟩ = some (.int .i64 K) := by subst hW3; subst hc; simp [go_sem]
  have q2 : W3.cell? ⟨c + 1, 0, none⟩ = some (.string t) := by subst hW3; subst hc; simp [go_sem]
  have hs3 : W3.heap.size = c + 3 := by subst hW3; subst hc; simp
  rw [hW3] at hb bO hB0
  clear hW3 bT hL0
  rw [← hc] at hl htx hst hsz hb bO hB0 hR ⊢
  have hcw : c ≤ w.heap.size := by omega
  have HCW := Lib.hid hc
  clear hc
  have hR3 := hR.below hB0 (Nat.le_refl _)
  have hBw1 : Below c w w1 := hB0.trans (hb.mono (by omega))
  have hP : PlArgs w1 c (c + 3) ad n cap K L t 0 := ⟨⟨hl.1, hl.2.1⟩, htx, hst, hR3.below hb (by omega)⟩
  have p0 := (hb.cell (p := ⟨c, 0, none⟩) (by show c < c + 3; omega)).trans q0
  have p1 := (hb.cell (p := ⟨c, 1, none⟩) (by show c < c + 3; omega)).trans q1
  have p2 := (hb.cell (p := ⟨c + 1, 0, none⟩) (by show c + 1 < c + 3; omega)).trans q2
  have bO1 : Boxed w1 (c + 2) 48 (.slice none 0 0) := Boxed.below bO hb (by omega)
  obtain ⟨cnt, hcnt⟩ : ∃ cnt, cnt = many t n L K 0 := ⟨_, rfl⟩
  refine wpIn_rangeFunc_ownG rfl (by omega) (gf := 125) (lb := #[.pointer (some ⟨c + 3, 0, none⟩), .pointer (some ⟨c + 5, 0, none⟩), .pointer (some ⟨c + 4, 0, none⟩)]) rfl trivial (enters_of Try.func125 (by kernel_rfl) rfl)
    (places_stops 8 c (c + 3) ad n cap K L hn t ht 0 0 rfl w1 (by omega) (by omega) hP) keeps3_t (keeps3_b (by omega) (by omega)) (Below.refl _ _) (fun _ => rfl)
    (fun pre W => ((W.cell? ⟨c, 0, none⟩ = some (.slice ad n cap) ∧ W.cell? ⟨c, 1, none⟩ = some (.int .i64 K) ∧ W.cell? ⟨c + 1, 0, none⟩ = some (.string t)) ∧ (∃ v, Boxed W (c + 2) 48 v ∧ W.ownsRow (c + 6) 3 1 v pre.length (ints (pre.map fun i => ((mis t L (pw t n L K 0 i) n : Nat) : Int))) ∧ True)) ∧ Below c w1 W)
    (fun _ _ _ => False)
    (OwnFrom.and (OwnFrom.and (Own.from (fun s A B row hs hg hr => ⟨cell_kept hs.1 hg hr, cell_kept hs.2.1 hg hr, cell_kept hs.2.2 hg hr⟩) _) (Own.from (holdsRow_own (c + 6) (c + 2) 48 3 1 (fun pre : List Nat => pre.length) (fun pre => ints (pre.map fun i => ((mis t L (pw t n L K 0 i) n : Nat) : Int))) (fun _ _ => True)) _)) (ownFrom_below (by omega) (by omega)))
    (fun _ _ _ _ _ hs _ _ => hs)
    ⟨⟨⟨p0, p1, p2⟩, _, bO1, World.ownsRow_nil _ _ _ _, trivial⟩, Below.refl _ _⟩
    (fun x => { tmps := #[lv ad n cap K, .string t, .pointer (some ⟨c, 0, none⟩), .pointer (some ⟨c + 1, 0, none⟩), .slice none 0 0, .pointer (some ⟨c + 2, 0, none⟩), .int .i64 (pw t n L K 0 x : Nat), .agg #[.slice ad n cap, .int .i64 K], .string t, .func (.func 125) #[] #[.pointer (some ⟨c + 3, 0, none⟩), .pointer (some ⟨c + 5, 0, none⟩), .pointer (some ⟨c + 4, 0, none⟩)], .int .i64 (pw t n L K 0 x : Nat), undef, undef, undef, undef, undef, undef, undef, undef, undef, undef, undef], defers := [] }) ?assign ?body ?done ?stop
  case assign =>
    intro l x W K hK
    gi_wp2
    exact hK
  case body =>
    rintro l pre x W ⟨⟨⟨e0, e1, e2⟩, v, hv, hrow, -⟩, hB⟩ hlt
    obtain ⟨ad1, cap1, rfl⟩ := own_slice hrow
    have hvc := hv.cell
    gi_wp2_with fail
    have hyn := pw_fits hlt x
    have hpl : pre.length ≤ 1000 := by have h1 : pre.length < many t n L K 0 := hlt; unfold many at h1; split at h1 <;> omega
    obtain ⟨y, hy⟩ : ∃ y, y = pw t n L K 0 x := ⟨_, rfl⟩
    rw [← hy] at hyn ⊢
    have HY := Lib.hid hy
    clear hy hlt
    have hRW : RowC W.drew ad n L W.drew.heap.size := (hR.below (hBw1.trans hB) (Nat.le_refl _)).mono (show c ≤ W.drew.heap.size by have := hB.size; simp; omega)
    have hsW := hv.lt
    have hmis := mis_le t L y n
    have hmix : Try.prog.follows .mixedOrders = true := by kernel_rfl
    refine region_round (fun w' => w'.cell? ⟨c, 0, none⟩ = some (.slice ad n cap) ∧ w'.cell? ⟨c, 1, none⟩ = some (.int .i64 K) ∧ w'.cell? ⟨c + 1, 0, none⟩ = some (.string t)) hmix (by kernel_rfl) (by rintro ⟨a, w, h⟩; exact h) ⟨e0, e1, e2⟩ ?_
    intro hS
    refine takeD 1 12 (.agg #[.slice ad n cap, .int .i64 K]) rfl rfl (by kernel_rfl) (by kernel_rfl) (by kernel_rfl) (fun _ _ _ h => h) (Or.inl ⟨by rfl, by intro w' hSw; obtain ⟨s0, s1, s2⟩ := hSw; go_simp⟩) hS ?_
    simp only [Act.put, List.setIfInBounds_toArray, List.set_cons_zero, List.set_cons_succ]
    refine takeD 2 13 (.string t) rfl rfl (by kernel_rfl) (by kernel_rfl) (by kernel_rfl) (fun _ _ _ h => h) (Or.inl ⟨by rfl, by intro w' hSw; obtain ⟨s0, s1, s2⟩ := hSw; go_simp⟩) hS ?_
    simp only [Act.put, List.setIfInBounds_toArray, List.set_cons_zero, List.set_cons_succ]
    refine takeD 3 14 (.int .i64 (y : Nat)) rfl rfl (by kernel_rfl) (by kernel_rfl) (by kernel_rfl) (fun _ _ _ h => h) (Or.inl ⟨by rfl, by intro w' hSw; obtain ⟨s0, s1, s2⟩ := hSw; go_simp⟩) hS ?_
    simp only [Act.put, List.setIfInBounds_toArray, List.set_cons_zero, List.set_cons_succ]
    refine takeD 4 15 (.pointer (some ⟨c, 0, none⟩)) rfl rfl (by kernel_rfl) (by kernel_rfl) (by kernel_rfl) (fun _ _ _ h => h) (Or.inl ⟨by rfl, by intro w' hSw; obtain ⟨s0, s1, s2⟩ := hSw; go_simp⟩) hS ?_
    simp only [Act.put, List.setIfInBounds_toArray, List.set_cons_zero, List.set_cons_succ]
    refine takeD 5 16 (.slice ad n cap) rfl rfl (by kernel_rfl) (by kernel_rfl) (by kernel_rfl) (fun _ _ _ h => h) (Or.inl ⟨by rfl, by intro w' hSw; obtain ⟨s0, s1, s2⟩ := hSw; go_simp⟩) hS ?_
    simp only [Act.put, List.setIfInBounds_toArray, List.set_cons_zero, List.set_cons_succ]
    refine takeD 6 17 (.int .i64 (n : Nat)) rfl rfl (by kernel_rfl) (by kernel_rfl) (by kernel_rfl) (fun _ _ _ h => h) (Or.inl ⟨by rfl, by intro w' hSw; obtain ⟨s0, s1, s2⟩ := hSw; go_simp⟩) hS ?_
    simp only [Act.put, List.setIfInBounds_toArray, List.set_cons_zero, List.set_cons_succ]
    have hrowd := hrow.drew
    have hvd : Boxed W.drew (c + 2) 48 (.slice ad1 pre.length cap1) := hv
    have h6 : c + 6 ≤ W.heap.size := by have := hB.size; omega
    refine wpAnyH_ready (rs := [0, 7]) (by kernel_rfl) (by simp) ?_
    refine AllReadyH.cons rfl (fun Kc hK => ?_) (AllReadyH.cons rfl (fun Kc hK => ?_) AllReadyH.nil)
    · go_simp
      refine hK.out _ _ hS (fun hH => ?_)
      try simp only [Act.put, List.setIfInBounds_toArray, List.set_cons_zero, List.set_cons_succ]
      clear hK Kc
      refine wpAnyH_ready (rs := [7]) (by kernel_rfl) (by simp) ?_
      refine AllReadyH.cons rfl (fun Kc hK => ?_) AllReadyH.nil
      go_simp
      go_at_call 109
      refine (misses_any ad n cap K L t (by omega) y hyn n _ hRW).mono ?_
      rintro e w2 ⟨⟨r, rfl, hr1, -⟩, hb2⟩
      obtain rfl : r = mis t L y n := hr1 (by omega)
      dsimp only
      have hv2 := hvd.kept (grown_of_below hb2 none) (by simp)
      have hvc2 := hv2.cell
      have hrow2 := own_below hrowd hb2
      have hz2 : W.drew.heap.size ≤ w2.heap.size := hb2.size
      have hz2' : W.heap.size ≤ w2.heap.size := hz2
      have hcl2 : c + 2 < w2.heap.size := by omega
      have hS2 : w2.cell? ⟨c, 0, none⟩ = some (.slice ad n cap) ∧ w2.cell? ⟨c, 1, none⟩ = some (.int .i64 K) ∧ w2.cell? ⟨c + 1, 0, none⟩ = some (.string t) := ⟨(hb2.cell (p := ⟨c, 0, none⟩) (show c < W.heap.size by omega)).trans e0, (hb2.cell (p := ⟨c, 1, none⟩) (show c < W.heap.size by omega)).trans e1, (hb2.cell (p := ⟨c + 1, 0, none⟩) (show c + 1 < W.heap.size by omega)).trans e2⟩
      refine hK.out _ _ hS2 (fun hH => ?_)
      try simp only [Act.put, List.setIfInBounds_toArray, List.set_cons_zero, List.set_cons_succ]
      clear hK Kc
      refine wpAnyH_ready (rs := [8]) (by kernel_rfl) (by simp) ?_
      refine AllReadyH.cons rfl (fun Kc hK => ?_) AllReadyH.nil
      go_simp
      have hS3 : (w2.alloc (.cells #[.int .i64 (mis t L y n : Nat)] 3)).cell? ⟨c, 0, none⟩ = some (.slice ad n cap) ∧ (w2.alloc (.cells #[.int .i64 (mis t L y n : Nat)] 3)).cell? ⟨c, 1, none⟩ = some (.int .i64 K) ∧ (w2.alloc (.cells #[.int .i64 (mis t L y n : Nat)] 3)).cell? ⟨c + 1, 0, none⟩ = some (.string t) := by have l0 : c < w2.heap.size := (by omega); have l1 : c + 1 < w2.heap.size := (by omega); obtain ⟨s0, s1, s2⟩ := hS2; refine ⟨?_, ?_, ?_⟩ <;> simp [go_sem, l0, l1, s0, s1, s2]
      refine hK.out _ _ hS3 (fun hH => ?_)
      try simp only [Act.put, List.setIfInBounds_toArray, List.set_cons_zero, List.set_cons_succ]
      clear hK Kc
      refine wpAnyH_ready (rs := [9]) (by kernel_rfl) (by simp) ?_
      refine AllReadyH.cons (o := { dst := some 20, op := .call { callee := .builtin .append, args := #[.tmp 11, .tmp 19], argTypes := #[48, 48] }, type := 48, pos := "naive.go:54", after := #[{ on := 0, ground := .data }, { on := 8, ground := .data }, { on := 7, ground := .chain }], guard := none }) rfl (fun Kc hK => ?_) AllReadyH.nil
      refine step_app2 (w0 := w2) elem48 (by with_reducible rfl) (.tmp 11) (.tmp 19) (by with_reducible rfl) (v := .slice ad1 pre.length cap1) (n := pre.length) (by rfl) hrow2 [.int .i64 (mis t L y n : Nat)] (by rfl) (by rfl) (by simp [Value.oneCell']) (by unfold maxLen; omega) (by omega) (by omega) ?_
      intro v3 w3 hown3 hgrow3
      obtain ⟨g3, cap3, rfl⟩ := ownsRow_succ hown3
      obtain ⟨hv3, hv4, hr4, hk4, hb4, hc4⟩ := Boxed.appended2 hv2 (m := c) (by decide) hrow2 (by omega) (by omega) (by omega) hown3 hgrow3
      have hvc3 := hv3.cell
      have hvf3 := hv3.frozen
      have hS5 : (w3.setCell ⟨c + 2, 0, none⟩ (.slice (some ⟨g3, 0, none⟩) (pre.length + 1) cap3)).cell? ⟨c, 0, none⟩ = some (.slice ad n cap) ∧ (w3.setCell ⟨c + 2, 0, none⟩ (.slice (some ⟨g3, 0, none⟩) (pre.length + 1) cap3)).cell? ⟨c, 1, none⟩ = some (.int .i64 K) ∧ (w3.setCell ⟨c + 2, 0, none⟩ (.slice (some ⟨g3, 0, none⟩) (pre.length + 1) cap3)).cell? ⟨c + 1, 0, none⟩ = some (.string t) := ⟨(hc4 c 0 (by omega) (by omega)).trans hS2.1, (hc4 c 1 (by omega) (by omega)).trans hS2.2.1, (hc4 (c + 1) 0 (by omega) (by omega)).trans hS2.2.2⟩
      have hS4 : w3.cell? ⟨c, 0, none⟩ = some (.slice ad n cap) ∧ w3.cell? ⟨c, 1, none⟩ = some (.int .i64 K) ∧ w3.cell? ⟨c + 1, 0, none⟩ = some (.string t) := ⟨(World.cell?_setCell_far w3 ⟨c + 2, 0, none⟩ ⟨c, 0, none⟩ (.slice (some ⟨g3, 0, none⟩) (pre.length + 1) cap3) (by simp)).symm.trans hS5.1, (World.cell?_setCell_far w3 ⟨c + 2, 0, none⟩ ⟨c, 1, none⟩ (.slice (some ⟨g3, 0, none⟩) (pre.length + 1) cap3) (by simp)).symm.trans hS5.2.1, (World.cell?_setCell_far w3 ⟨c + 2, 0, none⟩ ⟨c + 1, 0, none⟩ (.slice (some ⟨g3, 0, none⟩) (pre.length + 1) cap3) (by simp)).symm.trans hS5.2.2⟩
      refine hK.out _ _ hS4 (fun hH => ?_)
      try simp only [Act.put, List.setIfInBounds_toArray, List.set_cons_zero, List.set_cons_succ]
      clear hK Kc
      refine wpAnyH_ready (rs := [10]) (by kernel_rfl) (by simp) ?_
      refine AllReadyH.cons rfl (fun Kc hK => ?_) AllReadyH.nil
      go_simp
      refine hK.out _ _ hS5 (fun hH => ?_)
      try simp only [Act.put, List.setIfInBounds_toArray, List.set_cons_zero, List.set_cons_succ]
      clear hK Kc
      refine wpAnyH_done (by kernel_rfl) ?_ _
      gi_wp2
      refine ⟨KeepsOthers.from ((KeepsOthers.drew W).trans ((KeepsOthers.of_grownBy (grown_of_below hb2 none) (by simp)).trans hk4)) _, ⟨((Below.refl c W).drew.trans (hb2.mono (show c ≤ W.heap.size by omega))).trans hb4, fun b o h1 h2 => (hc4 b o (by omega) (by omega)).trans (hb2.cell (p := ⟨b, o, none⟩) (show b < W.heap.size by omega))⟩, ⟨hS5, _, hv4, ?_⟩, (hB.trans ((Below.refl c W).drew.trans (hb2.mono (show c ≤ W.heap.size by omega)))).trans hb4⟩
      rw [show (pre ++ [x]).length = pre.length + 1 by simp, List.map_append, List.map_cons, List.map_nil, ints_snoc, ← HY.out]
      exact hr4
    · go_simp
      go_at_call 109
      refine (misses_any ad n cap K L t (by omega) y hyn n _ hRW).mono ?_
      rintro e w2 ⟨⟨r, rfl, hr1, -⟩, hb2⟩
      obtain rfl : r = mis t L y n := hr1 (by omega)
      dsimp only
      have hv2 := hvd.kept (grown_of_below hb2 none) (by simp)
      have hvc2 := hv2.cell
      have hrow2 := own_below hrowd hb2
      have hz2 : W.drew.heap.size ≤ w2.heap.size := hb2.size
      have hz2' : W.heap.size ≤ w2.heap.size := hz2
      have hcl2 : c + 2 < w2.heap.size := by omega
      have hS2 : w2.cell? ⟨c, 0, none⟩ = some (.slice ad n cap) ∧ w2.cell? ⟨c, 1, none⟩ = some (.int .i64 K) ∧ w2.cell? ⟨c + 1, 0, none⟩ = some (.string t) := ⟨(hb2.cell (p := ⟨c, 0, none⟩) (show c < W.heap.size by omega)).trans e0, (hb2.cell (p := ⟨c, 1, none⟩) (show c < W.heap.size by omega)).trans e1, (hb2.cell (p := ⟨c + 1, 0, none⟩) (show c + 1 < W.heap.size by omega)).trans e2⟩
      refine hK.out _ _ hS2 (fun hH => ?_)
      try simp only [Act.put, List.setIfInBounds_toArray, List.set_cons_zero, List.set_cons_succ]
      clear hK Kc
      refine wpAnyH_ready (rs := [0, 8]) (by kernel_rfl) (by simp) ?_
      refine AllReadyH.cons rfl (fun Kc hK => ?_) (AllReadyH.cons rfl (fun Kc hK => ?_) AllReadyH.nil)
      · go_simp
        refine hK.out _ _ hS2 (fun hH => ?_)
        try simp only [Act.put, List.setIfInBounds_toArray, List.set_cons_zero, List.set_cons_succ]
        clear hK Kc
        refine wpAnyH_ready (rs := [8]) (by kernel_rfl) (by simp) ?_
        refine AllReadyH.cons rfl (fun Kc hK => ?_) AllReadyH.nil
        go_simp
        have hS3 : (w2.alloc (.cells #[.int .i64 (mis t L y n : Nat)] 3)).cell? ⟨c, 0, none⟩ = some (.slice ad n cap) ∧ (w2.alloc (.cells #[.int .i64 (mis t L y n : Nat)] 3)).cell? ⟨c, 1, none⟩ = some (.int .i64 K) ∧ (w2.alloc (.cells #[.int .i64 (mis t L y n : Nat)] 3)).cell? ⟨c + 1, 0, none⟩ = some (.string t) := by have l0 : c < w2.heap.size := (by omega); have l1 : c + 1 < w2.heap.size := (by omega); obtain ⟨s0, s1, s2⟩ := hS2; refine ⟨?_, ?_, ?_⟩ <;> simp [go_sem, l0, l1, s0, s1, s2]
        refine hK.out _ _ hS3 (fun hH => ?_)
        try simp only [Act.put, List.setIfInBounds_toArray, List.set_cons_zero, List.set_cons_succ]
        clear hK Kc
        refine wpAnyH_ready (rs := [9]) (by kernel_rfl) (by simp) ?_
        refine AllReadyH.cons (o := { dst := some 20, op := .call { callee := .builtin .append, args := #[.tmp 11, .tmp 19], argTypes := #[48, 48] }, type := 48, pos := "naive.go:54", after := #[{ on := 0, ground := .data }, { on := 8, ground := .data }, { on := 7, ground := .chain }], guard := none }) rfl (fun Kc hK => ?_) AllReadyH.nil
        refine step_app2 (w0 := w2) elem48 (by with_reducible rfl) (.tmp 11) (.tmp 19) (by with_reducible rfl) (v := .slice ad1 pre.length cap1) (n := pre.length) (by rfl) hrow2 [.int .i64 (mis t L y n : Nat)] (by rfl) (by rfl) (by simp [Value.oneCell']) (by unfold maxLen; omega) (by omega) (by omega) ?_
        intro v3 w3 hown3 hgrow3
        obtain ⟨g3, cap3, rfl⟩ := ownsRow_succ hown3
        obtain ⟨hv3, hv4, hr4, hk4, hb4, hc4⟩ := Boxed.appended2 hv2 (m := c) (by decide) hrow2 (by omega) (by omega) (by omega) hown3 hgrow3
        have hvc3 := hv3.cell
        have hvf3 := hv3.frozen
        have hS5 : (w3.setCell ⟨c + 2, 0, none⟩ (.slice (some ⟨g3, 0, none⟩) (pre.length + 1) cap3)).cell? ⟨c, 0, none⟩ = some (.slice ad n cap) ∧ (w3.setCell ⟨c + 2, 0, none⟩ (.slice (some ⟨g3, 0, none⟩) (pre.length + 1) cap3)).cell? ⟨c, 1, none⟩ = some (.int .i64 K) ∧ (w3.setCell ⟨c + 2, 0, none⟩ (.slice (some ⟨g3, 0, none⟩) (pre.length + 1) cap3)).cell? ⟨c + 1, 0, none⟩ = some (.string t) := ⟨(hc4 c 0 (by omega) (by omega)).trans hS2.1, (hc4 c 1 (by omega) (by omega)).trans hS2.2.1, (hc4 (c + 1) 0 (by omega) (by omega)).trans hS2.2.2⟩
        have hS4 : w3.cell? ⟨c, 0, none⟩ = some (.slice ad n cap) ∧ w3.cell? ⟨c, 1, none⟩ = some (.int .i64 K) ∧ w3.cell? ⟨c + 1, 0, none⟩ = some (.string t) := ⟨(World.cell?_setCell_far w3 ⟨c + 2, 0, none⟩ ⟨c, 0, none⟩ (.slice (some ⟨g3, 0, none⟩) (pre.length + 1) cap3) (by simp)).symm.trans hS5.1, (World.cell?_setCell_far w3 ⟨c + 2, 0, none⟩ ⟨c, 1, none⟩ (.slice (some ⟨g3, 0, none⟩) (pre.length + 1) cap3) (by simp)).symm.trans hS5.2.1, (World.cell?_setCell_far w3 ⟨c + 2, 0, none⟩ ⟨c + 1, 0, none⟩ (.slice (some ⟨g3, 0, none⟩) (pre.length + 1) cap3) (by simp)).symm.trans hS5.2.2⟩
        refine hK.out _ _ hS4 (fun hH => ?_)
        try simp only [Act.put, List.setIfInBounds_toArray, List.set_cons_zero, List.set_cons_succ]
        clear hK Kc
        refine wpAnyH_ready (rs := [10]) (by kernel_rfl) (by simp) ?_
        refine AllReadyH.cons rfl (fun Kc hK => ?_) AllReadyH.nil
        go_simp
        refine hK.out _ _ hS5 (fun hH => ?_)
        try simp only [Act.put, List.setIfInBounds_toArray, List.set_cons_zero, List.set_cons_succ]
        clear hK Kc
        refine wpAnyH_done (by kernel_rfl) ?_ _
        gi_wp2
        refine ⟨KeepsOthers.from ((KeepsOthers.drew W).trans ((KeepsOthers.of_grownBy (grown_of_below hb2 none) (by simp)).trans hk4)) _, ⟨((Below.refl c W).drew.trans (hb2.mono (show c ≤ W.heap.size by omega))).trans hb4, fun b o h1 h2 => (hc4 b o (by omega) (by omega)).trans (hb2.cell (p := ⟨b, o, none⟩) (show b < W.heap.size by omega))⟩, ⟨hS5, _, hv4, ?_⟩, (hB.trans ((Below.refl c W).drew.trans (hb2.mono (show c ≤ W.heap.size by omega)))).trans hb4⟩
        rw [show (pre ++ [x]).length = pre.length + 1 by simp, List.map_append, List.map_cons, List.map_nil, ints_snoc, ← HY.out]
        exact hr4
      · go_simp
        have hS3 : (w2.alloc (.cells #[.int .i64 (mis t L y n : Nat)] 3)).cell? ⟨c, 0, none⟩ = some (.slice ad n cap) ∧ (w2.alloc (.cells #[.int .i64 (mis t L y n : Nat)] 3)).cell? ⟨c, 1, none⟩ = some (.int .i64 K) ∧ (w2.alloc (.cells #[.int .i64 (mis t L y n : Nat)] 3)).cell? ⟨c + 1, 0, none⟩ = some (.string t) := by have l0 : c < w2.heap.size := (by omega); have l1 : c + 1 < w2.heap.size := (by omega); obtain ⟨s0, s1, s2⟩ := hS2; refine ⟨?_, ?_, ?_⟩ <;> simp [go_sem, l0, l1, s0, s1, s2]
        refine hK.out _ _ hS3 (fun hH => ?_)
        try simp only [Act.put, List.setIfInBounds_toArray, List.set_cons_zero, List.set_cons_succ]
        clear hK Kc
        refine wpAnyH_ready (rs := [0]) (by kernel_rfl) (by simp) ?_
        refine AllReadyH.cons rfl (fun Kc hK => ?_) AllReadyH.nil
        go_simp
        refine hK.out _ _ hS3 (fun hH => ?_)
        try simp only [Act.put, List.setIfInBounds_toArray, List.set_cons_zero, List.set_cons_succ]
        clear hK Kc
        refine wpAnyH_ready (rs := [9]) (by kernel_rfl) (by simp) ?_
        refine AllReadyH.cons (o := { dst := some 20, op := .call { callee := .builtin .append, args := #[.tmp 11, .tmp 19], argTypes := #[48, 48] }, type := 48, pos := "naive.go:54", after := #[{ on := 0, ground := .data }, { on := 8, ground := .data }, { on := 7, ground := .chain }], guard := none }) rfl (fun Kc hK => ?_) AllReadyH.nil
        refine step_app2 (w0 := w2) elem48 (by with_reducible rfl) (.tmp 11) (.tmp 19) (by with_reducible rfl) (v := .slice ad1 pre.length cap1) (n := pre.length) (by rfl) hrow2 [.int .i64 (mis t L y n : Nat)] (by rfl) (by rfl) (by simp [Value.oneCell']) (by unfold maxLen; omega) (by omega) (by omega) ?_
        intro v3 w3 hown3 hgrow3
        obtain ⟨g3, cap3, rfl⟩ := ownsRow_succ hown3
        obtain ⟨hv3, hv4, hr4, hk4, hb4, hc4⟩ := Boxed.appended2 hv2 (m := c) (by decide) hrow2 (by omega) (by omega) (by omega) hown3 hgrow3
        have hvc3 := hv3.cell
        have hvf3 := hv3.frozen
        have hS5 : (w3.setCell ⟨c + 2, 0, none⟩ (.slice (some ⟨g3, 0, none⟩) (pre.length + 1) cap3)).cell? ⟨c, 0, none⟩ = some (.slice ad n cap) ∧ (w3.setCell ⟨c + 2, 0, none⟩ (.slice (some ⟨g3, 0, none⟩) (pre.length + 1) cap3)).cell? ⟨c, 1, none⟩ = some (.int .i64 K) ∧ (w3.setCell ⟨c + 2, 0, none⟩ (.slice (some ⟨g3, 0, none⟩) (pre.length + 1) cap3)).cell? ⟨c + 1, 0, none⟩ = some (.string t) := ⟨(hc4 c 0 (by omega) (by omega)).trans hS2.1, (hc4 c 1 (by omega) (by omega)).trans hS2.2.1, (hc4 (c + 1) 0 (by omega) (by omega)).trans hS2.2.2⟩
        have hS4 : w3.cell? ⟨c, 0, none⟩ = some (.slice ad n cap) ∧ w3.cell? ⟨c, 1, none⟩ = some (.int .i64 K) ∧ w3.cell? ⟨c + 1, 0, none⟩ = some (.string t) := ⟨(World.cell?_setCell_far w3 ⟨c + 2, 0, none⟩ ⟨c, 0, none⟩ (.slice (some ⟨g3, 0, none⟩) (pre.length + 1) cap3) (by simp)).symm.trans hS5.1, (World.cell?_setCell_far w3 ⟨c + 2, 0, none⟩ ⟨c, 1, none⟩ (.slice (some ⟨g3, 0, none⟩) (pre.length + 1) cap3) (by simp)).symm.trans hS5.2.1, (World.cell?_setCell_far w3 ⟨c + 2, 0, none⟩ ⟨c + 1, 0, none⟩ (.slice (some ⟨g3, 0, none⟩) (pre.length + 1) cap3) (by simp)).symm.trans hS5.2.2⟩
        refine hK.out _ _ hS4 (fun hH => ?_)
        try simp only [Act.put, List.setIfInBounds_toArray, List.set_cons_zero, List.set_cons_succ]
        clear hK Kc
        refine wpAnyH_ready (rs := [10]) (by kernel_rfl) (by simp) ?_
        refine AllReadyH.cons rfl (fun Kc hK => ?_) AllReadyH.nil
        go_simp
        refine hK.out _ _ hS5 (fun hH => ?_)
        try simp only [Act.put, List.setIfInBounds_toArray, List.set_cons_zero, List.set_cons_succ]
        clear hK Kc
        refine wpAnyH_done (by kernel_rfl) ?_ _
        gi_wp2
        refine ⟨KeepsOthers.from ((KeepsOthers.drew W).trans ((KeepsOthers.of_grownBy (grown_of_below hb2 none) (by simp)).trans hk4)) _, ⟨((Below.refl c W).drew.trans (hb2.mono (show c ≤ W.heap.size by omega))).trans hb4, fun b o h1 h2 => (hc4 b o (by omega) (by omega)).trans (hb2.cell (p := ⟨b, o, none⟩) (show b < W.heap.size by omega))⟩, ⟨hS5, _, hv4, ?_⟩, (hB.trans ((Below.refl c W).drew.trans (hb2.mono (show c ≤ W.heap.size by omega)))).trans hb4⟩
        rw [show (pre ++ [x]).length = pre.length + 1 by simp, List.map_append, List.map_cons, List.map_nil, ints_snoc, ← HY.out]
        exact hr4
  case done =>
    rintro D ys W hD rfl ⟨⟨⟨e0, e1, e2⟩, v, hv, hrow, -⟩, hB⟩ hK
    obtain ⟨ad1, cap1, rfl⟩ := own_slice hrow
    have hvc := hv.cell
    gi_wp2
    refine ⟨by simp, .inl ⟨_, _, rfl, run_takeDeferred hK, ?_⟩⟩
    have hcw' : w.heap.size ≤ c := by have := HCW.out; omega
    have hbe := belowK_b (w := w) (Nat.le_refl _) W D _ (.deferred none) (by omega) hK rfl rfl
    have hB' : Below w.heap.size w W := (hBw1.trans hB).mono hcw'
    have hrow' := own_le (ownsRow_putObj hrow (.deferred none) hK rfl) (show w.heap.size ≤ c + 6 by omega)
    rw [plc_length, pw_map t n L K 0 _ (Nat.le_refl _) (fun q => ((mis t L q n : Nat) : Int))] at hrow'
    exact ⟨_, results_tmp rfl _ _ _, _, by rw [plc_length]; rfl, hrow', hB'.trans hbe⟩
  case stop =>
    rintro D cc pre W _ _ h _
    exact h.elim
end Go.Proofs.Ytkhcjjdamphbfaa
