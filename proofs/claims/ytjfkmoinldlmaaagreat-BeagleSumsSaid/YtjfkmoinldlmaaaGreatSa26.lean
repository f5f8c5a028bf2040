/- Walks of eval.Leaf and of feed. -/
import Derived.Test.YtjfkmoinldlmaaaGreatSa25
namespace Go.Proofs.YtjfkmoinldlmaaaGreat
open Go.RowKit Go.Shelf

set_option maxRecDepth 100000 in
set_option maxHeartbeats 4000000 in
theorem leaf_ev (ad : Option Addr) (n cap : Nat) (K F sz : Int) (L : Nat → Nat → Bool) (t : ByteArray) (hn : (n : Int) ≤ 1000) (ht : t.size ≤ 1000) (hr : rightB n L K = true) (w : World) (hR : RowC w ad n L w.heap.size) :
    Calls Tryz.prog 163 #[lv ad n cap K, .string t, .agg #[.int .i64 F, .int .i64 sz]] w fun e w' => ∃ v z, e = .returned (.tuple #[v, .int .i64 z, .int .i64 0]) ∧ w'.ownsRow w.heap.size 3 1 v (occ t n L K).length (ints (occ t n L K)) ∧ Below w.heap.size w w' := by
  have h1 := Lib.hid fun w' (h : RowC w' ad n L w'.heap.size) => way_any ad n cap K (t.size : Int) F sz L hn (by omega) w' h
  have h2 := Lib.hid fun w' => size_any ad n cap K (t.size : Int) F sz hn (by omega) w'
  have hs := way_sized F sz (t.size : Int) K L n hr
  have h3 := Lib.hid fun w' (h : RowC w' ad n L w'.heap.size) => mfind_any (wayV F sz (t.size : Int) K L n) ad n cap K L t (szV n (t.size : Int) sz) ht hs w' h
  clear hs
  generalize wayV F sz (t.size : Int) K L n = way at *
  generalize szV n (t.size : Int) sz = size at *
  generalize occ t n L K = oc at *
  have hL := HoldsL.new w ad n cap K
  have hG := HoldsG.new (w.alloc (.cells #[.slice ad n cap, .int .i64 K] 52)) F sz
  have hA1 := (Below.refl (w.heap.size + 1) (w.alloc (.cells #[.slice ad n cap, .int .i64 K] 52))).alloc (by simp) (.cells #[.int .i64 F, .int .i64 sz] 35)
  have hL2 := hL.below hA1 (Nat.lt_succ_self _)
  have hA : Below w.heap.size w ((w.alloc (.cells #[.slice ad n cap, .int .i64 K] 52)).alloc (.cells #[.int .i64 F, .int .i64 sz] 35)) := ((Below.refl _ _).alloc (Nat.le_refl _) _).alloc (by simp) _
  rw [World.size_alloc] at hG
  obtain ⟨c0, c1, cl⟩ := hL2
  obtain ⟨d0, d1, dl⟩ := hG
  have HR := Lib.hid ((hR.below hA (Nat.le_refl _)).mono hA.size)
  have HA := Lib.hid hA
  clear hR hL hA1 hA
  go_enter Tryz.func163, Tryz.ntmps163
  go_wp2_with fail
  generalize ((w.alloc (.cells #[.slice ad n cap, .int .i64 K] 52)).alloc (.cells #[.int .i64 F, .int .i64 sz] 35)) = W0 at HR HA c0 c1 cl d0 d1 dl ⊢
  go_region_held3 (fun w' => Old W0 w') (first | with_reducible exact Old.start _ | with_reducible exact Old.calld (Old.refl _) (by with_reducible assumption) | with_reducible exact Old.call (by with_reducible assumption) (by with_reducible assumption)) (first | (go_at_call 212; refine (h1.out _ ((HR.out.below (show Old W0 _ by with_reducible assumption).2.2.2 (Nat.le_refl _)).mono (show Old W0 _ by with_reducible assumption).2.2.1)).mono ?_; rintro e w1 ⟨rfl, hb1⟩) | (go_at_call 213; refine (h2.out _).mono ?_; rintro e w2 ⟨rfl, hb2⟩) | (go_at_call 19; refine (h3.out _ ((HR.out.below (show Old W0 _ by with_reducible assumption).2.2.2 (Nat.le_refl _)).mono (show Old W0 _ by with_reducible assumption).2.2.1)).mono ?_; rintro e w3 ⟨v3, z3, rfl, ho3, hb3⟩))
  have hO : Below W0.heap.size W0 w3 := (show Old W0 w3 by with_reducible assumption).2.2.2
  have hzz : w.heap.size ≤ w2.heap.size := Nat.le_trans HA.out.size (by have h1 := hb2.size; have h2 := hb1.size; simp only [World.drew] at *; omega)
  go_wp2_with fail
  refine bodyPost_ret (results_tmp3 rfl _ _ _) rfl ?_
  exact ⟨v3, z3, rfl, own_le ho3 hzz, HA.out.trans (hO.mono HA.out.size)⟩
end Go.Proofs.YtjfkmoinldlmaaaGreat

/- Whole blocks; walks of feed.New and feed.Read. -/
namespace Go.Proofs.YtjfkmoinldlmaaaGreat
open Go.RowKit Go.Shelf

/-- Block B is this object. -/
def At (w : World) (B : Nat) (o : Obj) : Prop := w.heap[B]? = some o
theorem At.lt {w : World} {B : Nat} {o : Obj} (h : At w B o) : B < w.heap.size := (Array.getElem?_eq_some_iff.1 h).1
theorem At.kept {w w' : World} {B : Nat} {o : Obj} {row : Option Nat} (h : At w B o) (hg : w.grownBy w' row) (hne : some B ≠ row) : At w' B o := (hg.block B h.lt hne).trans h
theorem At.below {w w' : World} {B n : Nat} {o : Obj} (h : At w B o) (hb : Below n w w') (hn : B < n) : At w' B o := (hb.block B hn).trans h
theorem At.new (w : World) (o : Obj) : At (w.alloc o) w.heap.size o := World.alloc_heap_new w o
theorem At.alloc {w : World} {B : Nat} {o : Obj} (h : At w B o) (o' : Obj) : At (w.alloc o') B o := h.kept (World.grownBy_alloc w o' none) (by simp)
theorem At.far {w : World} {B : Nat} {o : Obj} (h : At w B o) {p : Addr} (hp : p.block ≠ B) (v : Value) : At (w.setCell p v) B o := (Below.heap_setCell _ _ _ B (fun e => hp e.symm)).trans h
theorem At.cell {w : World} {B : Nat} {cs : Array Value} {t : TypeId} {fz : Nat × Nat} (h : At w B (.cells cs t fz)) (j : Nat) : w.cell? ⟨B, j, none⟩ = cs[j]? := by
  unfold At at h; simp [World.cell?, h]
theorem At.free {w : World} {B : Nat} {cs : Array Value} {t : TypeId} (h : At w B (.cells cs t (0, 0))) (j : Nat) : w.frozen? ⟨B, j, none⟩ = false := by
  unfold At at h; simp [World.frozen?, h]
theorem At.set {w : World} {B : Nat} {cs : Array Value} {t : TypeId} {fz : Nat × Nat} (h : At w B (.cells cs t fz)) (j : Nat) (v : Value) : At (w.setCell ⟨B, j, none⟩ v) B (.cells (cs.setIfInBounds j v) t fz) := by
  have hl := (Array.getElem?_eq_some_iff.1 h)
  obtain ⟨h1, h2⟩ := hl
  unfold At
  simp [World.setCell, h1, Array.getElem_modify_self, h2]

/-- A feed. -/
abbrev feedC (t : ByteArray) (ad : Option Addr) (n cap : Nat) (fr to en : Int) : Obj := .cells #[.string t, .slice ad n cap, .int .i64 fr, .int .i64 to, .int .i64 en] 132
structure FeedSt (w : World) (fp : Nat) (t : ByteArray) (ps : List Int) (fr to : Nat) (en : Int) : Prop where
  at_ : ∃ ad cap, At w fp (feedC t ad ps.length cap fr to en) ∧ RowI w ad ps.length (gi ps) fp ∧ ps.length ≤ cap
  le : fr ≤ to
  le2 : to ≤ t.size
theorem FeedSt.kept {w w' : World} {fp : Nat} {t : ByteArray} {ps : List Int} {fr to : Nat} {en : Int} {m : Nat} (h : FeedSt w fp t ps fr to en) (hb : Below m w w') (hm : fp < m) : FeedSt w' fp t ps fr to en := by
  obtain ⟨⟨ad, cap, h1, h2, h3⟩, h4, h5⟩ := h
  exact ⟨⟨ad, cap, h1.below hb hm, h2.below hb (by omega), h3⟩, h4, h5⟩
/-- How much is read. -/
def rdN (ps : List Int) (left : Nat) : Nat := match ps with
  | [] => left
  | p :: _ => (max 0 (min (left : Int) p)).toNat
theorem rdN_le (ps : List Int) (left : Nat) : rdN ps left ≤ left := by
  unfold rdN
  split <;> omega

set_option maxRecDepth 100000 in
theorem eq_span (a b c d : Int) (w : World) : (binOp .eql 130 (.agg #[.int .i64 a, .int .i64 b]) (.agg #[.int .i64 c, .int .i64 d])).run Tryz.prog w = .ok (.bool (a == c && b == d)) w := by
  have hf : (Tryz.prog.fieldsOf 130).toList.map (fun f => (f.name, f.type, f.offset)) = [("from", 3, 0), ("to", 3, 1)] := by kernel_rfl
  have hp : ∀ (x y : Value) (w : World), (part 3 #[x, y] 0).run Tryz.prog w = .ok x w ∧ (part 3 #[x, y] 1).run Tryz.prog w = .ok y w := fun x y w => ⟨by kernel_rfl, by kernel_rfl⟩
  have he : ∀ a b : Int, (Op.equalIn 9999 3 (.int .i64 a) (.int .i64 b)).run Tryz.prog w = .ok (a == b) w := fun a b => run_equalIn_int w 9998 3 .i64 .i64 a b Tryz.underlying3
  rw [run_eql_struct, show (10000 : Nat) = 9999 + 1 from rfl, run_equalIn_agg w 9999 130 _ _ (by kernel_rfl) (by kernel_rfl)]
  generalize (Tryz.prog.fieldsOf 130).toList = fs at hf
  obtain ⟨f0, fs, rfl, h0, hf⟩ : ∃ f0 fs', fs = f0 :: fs' ∧ (f0.name, f0.type, f0.offset) = ("from", 3, 0) ∧ fs'.map (fun f => (f.name, f.type, f.offset)) = [("to", 3, 1)] := by
    cases fs with
    | nil => simp at hf
    | cons f0 fs' => simp only [List.map_cons, List.cons.injEq] at hf; exact ⟨f0, fs', rfl, hf.1, hf.2⟩
  obtain ⟨f1, fs, rfl, h1, hf⟩ : ∃ f1 fs', fs = f1 :: fs' ∧ (f1.name, f1.type, f1.offset) = ("to", 3, 1) ∧ fs'.map (fun f => (f.name, f.type, f.offset)) = [] := by
    cases fs with
    | nil => simp at hf
    | cons f1 fs' => simp only [List.map_cons, List.cons.injEq] at hf; exact ⟨f1, fs', rfl, hf.1, hf.2⟩
  obtain rfl : fs = [] := by simpa using hf
  simp only [Prod.mk.injEq] at h0 h1
  obtain ⟨n0, t0, o0⟩ := h0
  obtain ⟨n1, t1, o1⟩ := h1
  have hu0 : f0.name ≠ "_" := by rw [n0]; decide
  have hu1 : f1.name ≠ "_" := by rw [n1]; decide
  simp only [Op.eqFields, if_pos hu0, if_pos hu1, t0, o0, t1, o1, Sem.run_bind, (hp _ _ w).1, (hp _ _ w).2, he, Result.andThen_ok, Sem.run_ite, Sem.run_pure]
  cases h : a == c <;> cases h2 : b == d <;> simp

set_option maxRecDepth 100000 in
set_option maxHeartbeats 4000000 in
theorem read_end (fp : Nat) (t : ByteArray) (ps : List Int) (to : Nat) (en : Int) (w : World) (h : FeedSt w fp t ps to to en) :
    Calls Tryz.prog 60 #[.pointer (some ⟨fp, 0, none⟩)] w fun e w' => e = .returned (.tuple #[.string ⟨#[]⟩, .int .i64 en]) ∧ Below w.heap.size w w' := by
  obtain ⟨⟨ad, cap, ha, -, -⟩, -, -⟩ := h
  have c2 := ha.cell 2
  have c3 := ha.cell 3
  have c4 := ha.cell 4
  have hl := ha.lt
  simp only [List.getElem?_toArray, List.getElem?_cons_zero, List.getElem?_cons_succ] at c2 c3 c4
  have hA : Below w.heap.size w (w.alloc (.cells #[.int .i64 to, .int .i64 to] 130)) := (Below.refl _ _).alloc (Nat.le_refl _) _
  clear ha
  go_enter Tryz.func60, Tryz.ntmps60
  go_wp2_with fail
  have heq := eq_span
  go_region
  go_wp2_with fail
  go_region
  go_wp2_with fail
  go_region
  go_wp2_with fail
  go_ret2
  exact ⟨rfl, hA.drew.drew.drew⟩
end Go.Proofs.YtjfkmoinldlmaaaGreat
