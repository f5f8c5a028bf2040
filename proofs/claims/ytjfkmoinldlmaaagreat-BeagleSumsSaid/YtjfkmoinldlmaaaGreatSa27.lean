/- Walks of package query at a tree of one node. -/
import Derived.Test.YtjfkmoinldlmaaaGreatSa26
import Derived.Handy
import Derived.Test.YtjfkmoinldlmaaaGreatSa10
import Derived.Laws.EntriesVeiled
namespace Go.Proofs.YtjfkmoinldlmaaaGreat
open Go.RowKit Go.Shelf

abbrev ndv (k N : Int) (ad : Option Addr) (n cap : Nat) (K : Int) : Value := .agg #[.int .i64 k, .int .i64 N, .slice ad n cap, .int .i64 K]
/-- One node, at block Q. -/
structure One (w : World) (Q : Nat) (ad : Option Addr) (n cap : Nat) (K : Int) : Prop where
  c0 : w.cell? ⟨Q, 0, none⟩ = some (.int .i64 1)
  c1 : w.cell? ⟨Q, 1, none⟩ = some (.int .i64 0)
  c2 : w.cell? ⟨Q, 2, none⟩ = some (.slice ad n cap)
  c3 : w.cell? ⟨Q, 3, none⟩ = some (.int .i64 K)
  lt : Q < w.heap.size
theorem One.below {w w' : World} {Q : Nat} {ad : Option Addr} {n cap m : Nat} {K : Int} (h : One w Q ad n cap K) (hb : Below m w w') (hm : Q < m) : One w' Q ad n cap K := by
  obtain ⟨h0, h1, h2, h3, h4⟩ := h
  exact ⟨(hb.cell (p := ⟨Q, 0, none⟩) hm).trans h0, (hb.cell (p := ⟨Q, 1, none⟩) hm).trans h1, (hb.cell (p := ⟨Q, 2, none⟩) hm).trans h2, (hb.cell (p := ⟨Q, 3, none⟩) hm).trans h3, Nat.lt_of_lt_of_le h4 hb.size⟩
theorem One.new (w : World) (ad : Option Addr) (n cap : Nat) (K : Int) : One (w.alloc (.cells #[.int .i64 1, .int .i64 0, .slice ad n cap, .int .i64 K] 81)) w.heap.size ad n cap K := by
  refine ⟨?_, ?_, ?_, ?_, by simp⟩ <;> simp

set_option maxRecDepth 100000 in
set_option maxHeartbeats 4000000 in
theorem arity_one (ad : Option Addr) (n cap : Nat) (K : Int) (w : World) :
    Calls Tryz.prog 211 #[ndv 1 0 ad n cap K] w fun e w' => e = .returned (.int .i64 0) ∧ Below w.heap.size w w' := by
  have hA : Below w.heap.size w (w.alloc (.cells #[.int .i64 1, .int .i64 0, .slice ad n cap, .int .i64 K] 81)) := (Below.refl _ _).alloc (Nat.le_refl _) _
  obtain ⟨c0, c1, c2, c3, cl⟩ := One.new w ad n cap K
  go_enter Tryz.func211, Tryz.ntmps211
  go_wp2_with fail
  go_ret
  exact ⟨rfl, hA⟩

set_option maxRecDepth 100000 in
set_option maxHeartbeats 4000000 in
theorem size_one (Q cq : Nat) (ad : Option Addr) (n cap : Nat) (K : Int) (w : World) (h : One w Q ad n cap K) :
    Calls Tryz.prog 159 #[.slice (some ⟨Q, 0, none⟩) 1 cq] w fun e w' => e = .returned (.int .i64 1) ∧ Below w.heap.size w w' := by
  have hA : Below w.heap.size w (w.alloc (.cells #[.int .i64 1, .int .i64 0, .slice ad n cap, .int .i64 K] 81)) := (Below.refl _ _).alloc (Nat.le_refl _) _
  obtain ⟨c0, c1, c2, c3, cl⟩ := One.new w ad n cap K
  obtain ⟨d0, d1, d2, d3, dl⟩ := h
  have h1 := Lib.hid fun w' => arity_one ad n cap K w'
  go_enter Tryz.func159, Tryz.ntmps159
  go_wp2_with fail
  go_step3
  go_wp2_with fail
  go_step3
  go_wp2_with fail
  refine wp_loop_rounds 1 ?_
  rw [rounds_succ]
  go_wp2_with (go_at_call 211; refine (h1.out _).mono ?_; rintro e w1 ⟨rfl, hb1⟩)
  rw [Exit.noGoto_ret]
  go_ret
  exact ⟨rfl, hA.trans (hb1.mono (by simp))⟩
set_option maxRecDepth 100000 in
set_option maxHeartbeats 4000000 in
theorem deep_one (Q cq : Nat) (ad : Option Addr) (n cap : Nat) (K : Int) (w : World) (h : One w Q ad n cap K) :
    Calls Tryz.prog 160 #[.slice (some ⟨Q, 0, none⟩) 1 cq] w fun e w' => e = .returned (.int .i64 1) ∧ Below w.heap.size w w' := by
  obtain ⟨d0, d1, d2, d3, dl⟩ := h
  have h1 := Lib.hid fun w' => arity_one ad n cap K w'
  go_enter Tryz.func160, Tryz.ntmps160
  go_wp2_with (go_at_call 211; refine (h1.out _).mono ?_; rintro e w1 ⟨rfl, hb1⟩)
  refine wp_loop_rounds 1 ?_
  rw [rounds_succ]
  go_wp2_with fail
  go_ret
  exact ⟨rfl, hb1⟩

set_option maxRecDepth 100000 in
set_option maxHeartbeats 4000000 in
theorem depth_one (Q cq : Nat) (ad : Option Addr) (n cap : Nat) (K : Int) (w : World) (h : One w Q ad n cap K) :
    Calls Tryz.prog 105 #[.slice (some ⟨Q, 0, none⟩) 1 cq] w fun e w' => e = .returned (.int .i64 1) ∧ Below w.heap.size w w' := by
  have h1 := Lib.hid fun w' h => size_one Q cq ad n cap K w' h
  have h2 := Lib.hid fun w' h => deep_one Q cq ad n cap K w' h
  have H := Lib.hid h
  clear h
  go_enter Tryz.func105, Tryz.ntmps105
  go_wp2_with (first | (go_at_call 159; refine (h1.out _ H.out).mono ?_; rintro e w1 ⟨rfl, hb1⟩) | (go_at_call 160; refine (h2.out _ (H.out.below hb1 H.out.lt)).mono ?_; rintro e w2 ⟨rfl, hb2⟩))
  go_ret
  exact ⟨rfl, hb1.trans (hb2.mono hb1.size)⟩

set_option maxRecDepth 100000 in
set_option maxHeartbeats 4000000 in
theorem node_one (ad : Option Addr) (n cap : Nat) (K : Int) (L : Nat → Nat → Bool) (hn : (n : Int) ≤ 4611686018427387904) (w : World) (hR : RowC w ad n L w.heap.size) :
    Calls Tryz.prog 165 #[ndv 1 0 ad n cap K] w fun e w' => e = .returned (.bool (rightB n L K)) ∧ Below w.heap.size w w' := by
  have hA : Below w.heap.size w (w.alloc (.cells #[.int .i64 1, .int .i64 0, .slice ad n cap, .int .i64 K] 81)) := (Below.refl _ _).alloc (Nat.le_refl _) _
  obtain ⟨c0, c1, c2, c3, cl⟩ := One.new w ad n cap K
  have h1 := Lib.hid fun w' (h : RowC w' ad n L w'.heap.size) => right_any ad n cap K L hn w' h
  have HR := Lib.hid ((hR.below hA.drew (Nat.le_refl _)).mono hA.drew.size)
  clear hR
  go_enter Tryz.func165, Tryz.ntmps165
  go_wp2_with fail
  go_region
  go_wp2_with (go_at_call 134; refine (h1.out _ HR.out).mono ?_; rintro e w1 ⟨rfl, hb1⟩)
  go_ret
  exact ⟨rfl, hA.drew.trans (hb1.mono hA.drew.size)⟩

set_option maxRecDepth 100000 in
set_option maxHeartbeats 4000000 in
theorem right1_one (ad : Option Addr) (n cap : Nat) (K : Int) (L : Nat → Nat → Bool) (hn : (n : Int) ≤ 4611686018427387904) (w : World) (hR : RowC w ad n L w.heap.size) :
    Calls Tryz.prog 164 #[ndv 1 0 ad n cap K] w fun e w' => e = .returned (.bool (!rightB n L K)) ∧ Below w.heap.size w w' := by
  have hA : Below w.heap.size w (w.alloc (.cells #[.int .i64 1, .int .i64 0, .slice ad n cap, .int .i64 K] 81)) := (Below.refl _ _).alloc (Nat.le_refl _) _
  obtain ⟨c0, c1, c2, c3, cl⟩ := One.new w ad n cap K
  have h1 := Lib.hid fun w' (h : RowC w' ad n L w'.heap.size) => node_one ad n cap K L hn w' h
  have HR := Lib.hid ((hR.below hA (Nat.le_refl _)).mono hA.size)
  clear hR
  go_enter Tryz.func164, Tryz.ntmps164
  go_wp2_with (go_at_call 165; refine (h1.out _ HR.out).mono ?_; rintro e w1 ⟨rfl, hb1⟩)
  go_ret
  exact ⟨rfl, hA.trans (hb1.mono hA.size)⟩

set_option maxRecDepth 100000 in
set_option maxHeartbeats 4000000 in
theorem plain1_one (ad : Option Addr) (n cap : Nat) (K : Int) (w : World) :
    Calls Tryz.prog 123 #[ndv 1 0 ad n cap K] w fun e w' => e = .returned (.bool false) ∧ Below w.heap.size w w' := by
  have hA : Below w.heap.size w (w.alloc (.cells #[.int .i64 1, .int .i64 0, .slice ad n cap, .int .i64 K] 81)) := (Below.refl _ _).alloc (Nat.le_refl _) _
  obtain ⟨c0, c1, c2, c3, cl⟩ := One.new w ad n cap K
  go_enter Tryz.func123, Tryz.ntmps123
  go_wp2_with fail
  go_ret
  exact ⟨rfl, hA⟩

set_option maxRecDepth 100000 in
set_option maxHeartbeats 4000000 in
theorem cont164_one (Q cq : Nat) (ad : Option Addr) (n cap : Nat) (K : Int) (L : Nat → Nat → Bool) (hn : (n : Int) ≤ 4611686018427387904) (hr : rightB n L K = true) (w : World) (h : One w Q ad n cap K) (hR : RowC w ad n L w.heap.size) :
    Calls Tryz.prog 171 #[.slice (some ⟨Q, 0, none⟩) 1 cq, .func (.func 164) #[] #[]] w fun e w' => e = .returned (.int .i64 (-1)) ∧ Below w.heap.size w w' := by
  obtain ⟨d0, d1, d2, d3, dl⟩ := h
  have h1 := Lib.hid (right1_one ad n cap K L hn w hR)
  rw [hr] at h1
  clear hR
  go_enter Tryz.func171, Tryz.ntmps171
  go_wp2_with fail
  refine wp_loop_rounds 2 ?_
  rw [rounds_succ]
  go_wp2_with (go_at_call 164; refine h1.out.mono ?_; rintro e w1 ⟨rfl, hb1⟩)
  rw [rounds_succ]
  go_wp2_with fail
  go_ret
  exact ⟨rfl, hb1⟩

set_option maxRecDepth 100000 in
set_option maxHeartbeats 4000000 in
theorem qright_one (Q cq : Nat) (ad : Option Addr) (n cap : Nat) (K : Int) (L : Nat → Nat → Bool) (hn : (n : Int) ≤ 4611686018427387904) (hr : rightB n L K = true) (w : World) (h : One w Q ad n cap K) (hR : RowC w ad n L w.heap.size) :
    Calls Tryz.prog 113 #[.slice (some ⟨Q, 0, none⟩) 1 cq] w fun e w' => e = .returned (.bool true) ∧ Below w.heap.size w w' := by
  have h0 : Calls Tryz.prog 122 #[.slice (some ⟨Q, 0, none⟩) 1 cq, .func (.func 164) #[] #[]] w fun e w' => e = .returned (.bool false) ∧ Below w.heap.size w w' := by
    have h1 := Lib.hid (cont164_one Q cq ad n cap K L hn hr w h hR)
    clear hR h hr
    go_enter Tryz.func122, Tryz.ntmps122
    go_wp2_with (go_at_call 171; refine h1.out.mono ?_; rintro e w1 ⟨rfl, hb1⟩)
    go_ret
    exact ⟨rfl, hb1⟩
  have h1 := Lib.hid h0
  have h2 := Lib.hid fun w' h => depth_one Q cq ad n cap K w' h
  have H := Lib.hid h
  clear h0 h hr hR
  go_enter Tryz.func113, Tryz.ntmps113
  go_wp2_with (first | (go_at_call 122; refine h1.out.mono ?_; rintro e w1 ⟨rfl, hb1⟩) | (go_at_call 105; refine (h2.out _ (H.out.below hb1 H.out.lt)).mono ?_; rintro e w2 ⟨rfl, hb2⟩))
  go_ret
  exact ⟨rfl, hb1.trans (hb2.mono hb1.size)⟩

/-- The cells of an owned row. -/
theorem own_at {w : World} {base : Nat} {e : TypeId} {size n : Nat} {v : Value} {xs : List Value} (h : w.ownsRow base e size v n xs) (hn : 0 < n) (hx : xs.length = n * size) : ∃ g cap, v = .slice (some ⟨g, 0, none⟩) n cap ∧ base ≤ g ∧ g < w.heap.size ∧ ∀ (j : Nat) u, xs[j]? = some u → w.cell? ⟨g, j, none⟩ = some u := by
  obtain ⟨g, cap, hv, hb, hl⟩ := own_form h hn
  subst hv
  refine ⟨g, cap, rfl, hb, hl, fun j u hj => ?_⟩
  have hi : j < xs.length := by
    rcases Nat.lt_or_ge j xs.length with h | h
    · exact h
    · rw [List.getElem?_eq_none h] at hj; cases hj
  rw [h.cellAt j (by omega)]
  exact hj

theorem elem82 : ElemT 82 52 2 32 := elem_of (z := .agg #[.slice none 0 0, .int .i64 0]) Tryz.underlying82 (by kernel_rfl) rfl (by decide)

set_option maxRecDepth 100000 in
set_option maxHeartbeats 4000000 in
theorem leaves_one (Q cq : Nat) (ad : Option Addr) (n cap : Nat) (K : Int) (w : World) (h : One w Q ad n cap K) :
    Calls Tryz.prog 109 #[.slice (some ⟨Q, 0, none⟩) 1 cq] w fun e w' => ∃ v, e = .returned v ∧ w'.ownsRow w.heap.size 52 2 v 1 [.slice ad n cap, .int .i64 K] ∧ Below w.heap.size w w' := by
  have hA : Below w.heap.size w (w.alloc (.cells #[.int .i64 1, .int .i64 0, .slice ad n cap, .int .i64 K] 81)) := (Below.refl _ _).alloc (Nat.le_refl _) _
  obtain ⟨c0, c1, c2, c3, cl⟩ := One.new w ad n cap K
  obtain ⟨d0, d1, d2, d3, dl⟩ := h
  have hown : (w.alloc (.cells #[.int .i64 1, .int .i64 0, .slice ad n cap, .int .i64 K] 81)).ownsRow w.heap.size 52 2 (.slice none 0 0) 0 [] := World.ownsRow_nil _ _ _ _
  go_enter Tryz.func109, Tryz.ntmps109
  go_wp2_with fail
  refine wp_loop_rounds 2 ?_
  rw [rounds_succ]
  go_wp2_with (at_builtin; go_loud (refine wpList_app elem82 rfl _ _ rfl rfl hown [.slice ad n cap, .int .i64 K] (by simp [go_sem]) rfl (by simp [Value.oneCell']) (by unfold maxLen; omega) (by omega) (by simp) ?_); intro v3 w3 hown3 hb3)
  rw [rounds_succ]
  go_wp2_with fail
  go_ret
  exact ⟨_, rfl, hown3, hA.trans hb3⟩

set_option maxRecDepth 100000 in
set_option maxHeartbeats 4000000 in
theorem longest_one (Q cq : Nat) (ad : Option Addr) (n cap : Nat) (K : Int) (h0 : 0 < n) (hn : (n : Int) ≤ 4611686018427387904) (w : World) (h : One w Q ad n cap K) :
    Calls Tryz.prog 107 #[.slice (some ⟨Q, 0, none⟩) 1 cq] w fun e w' => e = .returned (.int .i64 n) ∧ Below w.heap.size w w' := by
  have h1 := Lib.hid (leaves_one Q cq ad n cap K w h)
  have hM : (0 : Int) < (n : Int) := by omega
  clear h
  go_enter Tryz.func107, Tryz.ntmps107
  go_wp2_with (go_at_call 109; refine h1.out.mono ?_; rintro e w1 ⟨v, rfl, ho, hb1⟩; obtain ⟨b, cap1, rfl, hbw, hbl, f⟩ := own_at ho Nat.one_pos rfl; have f0 := f 0 (.slice ad n cap) rfl; have f1 := f 1 (.int .i64 K) rfl)
  refine wp_loop_rounds 2 ?_
  rw [rounds_succ]
  go_wp2_with fail
  rw [rounds_succ]
  go_wp2_with fail
  go_ret
  exact ⟨rfl, hb1.alloc hb1.size _⟩
end Go.Proofs.YtjfkmoinldlmaaaGreat

/- Walks of package eval at a query of one leaf, and a row of two places. -/
namespace Go.Proofs.YtjfkmoinldlmaaaGreat
open Go.RowKit Go.Shelf Go.Maps

/-- All blocks but some stay. -/
structure Ex (S : List Nat) (w w' : World) : Prop where
  os : w'.os = w.os
  tape : w'.tape = w.tape
  output : w'.output = w.output
  size : w.heap.size ≤ w'.heap.size
  block : ∀ k, k < w.heap.size → k ∉ S → w'.heap[k]? = w.heap[k]?
theorem Ex.refl (S : List Nat) (w : World) : Ex S w w := ⟨rfl, rfl, rfl, Nat.le_refl _, fun _ _ _ => rfl⟩
theorem Ex.trans {S T : List Nat} {a b c : World} (h : Ex S a b) (k : Ex T b c) : Ex (S ++ T) a c :=
  ⟨k.os.trans h.os, k.tape.trans h.tape, k.output.trans h.output, Nat.le_trans h.size k.size, fun i hi hn => (k.block i (Nat.lt_of_lt_of_le hi h.size) (fun e => hn (List.mem_append_right _ e))).trans (h.block i hi (fun e => hn (List.mem_append_left _ e)))⟩
theorem Ex.mono {S T : List Nat} {a b : World} (h : Ex S a b) (hs : ∀ x ∈ S, x ∈ T ∨ a.heap.size ≤ x) : Ex T a b :=
  ⟨h.os, h.tape, h.output, h.size, fun i hi hn => h.block i hi (fun e => (hs i e).elim hn (fun h => by omega))⟩
theorem Ex.of {S : List Nat} {w w' : World} (h : Below w.heap.size w w') : Ex S w w' := ⟨h.os, h.tape, h.output, h.size, fun i hi _ => h.block i hi⟩
theorem Ex.below {S : List Nat} {w w' : World} {m : Nat} (h : Ex S w w') (hm : m ≤ w.heap.size) (hs : ∀ x ∈ S, m ≤ x) : Below m w w' :=
  ⟨h.os, h.tape, h.output, h.size, fun i hi => h.block i (by omega) (fun e => by have := hs i e; omega)⟩
theorem Ex.alloc {S : List Nat} {a b : World} (h : Ex S a b) (o : Obj) : Ex S a (b.alloc o) := (h.trans (Ex.of (S := []) ((Below.refl _ _).alloc (Nat.le_refl _) o))).mono (by intro x hx; left; simpa using hx)
theorem Ex.drew {S : List Nat} {a b : World} (h : Ex S a b) : Ex S a b.drew := ⟨h.os, h.tape, h.output, h.size, h.block⟩
theorem Ex.then {S : List Nat} {a b c : World} (h : Ex S a b) (k : Below b.heap.size b c) : Ex S a c := (h.trans (Ex.of (S := []) k)).mono (by intro x hx; left; simpa using hx)
theorem Ex.set {S : List Nat} {a b : World} (h : Ex S a b) (B o : Nat) (v : Value) (hB : B ∈ S) : Ex S a (b.setCell ⟨B, o, none⟩ v) := by
  have g := grown_set b B o v
  exact ⟨g.os.trans h.os, g.tape.trans h.tape, g.output.trans h.output, Nat.le_trans h.size g.size, fun i hi hn => (g.block i (Nat.lt_of_lt_of_le hi h.size) (fun e => hn (by cases e; exact hB))).trans (h.block i hi hn)⟩
theorem At.ex {w w' : World} {B : Nat} {o : Obj} {S : List Nat} (h : At w B o) (hb : Ex S w w') (hn : B ∉ S) : At w' B o := (hb.block B h.lt hn).trans h
theorem Ex.cell {w w' : World} {S : List Nat} (hb : Ex S w w') {B : Nat} (hB : B < w.heap.size) (hn : B ∉ S) (j : Nat) : w'.cell? ⟨B, j, none⟩ = w.cell? ⟨B, j, none⟩ := World.cell?_of_block (hb.block B hB hn)
theorem One.ex {w w' : World} {Q : Nat} {ad : Option Addr} {n cap : Nat} {K : Int} {S : List Nat} (h : One w Q ad n cap K) (hb : Ex S w w') (hn : Q ∉ S) : One w' Q ad n cap K := by
  obtain ⟨h0, h1, h2, h3, h4⟩ := h
  exact ⟨(hb.cell h4 hn 0).trans h0, (hb.cell h4 hn 1).trans h1, (hb.cell h4 hn 2).trans h2, (hb.cell h4 hn 3).trans h3, Nat.lt_of_lt_of_le h4 hb.size⟩

/-- A row of two numbers. -/
structure Two (w : World) (g : Nat) (a b : Int) : Prop where
  c0 : w.cell? ⟨g, 0, none⟩ = some (.int .i64 a)
  c1 : w.cell? ⟨g, 1, none⟩ = some (.int .i64 b)
  lt : g < w.heap.size
theorem Two.ex {w w' : World} {g : Nat} {a b : Int} {S : List Nat} (h : Two w g a b) (hb : Ex S w w') (hn : g ∉ S) : Two w' g a b := by
  obtain ⟨h0, h1, h4⟩ := h
  exact ⟨(hb.cell h4 hn 0).trans h0, (hb.cell h4 hn 1).trans h1, Nat.lt_of_lt_of_le h4 hb.size⟩
/-- A row of one row. -/
structure Row1 (w : World) (F : Nat) (v : Value) : Prop where
  c0 : w.cell? ⟨F, 0, none⟩ = some v
  lt : F < w.heap.size
theorem Row1.ex {w w' : World} {F : Nat} {v : Value} {S : List Nat} (h : Row1 w F v) (hb : Ex S w w') (hn : F ∉ S) : Row1 w' F v :=
  ⟨(hb.cell h.lt hn 0).trans h.c0, Nat.lt_of_lt_of_le h.lt hb.size⟩

set_option maxRecDepth 100000 in
theorem zero177 (w : World) : (zeroValue 177).run Tryz.prog w = .ok .nilFunc w := by kernel_rfl
/-- Block b is a map of at most n entries, with p x at way x. -/
def MapJ (w : World) (b n : Nat) (p : Int → Value) : Prop :=
  ∃ D : DataW Value, w.ownsMap Tryz.prog 3 asIs b n D ∧ IsMap D ∧ ∀ x, 1 ≤ x → x ≤ 5 → D.atKey (.int .i64 x) (.held .nilFunc) = .held (p x)
theorem MapJ.made (w : World) : MapJ (w.alloc (.map #[] 0)) w.heap.size 0 fun _ => .nilFunc :=
  ⟨.map [], World.ownsMap_made _ _ _ _, ⟨[], rfl⟩, fun _ _ _ => rfl⟩
theorem MapJ.kept {w w' : World} {b n : Nat} {p : Int → Value} {row : Option Nat} (h : MapJ w b n p) (hg : w.grownBy w' row) (hne : some b ≠ row) : MapJ w' b n p := by
  obtain ⟨D, h1, h2, h3⟩ := h
  exact ⟨D, h1.kept hg hne, h2, h3⟩
theorem MapJ.below {w w' : World} {b n : Nat} {p : Int → Value} (h : MapJ w b n p) (hb : Below w.heap.size w w') : MapJ w' b n p := h.kept (grown_of_below hb none) (by simp)
theorem MapJ.lt {w : World} {b n : Nat} {p : Int → Value} (h : MapJ w b n p) : b < w.heap.size := by
  obtain ⟨D, h1, _⟩ := h
  exact h1.lt
set_option maxRecDepth 100000 in
/-- A look-up, run. -/
theorem MapJ.look {w : World} {b n : Nat} {p : Int → Value} (h : MapJ w b n p) (x : Int) (h1 : 1 ≤ x) (h5 : x ≤ 5) : (Instr.lookup 180 (.map (some b)) (.int .i64 x) false).run Tryz.prog w = .ok (p x) w := by
  obtain ⟨D, g1, g2, g3⟩ := h
  obtain ⟨v, ps, hrun, hv⟩ := g1.lookup law3 Tryz.underlying180 (zero177 w) (zd := .held .nilFunc) (zp := []) rfl (key3 x h1 h5)
  rw [g3 x h1 h5] at hv
  obtain rfl : v = p x := by
    unfold asIs at hv
    simp at hv
    exact hv.1
  exact hrun
set_option maxRecDepth 100000 in
/-- A store, run. -/
theorem MapJ.store {w : World} {b n : Nat} {p : Int → Value} (h : MapJ w b n p) (hn : n < maxLen) (x : Int) (h1 : 1 ≤ x) (h5 : x ≤ 5) (F : Value) : ∃ w', (Instr.mapUpdate 180 (.map (some b)) (.int .i64 x) F).run Tryz.prog w = .ok () w' ∧ MapJ w' b (n + 1) (fun y => if y = x then F else p y) ∧ w.grownBy w' (some b) := by
  obtain ⟨D, g1, g2, g3⟩ := h
  obtain ⟨w', hrun, r1, r2⟩ := g1.update law3 Tryz.underlying180 hn (key3 x h1 h5) (d := .held F) (ps := []) rfl
  refine ⟨w', hrun, ⟨_, r1, g2.put _ _, fun y y1 y5 => ?_⟩, r2⟩
  by_cases he : y = x
  · subst he
    rw [atKey_put_same g2 (law3.key (key3 y y1 y5))]
    show _ = DataW.held (if y = y then F else p y)
    rw [if_pos rfl]
  · have hne : (Lit.int .i64 y) ≠ (Lit.int .i64 x) := fun e => he (by cases e; rfl)
    rw [atKey_put_other hne, g3 y y1 y5]
    show _ = DataW.held (if y = x then F else p y)
    rw [if_neg he]
set_option maxRecDepth 100000 in
/-- A store, at the operation. -/
theorem wpList_putJ (w : World) {ops : Array Oper} {rest : List Oper} {o : Oper} {a : Act} {Q : Exit → Act → World → Prop} (hg : o.guard = none) (m x v : Operand) (hop : o.op = Op.mapUpdate 180 m x v ∨ o.op = Op.insert 180 m x v)
    {b n : Nat} {p : Int → Value} (hm : a.eval m = .map (some b)) (hM : MapJ w b n p) (hn : n < maxLen) (y : Int) (h1 : 1 ≤ y) (h5 : y ≤ 5) (F : Value) (hx : a.eval x = .int .i64 y) (hv : a.eval v = F)
    (hK : ∀ w', MapJ w' b (n + 1) (fun z => if z = y then F else p z) → w.grownBy w' (some b) → wpList Tryz.prog ops Q rest (a.put o.dst undef) w') :
    wpList Tryz.prog ops Q (o :: rest) a w := by
  refine wpList_plain hg fun K' hK' => ?_
  obtain ⟨w', hrun, r1, r2⟩ := hM.store hn y h1 h5 F
  unfold Oper.wp
  rcases hop with hop | hop
  all_goals
    simp only [execOp, hop, hm, hx, hv, hrun, Result.andThen, Sem.run_bind, Sem.run_pure]
    exact hK' _ _ (hK w' r1 r2)
set_option maxRecDepth 100000 in
set_option maxHeartbeats 4000000 in
theorem setright_two (g c : Nat) (w : World) (h : Two w g 0 2) :
    Calls Tryz.prog 112 #[.slice (some ⟨g, 0, none⟩) 2 c] w fun e w' => e = .returned (.bool true) ∧ Below w.heap.size w w' := by
  obtain ⟨d0, d1, dl⟩ := h
  go_enter Tryz.func112, Tryz.ntmps112
  go_wp2_with fail
  refine wp_loop_rounds 3 ?_
  rw [rounds_succ]
  go_wp2_with fail
  rw [rounds_succ]
  go_wp2_with fail
  rw [rounds_succ]
  go_wp2_with fail
  go_ret
  exact ⟨rfl, Below.refl _ _⟩

set_option maxRecDepth 100000 in
set_option maxHeartbeats 4000000 in
theorem odd_two (g c : Nat) (w : World) (h : Two w g 0 2) :
    Calls Tryz.prog 111 #[.slice (some ⟨g, 0, none⟩) 2 c] w fun e w' => e = .returned (.bool false) ∧ Below w.heap.size w w' := by
  have h1 := Lib.hid (setright_two g c w h)
  clear h
  go_enter Tryz.func111, Tryz.ntmps111
  go_wp2_with (go_at_call 112; refine h1.out.mono ?_; rintro e w1 ⟨rfl, hb1⟩)
  go_ret
  exact ⟨rfl, hb1⟩

set_option maxRecDepth 100000 in
set_option maxHeartbeats 4000000 in
theorem idx166_one (F cf g c : Nat) (w : World) (h : Two w g 0 2) (hF : Row1 w F (.slice (some ⟨g, 0, none⟩) 2 c)) :
    Calls Tryz.prog 166 #[.slice (some ⟨F, 0, none⟩) 1 cf, .func (.func 111) #[] #[]] w fun e w' => e = .returned (.int .i64 (-1)) ∧ Below w.heap.size w w' := by
  obtain ⟨d0, dl⟩ := hF
  have h1 := Lib.hid (odd_two g c w h)
  clear h
  go_enter Tryz.func166, Tryz.ntmps166
  go_wp2_with fail
  refine wp_loop_rounds 2 ?_
  rw [rounds_succ]
  go_wp2_with (go_at_call 111; refine h1.out.mono ?_; rintro e w1 ⟨rfl, hb1⟩)
  rw [rounds_succ]
  go_wp2_with fail
  go_ret
  exact ⟨rfl, hb1⟩

set_option maxRecDepth 100000 in
set_option maxHeartbeats 4000000 in
theorem cont114_one (F cf g c : Nat) (w : World) (h : Two w g 0 2) (hF : Row1 w F (.slice (some ⟨g, 0, none⟩) 2 c)) :
    Calls Tryz.prog 114 #[.slice (some ⟨F, 0, none⟩) 1 cf, .func (.func 111) #[] #[]] w fun e w' => e = .returned (.bool false) ∧ Below w.heap.size w w' := by
  have h1 := Lib.hid (idx166_one F cf g c w h hF)
  clear h hF
  go_enter Tryz.func114, Tryz.ntmps114
  go_wp2_with (go_at_call 166; refine h1.out.mono ?_; rintro e w1 ⟨rfl, hb1⟩)
  go_ret
  exact ⟨rfl, hb1⟩

abbrev joinC (f p : Value) (n : Int) : Obj := .cells #[f, p, .int .i64 n] 183

set_option maxRecDepth 100000 in
set_option maxHeartbeats 4000000 in
theorem jfind_one (J F cf g c : Nat) (p : Value) (n : Int) (ad : Option Addr) (nn cap : Nat) (K : Int) (w : World) (hF : Row1 w F (.slice (some ⟨g, 0, none⟩) 2 c)) (hJ : At w J (joinC (.slice (some ⟨F, 0, none⟩) 1 cf) p n)) :
    Calls Tryz.prog 115 #[.pointer (some ⟨J, 0, none⟩), ndv 1 0 ad nn cap K] w fun e w' => e = .returned (.slice (some ⟨g, 0, none⟩) 2 c) ∧ Ex [J] w w' ∧ At w' J (joinC (.slice (some ⟨F, 0, none⟩) 0 cf) p n) := by
  have hl := hJ.lt
  have hJ1 := hJ.alloc (.cells #[.int .i64 1, .int .i64 0, .slice ad nn cap, .int .i64 K] 81)
  have hS : Ex [J] w ((w.setCell ⟨J, 0, none⟩ (.slice (some ⟨F, 0, none⟩) 0 cf)).alloc (.cells #[.int .i64 1, .int .i64 0, .slice ad nn cap, .int .i64 K] 81)) := ((Ex.refl [J] w).set J 0 _ (by simp)).alloc _
  have hJ2 := (hJ.set 0 (.slice (some ⟨F, 0, none⟩) 0 cf)).alloc (.cells #[.int .i64 1, .int .i64 0, .slice ad nn cap, .int .i64 K] 81)
  have c0 := hJ1.cell 0
  have d0 := hF.c0
  have dl := hF.lt
  have fz := hJ1.free 0
  simp only [List.getElem?_toArray, List.getElem?_cons_zero] at c0
  rw [show (#[Value.slice (some ⟨F, 0, none⟩) 1 cf, p, .int .i64 n].setIfInBounds 0 (.slice (some ⟨F, 0, none⟩) 0 cf)) = #[.slice (some ⟨F, 0, none⟩) 0 cf, p, .int .i64 n] from rfl] at hJ2
  clear hF hJ hJ1
  have HS := Lib.hid hS
  have HJ := Lib.hid hJ2
  clear hS hJ2
  go_enter Tryz.func115, Tryz.ntmps115
  go_wp2_with fail
  go_ret
  exact ⟨rfl, HS.out, HJ.out⟩

set_option maxRecDepth 100000 in
set_option maxHeartbeats 4000000 in
theorem pop_one (J P cp g c : Nat) (f : Value) (n : Int) (w : World) (hF : Row1 w P (.slice (some ⟨g, 0, none⟩) 2 c)) (hJ : At w J (joinC f (.slice (some ⟨P, 0, none⟩) 1 cp) n)) :
    Calls Tryz.prog 121 #[.pointer (some ⟨J, 0, none⟩)] w fun e w' => e = .returned (.slice (some ⟨g, 0, none⟩) 2 c) ∧ Ex [J] w w' := by
  have hl := hJ.lt
  have hS : Ex [J] w (w.setCell ⟨J, 1, none⟩ (.slice (some ⟨P, 0, none⟩) 0 cp)) := (Ex.refl _ _).set J 1 _ (by simp)
  have c0 := hJ.cell 1
  have d0 := hF.c0
  have dl := hF.lt
  have fz := hJ.free 1
  simp only [List.getElem?_toArray, List.getElem?_cons_zero, List.getElem?_cons_succ] at c0
  clear hF hJ
  have HS := Lib.hid hS
  clear hS
  go_enter Tryz.func121, Tryz.ntmps121
  go_wp2_with fail
  go_ret
  exact ⟨rfl, HS.out⟩
theorem Ex.grow {S : List Nat} {a b c : World} {r : Nat} (h : Ex S a b) (k : b.grownBy c (some r)) (hr : r ∈ S := by simp) : Ex S a c :=
  ⟨k.os.trans h.os, k.tape.trans h.tape, k.output.trans h.output, Nat.le_trans h.size k.size, fun i hi hn => (k.block i (Nat.lt_of_lt_of_le hi h.size) (fun e => hn (by cases e; exact hr))).trans (h.block i hi hn)⟩

set_option maxRecDepth 100000 in
set_option maxHeartbeats 4000000 in
theorem join_one (Q cq F cf g c : Nat) (ad : Option Addr) (n cap : Nat) (K : Int) (L : Nat → Nat → Bool) (hn : (n : Int) ≤ 4611686018427387904) (hr : rightB n L K = true) (w : World) (h : One w Q ad n cap K) (hR : RowC w ad n L w.heap.size) (hT : Two w g 0 2) (hF : Row1 w F (.slice (some ⟨g, 0, none⟩) 2 c)) :
    Calls Tryz.prog 61 #[.slice (some ⟨Q, 0, none⟩) 1 cq, .slice (some ⟨F, 0, none⟩) 1 cf, .int .i64 4] w fun e w' => ∃ v, e = .returned (.tuple #[v, .bool true]) ∧ w'.ownsRow w.heap.size 3 1 v 2 [.int .i64 0, .int .i64 2] ∧ Below w.heap.size w w' := by
  have T : Hid (∀ w', Below w.heap.size w w' → One w' Q ad n cap K ∧ Two w' g 0 2 ∧ Row1 w' F (.slice (some ⟨g, 0, none⟩) 2 c) ∧ RowC w' ad n L w.heap.size) := Lib.hid fun w' hb => ⟨h.ex (Ex.of hb) List.not_mem_nil, hT.ex (Ex.of hb) List.not_mem_nil, hF.ex (Ex.of hb) List.not_mem_nil, hR.below hb (Nat.le_refl _)⟩
  have h1 := Lib.hid (qright_one Q cq ad n cap K L hn hr w h hR)
  have h2 := Lib.hid fun w' h => leaves_one Q cq ad n cap K w' h
  have h3 := Lib.hid fun w' h hF => cont114_one F cf g c w' h hF
  have h4 := Lib.hid fun w' (hF : Row1 w' F (.slice (some ⟨g, 0, none⟩) 2 c)) => clone120_any (some ⟨F, 0, none⟩) 1 cf [.slice (some ⟨g, 0, none⟩) 2 c] (by omega) rfl (by simp [Value.oneCell']) w' (.inr ⟨F, 0, rfl, hF.lt, fun j u hj => by
    cases j with
    | zero => simp at hj; subst hj; exact hF.c0
    | succ j => simp at hj⟩)
  have h6 := Lib.hid fun w' (hT : Two w' g 0 2) => clone59_any (some ⟨g, 0, none⟩) 2 c [.int .i64 0, .int .i64 2] (by omega) rfl (by simp [Value.oneCell']) w' (.inr ⟨g, 0, rfl, hT.lt, fun j u hj => by
    match j, hj with
    | 0, hj => simp at hj; subst hj; exact hT.c0
    | 1, hj => simp at hj; subst hj; exact hT.c1
    | j + 2, hj => simp at hj⟩)
  have hgl := hT.lt
  have hql := h.lt
  have hmm := @run_makeMap Tryz.prog
  clear h hR hT hF hr
  go_enter Tryz.func61, Tryz.ntmps61
  go_wp2_with (first | (go_at_call 113; refine h1.out.mono ?_; rintro e w1 ⟨rfl, hb1⟩; have B1 := Lib.hid hb1) | (go_at_call 109; refine (h2.out w1 (T.out w1 B1.out).1).mono ?_; rintro e w2 ⟨lv2, rfl, ho2, hb2⟩; obtain ⟨b2, cap2, rfl, -, -, -⟩ := own_at ho2 Nat.one_pos rfl; have B2 := Lib.hid (B1.out.trans (hb2.mono B1.out.size)); clear ho2 hb2 hb1) | (go_at_call 114; refine (h3.out w2 (T.out w2 B2.out).2.1 (T.out w2 B2.out).2.2.1).mono ?_; rintro e w3 ⟨rfl, hb3⟩; have B3 := Lib.hid (B2.out.trans (hb3.mono B2.out.size)); clear hb3; have hM0 := MapJ.made w3) | (refine wpList_putJ _ rfl _ _ _ (.inr rfl) rfl hM0 (by unfold maxLen; omega) 1 (by omega) (by omega) (.func (.func 115) #[] #[]) rfl rfl ?_; intro v1 hM1 hg1) | (refine wpList_putJ _ rfl _ _ _ (.inr rfl) rfl hM1 (by unfold maxLen; omega) 2 (by omega) (by omega) (.func (.func 116) #[] #[]) rfl rfl ?_; intro v2 hM2 hg2) | (refine wpList_putJ _ rfl _ _ _ (.inr rfl) rfl hM2 (by unfold maxLen; omega) 3 (by omega) (by omega) (.func (.func 117) #[] #[]) rfl rfl ?_; intro v3 hM3 hg3) | (refine wpList_putJ _ rfl _ _ _ (.inr rfl) rfl hM3 (by unfold maxLen; omega) 4 (by omega) (by omega) (.func (.func 118) #[] #[]) rfl rfl ?_; intro v4 hM4 hg4) | (refine wpList_putJ _ rfl _ _ _ (.inr rfl) rfl hM4 (by unfold maxLen; omega) 5 (by omega) (by omega) (.func (.func 119) #[] #[]) rfl rfl ?_; intro v5 hM5 hg5) | (go_at_call 120; have B4 := Lib.hid ((Ex.of (S := [w3.heap.size]) ((Below.refl _ w3).alloc (Nat.le_refl _) (.map #[] 0))).grow hg1 |>.grow hg2 |>.grow hg3 |>.grow hg4 |>.grow hg5); clear hg1 hg2 hg3 hg4 hg5 hM1 hM2 hM3 hM4; have B5 := Lib.hid (B3.out.trans ((B4.out.below (Nat.le_refl _) (by simp)).mono B3.out.size)); refine (h4.out v5 (T.out v5 B5.out).2.2.1).mono ?_; rintro e w6 ⟨lv6, rfl, ho6, hb6⟩; obtain ⟨F2, cf2, rfl, hf2, hl2, cc2⟩ := own_at ho6 Nat.one_pos rfl; have c2 := cc2 0 _ rfl; have B6 := Lib.hid (B5.out.trans (hb6.mono B5.out.size)); have M6 := Lib.hid (hM5.below hb6); have R6 : Row1 w6 F2 (.slice (some ⟨g, 0, none⟩) 2 c) := ⟨c2, hl2⟩; clear ho6 cc2 c2 hM5; have hJ := At.new w6 (joinC (.slice (some ⟨F2, 0, none⟩) 1 cf2) (.slice none 0 0) 4)))
  refine wp_loop_rounds 2 ?_
  rw [rounds_succ]
  have B7 := Lib.hid (B6.out.trans ((Below.refl w.heap.size w6).alloc B6.out.size (joinC (.slice (some ⟨F2, 0, none⟩) 1 cf2) (.slice none 0 0) 4)))
  have M7 := Lib.hid (M6.out.below ((Below.refl _ w6).alloc (Nat.le_refl _) (joinC (.slice (some ⟨F2, 0, none⟩) 1 cf2) (.slice none 0 0) 4)))
  have R7 := Lib.hid (R6.ex (Ex.of (S := []) ((Below.refl _ w6).alloc (Nat.le_refl _) (joinC (.slice (some ⟨F2, 0, none⟩) 1 cf2) (.slice none 0 0) 4))) List.not_mem_nil)
  have hbm : w3.heap.size < w6.heap.size := M6.out.lt
  have hF2 := R6.lt
  clear R6
  have HJ := Lib.hid hJ
  have dlJ := Lib.hid hJ.lt
  have hwJ : w.heap.size ≤ w6.heap.size := B6.out.size
  clear hJ
  generalize hJe : w6.heap.size = J at *
  generalize (w6.alloc (joinC (.slice (some ⟨F2, 0, none⟩) 1 cf2) (.slice none 0 0) 4)) = W7 at *
  obtain ⟨d0, d1, d2, d3, dl⟩ := (T.out W7 B7.out).1
  have hlook := M7.out.look 1 (by omega) (by omega)
  have hlook2 := (M7.out.below ((Below.refl _ _).drew)).look 1 (by omega) (by omega)
  simp only [if_pos] at hlook hlook2
  go_wp2_with fail
  have dd0 : W7.cell? ⟨Q, 0, none⟩ = some (.int .i64 1) ∧ W7.cell? ⟨Q, 1, none⟩ = some (.int .i64 0) ∧ W7.cell? ⟨Q, 2, none⟩ = some (.slice ad n cap) ∧ W7.cell? ⟨Q, 3, none⟩ = some (.int .i64 K) := ⟨d0, d1, d2, d3⟩
  have dd : W7.drew.cell? ⟨Q, 0, none⟩ = some (.int .i64 1) ∧ W7.drew.cell? ⟨Q, 1, none⟩ = some (.int .i64 0) ∧ W7.drew.cell? ⟨Q, 2, none⟩ = some (.slice ad n cap) ∧ W7.drew.cell? ⟨Q, 3, none⟩ = some (.int .i64 K) := ⟨d0, d1, d2, d3⟩
  go_region_held3 (fun w' => w'.cell? ⟨Q, 0, none⟩ = some (.int .i64 1) ∧ w'.cell? ⟨Q, 1, none⟩ = some (.int .i64 0) ∧ w'.cell? ⟨Q, 2, none⟩ = some (.slice ad n cap) ∧ w'.cell? ⟨Q, 3, none⟩ = some (.int .i64 K)) (with_reducible assumption) (first | (go_at_call 115; refine (jfind_one J F2 cf2 g c (.slice none 0 0) 4 ad n cap K W7.drew (R7.out.ex (Ex.of (S := []) (Below.refl _ _).drew) List.not_mem_nil) (HJ.out.below (Below.refl _ _).drew dlJ.out)).mono ?_; rintro e w8 ⟨rfl, he8, hJ8⟩; have dd8 : w8.cell? ⟨Q, 0, none⟩ = some (.int .i64 1) ∧ w8.cell? ⟨Q, 1, none⟩ = some (.int .i64 0) ∧ w8.cell? ⟨Q, 2, none⟩ = some (.slice ad n cap) ∧ w8.cell? ⟨Q, 3, none⟩ = some (.int .i64 K) := by obtain ⟨x0, x1, x2, x3, -⟩ := One.ex (w := W7.drew) ⟨d0, d1, d2, d3, dl⟩ he8 (by simp; omega); exact ⟨x0, x1, x2, x3⟩))
  have B8 := Lib.hid (B7.out.drew.trans (he8.below B7.out.drew.size (by simp; omega)))
  have c1 := hJ8.cell 1
  simp only [List.getElem?_toArray, List.getElem?_cons_zero, List.getElem?_cons_succ] at c1
  have l8 := hJ8.lt
  have HJ8 := Lib.hid hJ8
  have hown8 : w8.ownsRow w8.heap.size 24 1 (.slice none 0 0) 0 [] := World.ownsRow_nil _ _ _ _
  clear hJ8 he8 d0 d1 d2 d3 dl hlook hlook2 dd dd0 dd8
  have fz8 := HJ8.out.free 1
  go_wp2_with (at_builtin; refine wpList_app elem84 rfl _ _ rfl rfl hown8 [.slice (some ⟨g, 0, none⟩) 2 c] (by simp [go_sem]) rfl (by simp [Value.oneCell']) (by unfold maxLen; omega) (by omega) (Nat.le_refl _) ?_; intro v9 w9 hown9 hb9; obtain ⟨P, cp, rfl, hP, hPl, cc9⟩ := own_at hown9 Nat.one_pos rfl; have r9 : Row1 w9 P (.slice (some ⟨g, 0, none⟩) 2 c) := ⟨cc9 0 _ rfl, hPl⟩; clear cc9 hown9; have hJ9 := HJ8.out.below hb9 l8; have fz9 := hJ9.free 1; have l9 := hJ9.lt; have hJ10 := hJ9.set 1 (.slice (some ⟨P, 0, none⟩) 1 cp); have c19 := hJ9.cell 1; simp only [List.getElem?_toArray, List.getElem?_cons_zero, List.getElem?_cons_succ] at c19; have HJ10 := Lib.hid hJ10; have B9 := Lib.hid (B8.out.trans (hb9.mono B8.out.size)); clear hJ9 hJ10 hb9)
  rw [rounds_succ]
  have e10 := (Ex.refl [J] w9).set J 1 (.slice (some ⟨P, 0, none⟩) 1 cp) (by simp)
  have B10 := Lib.hid (B9.out.trans (e10.below B9.out.size (by simp; omega)))
  have r10 := Lib.hid (r9.ex e10 (by simp; omega))
  clear r9 e10 fz9 c19
  generalize w9.setCell ⟨J, 1, none⟩ (.slice (some ⟨P, 0, none⟩) 1 cp) = W10 at *
  have h5 := Lib.hid (pop_one J P cp g c _ 4 W10 r10.out HJ10.out)
  go_wp2_with (first | (go_at_call 121; refine h5.out.mono ?_; rintro e w11 ⟨rfl, he11⟩; have B11 := Lib.hid (B10.out.trans (he11.below B10.out.size (by simp; omega))); clear he11) | (go_at_call 59; refine (h6.out w11 (T.out w11 B11.out).2.1).mono ?_; rintro e w12 ⟨v12, rfl, ho12, hb12⟩; have O12 := Lib.hid (own_le ho12 B11.out.size); have B12 := Lib.hid (B11.out.trans (hb12.mono B11.out.size)); clear ho12 hb12))
  go_ret2
  exact ⟨_, rfl, O12.out, B12.out⟩
end Go.Proofs.YtjfkmoinldlmaaaGreat

/- Walks of eval.Check and of feed, where all is read at once. -/
namespace Go.Proofs.YtjfkmoinldlmaaaGreat
open Go.RowKit Go.Shelf

set_option maxRecDepth 100000 in
set_option maxHeartbeats 4000000 in
theorem check_one (Q cq : Nat) (ad : Option Addr) (n cap : Nat) (K : Int) (L : Nat → Nat → Bool) (hn : (n : Int) ≤ 4611686018427387904) (hr : rightB n L K = true) (w : World) (h : One w Q ad n cap K) (hR : RowC w ad n L w.heap.size) :
    Calls Tryz.prog 106 #[.slice (some ⟨Q, 0, none⟩) 1 cq, .agg #[.int .i64 0, .int .i64 0]] w fun e w' => e = .returned (.int .i64 0) ∧ Below w.heap.size w w' := by
  have hA : Below w.heap.size w (w.alloc (.cells #[.int .i64 0, .int .i64 0] 35)) := (Below.refl _ _).alloc (Nat.le_refl _) _
  obtain ⟨c0, c1, cl⟩ := HoldsG.new w 0 0
  have h1 := Lib.hid fun w' => log_any 0 w'
  have h2 := Lib.hid fun w' h hR => qright_one Q cq ad n cap K L hn hr w' h hR
  have T : Hid (∀ w', Below w.heap.size w w' → One w' Q ad n cap K ∧ RowC w' ad n L w'.heap.size) := Lib.hid fun w' hb => ⟨h.ex (Ex.of hb) List.not_mem_nil, (hR.below hb (Nat.le_refl _)).mono hb.size⟩
  have HA := Lib.hid hA
  clear h hR hr hA
  go_enter Tryz.func106, Tryz.ntmps106
  go_wp2_with (first | (go_at_call 48; refine (h1.out _).mono ?_; rintro e w1 ⟨rfl, hb1⟩; have B1 := Lib.hid (HA.out.trans (hb1.mono HA.out.size)); have zB := B1.out.size; have c10 := (hb1.cell (p := ⟨w.heap.size, 0, none⟩) cl).trans c0; have c11 := (hb1.cell (p := ⟨w.heap.size, 1, none⟩) cl).trans c1; have cl1 := Nat.lt_of_lt_of_le cl hb1.size; clear hb1) | (go_at_call 113; refine (h2.out w1 (T.out w1 B1.out).1 (T.out w1 B1.out).2).mono ?_; rintro e w2 ⟨rfl, hb2⟩; have B2 := Lib.hid (B1.out.trans (hb2.mono B1.out.size)); have c20 := (hb2.cell (p := ⟨w.heap.size, 0, none⟩) cl1).trans c10; have c21 := (hb2.cell (p := ⟨w.heap.size, 1, none⟩) cl1).trans c11; clear hb2))
  go_region
  go_wp2_with fail
  go_ret
  exact ⟨rfl, B2.out.drew⟩

set_option maxRecDepth 100000 in
set_option maxHeartbeats 4000000 in
theorem feed_new (t : ByteArray) (ht : t.size ≤ 1000) (w : World) :
    Calls Tryz.prog 27 #[.string t, .slice none 0 0, .int .i64 (-1)] w fun e w' => ∃ fp, e = .returned (.pointer (some ⟨fp, 0, none⟩)) ∧ w.heap.size ≤ fp ∧ FeedSt w' fp t [] 0 t.size 1 ∧ Below w.heap.size w w' := by
  have h1 := Lib.hid (clone59_any none 0 0 [] (by omega) rfl (by simp) w (.inl rfl))
  have htI : (t.size : Int) ≤ 1000 := by omega
  go_enter Tryz.func27, Tryz.ntmps27
  go_wp2_with (go_at_call 59; refine h1.out.mono ?_; rintro e w1 ⟨v1, rfl, ho1, hb1⟩; obtain ⟨ad1, cap1, rfl⟩ := own_slice ho1)
  go_ret
  refine ⟨_, rfl, hb1.size, ⟨⟨ad1, cap1, At.new _ _, .inl rfl, by simp⟩, by omega, Nat.le_refl _⟩, hb1.alloc hb1.size _⟩

set_option maxRecDepth 100000 in
set_option maxHeartbeats 4000000 in
theorem read_all (fp : Nat) (t : ByteArray) (ht0 : 0 < t.size) (ht : t.size ≤ 1000) (en : Int) (w : World) (h : FeedSt w fp t [] 0 t.size en) :
    Calls Tryz.prog 60 #[.pointer (some ⟨fp, 0, none⟩)] w fun e w' => e = .returned (.tuple #[.string t, .int .i64 0]) ∧ FeedSt w' fp t [] t.size t.size en ∧ Ex [fp] w w' := by
  obtain ⟨⟨ad, cap, ha, -, -⟩, -, -⟩ := h
  have htI : (t.size : Int) ≤ 1000 := by omega
  have ht0I : (0 : Int) < t.size := by omega
  have hex : t.extract 0 t.size = t := by simp
  have haA := (ha.set 2 (.int .i64 t.size)).alloc (.cells #[.int .i64 t.size, .int .i64 t.size] 130)
  have hE := ((Ex.refl [fp] w).set fp 2 (.int .i64 t.size) (by simp)).alloc (.cells #[.int .i64 t.size, .int .i64 t.size] 130)
  have c0 := ha.cell 0
  have c1 := ha.cell 1
  have c2 : w.cell? ⟨fp, 2, none⟩ = some (.int .i64 0) := ha.cell 2
  have c3 := ha.cell 3
  have c4 := ha.cell 4
  have fz := ha.free 2
  have hl := ha.lt
  simp only [List.getElem?_toArray, List.getElem?_cons_zero, List.getElem?_cons_succ, List.length_nil] at c0 c1 c3 c4
  have HA := Lib.hid haA
  have HE := Lib.hid hE
  clear ha haA hE
  go_enter Tryz.func60, Tryz.ntmps60
  go_wp2_with fail
  have heq := eq_span
  go_region
  go_wp2_with fail
  go_region
  go_wp2_with fail
  go_region
  go_wp2_with fail
  go_ret2
  exact ⟨rfl, ⟨⟨ad, cap, HA.out, .inl rfl, by simp⟩, Nat.le_refl _, Nat.le_refl _⟩, HE.out.drew.drew.drew⟩
end Go.Proofs.YtjfkmoinldlmaaaGreat

/- Walks of a stream's search, and of the function that it makes, at a leaf of two elements that is found twice. -/
namespace Go.Proofs.YtjfkmoinldlmaaaGreat
open Go.RowKit Go.Shelf

/-- What a search holds. -/
structure SrchC (w : World) (S own sb nx kb : Nat) (ad : Option Addr) (n cap : Nat) (K : Int) : Prop where
  own_ : At w own (.cells #[.slice ad n cap, .int .i64 K] 52)
  sb_ : At w sb (.cells #[.pointer (some ⟨S, 0, none⟩)] 72)
  nx_ : At w nx (.cells #[.int .i64 0] 3)
  kb_ : At w kb (.cells #[.int .i64 0] 3)
  d1 : own ≠ nx
  d2 : sb ≠ nx
  d3 : kb ≠ nx

theorem own_base {w : World} {base : Nat} {e : TypeId} {size n cap : Nat} {ad : Option Addr} {xs : List Value} (h : w.ownsRow base e size (.slice ad n cap) n xs) : ∀ a, ad = some a → base ≤ a.block := by
  intro a ha
  rcases h.2 with ⟨hv, _⟩ | ⟨g, c, cur, hv, hb, _⟩
  · cases hv; cases ha
  · cases hv; cases ha; exact hb
theorem RowC.ex {w w' : World} {ad : Option Addr} {n : Nat} {L : Nat → Nat → Bool} {T : List Nat} (h : RowC w ad n L w.heap.size) (hb : Ex T w w') (hn : ∀ a, ad = some a → a.block ∉ T) : RowC w' ad n L w'.heap.size := by
  rcases h with h | ⟨b, o, ha, hlt, hc⟩
  · exact .inl h
  · refine .inr ⟨b, o, ha, Nat.lt_of_lt_of_le hlt hb.size, fun j hj => ?_⟩
    obtain ⟨e0, e1, e2, e3⟩ := hc j hj
    have k := fun i => hb.cell hlt (hn _ ha) i
    exact ⟨(k _).trans e0, (k _).trans e1, (k _).trans e2, (k _).trans e3⟩
theorem SrchC.ex {w w' : World} {S own sb nx kb : Nat} {ad : Option Addr} {n cap : Nat} {K : Int} {T : List Nat} (h : SrchC w S own sb nx kb ad n cap K) (hb : Ex T w w') (hn : own ∉ T ∧ sb ∉ T ∧ nx ∉ T ∧ kb ∉ T) : SrchC w' S own sb nx kb ad n cap K :=
  ⟨h.own_.ex hb hn.1, h.sb_.ex hb hn.2.1, h.nx_.ex hb hn.2.2.1, h.kb_.ex hb hn.2.2.2, h.d1, h.d2, h.d3⟩

set_option maxRecDepth 100000 in
set_option maxHeartbeats 4000000 in
theorem search_any (S : Nat) (cap : Nat) (K : Int) (l : List (Nat → Bool)) (hl : l.length ≤ 1000) (ad : Option Addr) (w : World) (hR : RowC w ad l.length (gc l) w.heap.size) :
    Calls Tryz.prog 110 #[.pointer (some ⟨S, 0, none⟩), .int .i64 0, lv ad l.length cap K] w fun e w' => ∃ own sb nx kb ad' cap', e = .returned (.func (.func 162) #[] #[.pointer (some ⟨own, 0, none⟩), .pointer (some ⟨sb, 0, none⟩), .pointer (some ⟨nx, 0, none⟩), .pointer (some ⟨kb, 0, none⟩)]) ∧ SrchC w' S own sb nx kb ad' l.length cap' K ∧ (w.heap.size ≤ own ∧ w.heap.size ≤ sb ∧ w.heap.size ≤ nx ∧ w.heap.size ≤ kb) ∧ RowC w' ad' l.length (gc l) w'.heap.size ∧ (∀ a, ad' = some a → w.heap.size ≤ a.block) ∧ Below w.heap.size w w' := by
  have h1 := Lib.hid fun w' (h : RowC w' ad l.length (gc l) w'.heap.size) => clone_cls ad cap l hl w' h
  have HR := Lib.hid hR
  clear hR
  go_enter Tryz.func110, Tryz.ntmps110
  go_wp2_with fail
  have hA : Below w.heap.size w (((w.alloc (.cells #[.pointer (some ⟨S, 0, none⟩)] 72)).alloc (.cells #[.int .i64 0] 3)).alloc (.cells #[.slice ad l.length cap, .int .i64 K] 52)) := (((Below.refl _ _).alloc (Nat.le_refl _) _).alloc (by simp) _).alloc (by simp; omega) _
  have hs := ((At.new w (.cells #[.pointer (some ⟨S, 0, none⟩)] 72)).alloc (.cells #[.int .i64 0] 3)).alloc (.cells #[.slice ad l.length cap, .int .i64 K] 52)
  have hk := (At.new (w.alloc (.cells #[.pointer (some ⟨S, 0, none⟩)] 72)) (.cells #[.int .i64 0] 3)).alloc (.cells #[.slice ad l.length cap, .int .i64 K] 52)
  have hL := At.new ((w.alloc (.cells #[.pointer (some ⟨S, 0, none⟩)] 72)).alloc (.cells #[.int .i64 0] 3)) (.cells #[.slice ad l.length cap, .int .i64 K] 52)
  rw [World.size_alloc] at hk
  rw [World.size_alloc, World.size_alloc] at hL
  have hz : (((w.alloc (.cells #[.pointer (some ⟨S, 0, none⟩)] 72)).alloc (.cells #[.int .i64 0] 3)).alloc (.cells #[.slice ad l.length cap, .int .i64 K] 52)).heap.size = w.heap.size + 3 := by simp
  generalize (((w.alloc (.cells #[.pointer (some ⟨S, 0, none⟩)] 72)).alloc (.cells #[.int .i64 0] 3)).alloc (.cells #[.slice ad l.length cap, .int .i64 K] 52)) = W0 at *
  have HR0 := Lib.hid ((HR.out.below hA (Nat.le_refl _)).mono hA.size)
  have HA := Lib.hid hA
  have HZ := Lib.hid hz
  have c0 := hL.cell 0
  have c1 := hL.cell 1
  have cl := hL.lt
  simp only [List.getElem?_toArray, List.getElem?_cons_zero, List.getElem?_cons_succ] at c0 c1
  have HS := Lib.hid hs
  have HK := Lib.hid hk
  clear hs hk hL hz hA
  have hAz : Below W0.heap.size W0 (W0.alloc (.cells #[.slice none 0 0, .int .i64 0] 52)).drew := ((Below.refl _ W0).alloc (Nat.le_refl _) _).drew
  have OAz : Old W0 (W0.alloc (.cells #[.slice none 0 0, .int .i64 0] 52)).drew := Old.of hAz
  have hAt : At (W0.alloc (.cells #[.slice none 0 0, .int .i64 0] 52)).drew W0.heap.size (.cells #[.slice none 0 0, .int .i64 0] 52) := At.new _ _
  have hAl : W0.heap.size < (W0.alloc (.cells #[.slice none 0 0, .int .i64 0] 52)).drew.heap.size := by simp
  have HAz := Lib.hid hAz
  have HAt := Lib.hid hAt
  clear hAz hAt
  go_region_held3 (fun w' => Old W0 w') (first | with_reducible assumption | with_reducible exact Old.start _ | with_reducible exact Old.alloc (by with_reducible assumption) _ | with_reducible exact Old.of (((show Old W0 _ by with_reducible assumption).2.2.2.setCell (p := ⟨W0.heap.size, 0, none⟩) (Nat.le_refl _) _).setCell (p := ⟨W0.heap.size, 1, none⟩) (Nat.le_refl _) _)) (first | (go_at_call 161; refine (h1.out W0.drew ((HR0.out.below ((Below.refl _ W0).drew) (Nat.le_refl _)).mono (Nat.le_refl _))).mono ?_; rintro e w1 ⟨v1, rfl, ho1, hb1⟩; obtain ⟨ad1, cap1, rfl⟩ := own_slice ho1; have O1 := Old.calld (Old.refl W0) hb1; have al1 := At.new w1 (.cells #[.slice none 0 0, .int .i64 0] 52); have fz1 := al1.free 0; have fz2 := al1.free 1; clear al1) | (go_at_call 161; refine (h1.out (W0.alloc (.cells #[.slice none 0 0, .int .i64 0] 52)).drew ((HR0.out.below HAz.out (Nat.le_refl _)).mono HAz.out.size)).mono ?_; rintro e w1 ⟨v1, rfl, ho1, hb1⟩; obtain ⟨ad1, cap1, rfl⟩ := own_slice ho1; have O1 := OAz.call hb1; have al2 := Lib.hid (HAt.out.below hb1 hAl); have fz1 := al2.out.free 0; have fz2 := al2.out.free 1; have al2l := al2.out.lt; have e0 := al2.out.cell 0; have e1 := al2.out.cell 1; simp only [List.getElem?_toArray, List.getElem?_cons_zero, List.getElem?_cons_succ] at e0 e1))
  all_goals go_wp2_with fail
  · have hz := HZ.out
    have hO := O1.2.2.2
    have hB1 := HA.out.trans (hO.mono HA.out.size)
    have hz1 := hO.size
    go_ret
    refine ⟨_, _, _, _, ad1, cap1, rfl, ⟨(At.new w1 _).alloc _, ((HS.out.below hO (by omega)).alloc _).alloc _, by have := At.new (w1.alloc (.cells #[.slice ad1 l.length cap1, .int .i64 K] 52)) (.cells #[.int .i64 0] 3); rwa [World.size_alloc] at this, ((HK.out.below hO (by omega)).alloc _).alloc _, by omega, by omega, by omega⟩, ⟨by omega, by omega, by omega, by omega⟩, ?_, fun a ha => Nat.le_trans (Nat.le_trans HA.out.size (Nat.le_refl _)) (own_base ho1 a ha), (hB1.alloc hB1.size _).alloc (by simp; omega) _⟩
    have hA2 : Below w1.heap.size w1 ((w1.alloc (.cells #[.slice ad1 l.length cap1, .int .i64 K] 52)).alloc (.cells #[.int .i64 0] 3)) := ((Below.refl _ _).alloc (Nat.le_refl _) _).alloc (by simp) _
    exact ((rowC_of_list ho1).below hA2 (Nat.le_refl _)).mono hA2.size
  · have hz := HZ.out
    have hO := O1.2.2.2
    have hSS := (hO.setCell (p := ⟨W0.heap.size, 0, none⟩) (Nat.le_refl _) (.slice ad1 l.length cap1)).setCell (p := ⟨W0.heap.size, 1, none⟩) (Nat.le_refl _) (.int .i64 K)
    have hB1 := HA.out.trans (hSS.mono HA.out.size)
    have hz1 := hO.size
    have hz2 := al2l
    have ho2 := ownsRow_setCell_below (ownsRow_setCell_below ho1 (a := ⟨W0.heap.size, 0, none⟩) hAl (.slice ad1 l.length cap1)) (a := ⟨W0.heap.size, 1, none⟩) hAl (.int .i64 K)
    have hat := (al2.out.set 0 (.slice ad1 l.length cap1)).set 1 (.int .i64 K)
    have hsz : ((w1.setCell ⟨W0.heap.size, 0, none⟩ (.slice ad1 l.length cap1)).setCell ⟨W0.heap.size, 1, none⟩ (.int .i64 K)).heap.size = w1.heap.size := by simp
    have hnx := At.new ((w1.setCell ⟨W0.heap.size, 0, none⟩ (.slice ad1 l.length cap1)).setCell ⟨W0.heap.size, 1, none⟩ (.int .i64 K)) (.cells #[.int .i64 0] 3)
    rw [hsz] at hnx
    go_ret
    refine ⟨W0.heap.size, w.heap.size, w1.heap.size, w.heap.size + 1, ad1, cap1, rfl, ⟨hat.alloc _, (HS.out.below hSS (by omega)).alloc _, hnx, (HK.out.below hSS (by omega)).alloc _, by omega, by omega, by omega⟩, ⟨by omega, by omega, by omega, by omega⟩, ?_, fun a ha => Nat.le_trans (Nat.le_trans HA.out.size HAz.out.size) (own_base ho1 a ha), hB1.alloc hB1.size _⟩
    have hA2 : Below _ _ (((w1.setCell ⟨W0.heap.size, 0, none⟩ (.slice ad1 l.length cap1)).setCell ⟨W0.heap.size, 1, none⟩ (.int .i64 K)).alloc (.cells #[.int .i64 0] 3)) := (Below.refl _ _).alloc (Nat.le_refl _) _
    exact ((rowC_of_list ho2).below hA2 (Nat.le_refl _)).mono hA2.size
end Go.Proofs.YtjfkmoinldlmaaaGreat
