/- Walk of the law LeafSame. -/
import Derived.Test.YtkhcjjdamphbfaaAl07
import Derived.Deep.OwnRows
import Derived.Maps.AppendAt
namespace Go.Proofs.Ytkhcjjdamphbfaa
open Go.RowKit

theorem text_ab7 (K : Int) (w : World) : Calls Try.prog 73 #[.string ⟨#[97, 98]⟩, .int .i64 K] w fun e w' => ∃ ad cap, e = .returned (lv ad 2 cap K) ∧ w'.ownsRow w.heap.size 26 4 (.slice ad 2 cap) 2 (clsCells (byteS sab) 2) ∧ Below w.heap.size w w' :=
  text_any sab (by decide) K w
theorem rtext_ab7 (K : Int) (w : World) : Calls Try.prog 76 #[.string ⟨#[97, 98]⟩, .int .i64 K] w fun e w' => ∃ ad cap, e = .returned (lv ad 2 cap K) ∧ w'.ownsRow w.heap.size 26 4 (.slice ad 2 cap) 2 (clsCells (byteS sab) 2) ∧ Below w.heap.size w w' :=
  rtext_any sab (by decide) K w

/-- Block B is this object. -/
def At (w : World) (B : Nat) (o : Obj) : Prop := w.heap[B]? = some o
theorem At.lt {w : World} {B : Nat} {o : Obj} (h : At w B o) : B < w.heap.size := by
  unfold At at h
  rcases Nat.lt_or_ge B w.heap.size with hl | hl
  · exact hl
  · rw [Array.getElem?_eq_none hl] at h; cases h
theorem At.kept {w w' : World} {B : Nat} {o : Obj} {row : Option Nat} (h : At w B o) (hg : w.grownBy w' row) (hne : some B ≠ row) : At w' B o := (hg.block B h.lt hne).trans h
theorem At.below {w w' : World} {B : Nat} {o : Obj} (h : At w B o) (hb : Below w.heap.size w w') : At w' B o := (hb.block B h.lt).trans h
theorem At.new (w : World) (o : Obj) : At (w.alloc o) w.heap.size o := World.alloc_heap_new w o
theorem At.alloc {w : World} {B : Nat} {o : Obj} (h : At w B o) (o' : Obj) : At (w.alloc o') B o := h.kept (World.grownBy_alloc w o' none) (by simp)
theorem At.set {w : World} {B : Nat} {o : Obj} (h : At w B o) {p : Addr} (hp : p.block ≠ B) (v : Value) : At (w.setCell p v) B o := (Below.heap_setCell _ _ _ B (fun e => hp e.symm)).trans h
theorem At.cell {w : World} {B : Nat} {cs : Array Value} {t : TypeId} {fz : Nat × Nat} (h : At w B (.cells cs t fz)) (j : Nat) : w.cell? ⟨B, j, none⟩ = cs[j]? := by
  unfold At at h; simp [World.cell?, h]
theorem At.free {w : World} {B : Nat} {cs : Array Value} {t : TypeId} (h : At w B (.cells cs t (0, 0))) (j : Nat) : w.frozen? ⟨B, j, none⟩ = false := by
  unfold At at h; simp [World.frozen?, h]
theorem at_own {w : World} {base n cap : Nat} {e : TypeId} {size : Nat} {ad : Option Addr} {xs : List Value} (h : w.ownsRow base e size (.slice ad (n + 1) cap) (n + 1) xs) :
    ∃ g cur, ad = some ⟨g, 0, none⟩ ∧ base ≤ g ∧ At w g (.cells cur e (0, 0)) ∧ (∀ w', At w' g (.cells cur e (0, 0)) → w'.ownsRow 0 e size (.slice (some ⟨g, 0, none⟩) (n + 1) cap) (n + 1) xs) := by
  rcases h.2 with ⟨_, h1⟩ | ⟨g, cp, cur, hv, hg, hb, hle, hm, hs, ht⟩
  · omega
  · obtain ⟨rfl, rfl⟩ : ad = some ⟨g, 0, none⟩ ∧ cap = cp := by simpa using hv
    exact ⟨g, cur, rfl, hg, hb, fun w' h' => ⟨h.1, .inr ⟨g, cap, cur, rfl, Nat.zero_le _, h', hle, hm, hs, ht⟩⟩⟩
theorem sz_drew (w : World) : w.drew.heap.size = w.heap.size := rfl

/-- Two leaves of one text, each in a variable and with a row of its own. -/
structure TwoT (W w' : World) (B5 B6 g2 g5 c2 c5 : Nat) (K : Int) : Prop where
  h5 : HoldsL w' B5 (some ⟨g2, 0, none⟩) 2 c2 K
  h6 : HoldsL w' B6 (some ⟨g5, 0, none⟩) 2 c5 K
  r2 : RowC w' (some ⟨g2, 0, none⟩) 2 (byteS sab) w'.heap.size
  r5 : RowC w' (some ⟨g5, 0, none⟩) 2 (byteS sab) w'.heap.size
  f2 : ∀ j, w'.frozen? ⟨g2, j, none⟩ = false
  n5 : g2 ≠ B5
  n6 : g2 ≠ B6
  ng : g2 ≠ g5
  lt : g2 < w'.heap.size
  ge : W.heap.size ≤ g2
  old : Old W w'
theorem twoVars {W WW : World} {B5 B6 g2 g5 c2 c5 : Nat} {cur2 cur5 : Array Value} (K : Int) (v6 : At WW B5 (.cells #[.slice none 0 0, .int .i64 0] 43)) (v7 : At WW B6 (.cells #[.slice none 0 0, .int .i64 0] 43))
    (a2 : At WW g2 (.cells cur2 26 (0, 0))) (a5 : At WW g5 (.cells cur5 26 (0, 0)))
    (o2 : ∀ w', At w' g2 (.cells cur2 26 (0, 0)) → w'.ownsRow 0 26 4 (.slice (some ⟨g2, 0, none⟩) 2 c2) 2 (clsCells (byteS sab) 2))
    (o5 : ∀ w', At w' g5 (.cells cur5 26 (0, 0)) → w'.ownsRow 0 26 4 (.slice (some ⟨g5, 0, none⟩) 2 c5) 2 (clsCells (byteS sab) 2))
    (n56 : B5 ≠ B6) (n25 : g2 ≠ B5) (n26 : g2 ≠ B6) (ng : g2 ≠ g5) (n55 : g5 ≠ B5) (n5 : g5 ≠ B6) (ge : W.heap.size ≤ g2) (ge5 : W.heap.size ≤ B5) (ge6 : W.heap.size ≤ B6) (hO : Old W WW) :
    TwoT W ((((WW.setCell ⟨B5, 0, none⟩ (.slice (some ⟨g2, 0, none⟩) 2 c2)).setCell ⟨B5, 1, none⟩ (.int .i64 K)).setCell ⟨B6, 0, none⟩ (.slice (some ⟨g5, 0, none⟩) 2 c5)).setCell ⟨B6, 1, none⟩ (.int .i64 K)) B5 B6 g2 g5 c2 c5 K := by
  have c50 := v6.cell 0
  have c51 := v6.cell 1
  have c60 := v7.cell 0
  have c61 := v7.cell 1
  simp only [List.getElem?_toArray, List.getElem?_cons_zero, List.getElem?_cons_succ] at c50 c51 c60 c61
  have l5 := v6.lt
  have l6 := v7.lt
  have A2 := (((a2.set (p := ⟨B5, 0, none⟩) (Ne.symm n25) (.slice (some ⟨g2, 0, none⟩) 2 c2)).set (p := ⟨B5, 1, none⟩) (Ne.symm n25) (.int .i64 K)).set (p := ⟨B6, 0, none⟩) (Ne.symm n26) (.slice (some ⟨g5, 0, none⟩) 2 c5)).set (p := ⟨B6, 1, none⟩) (Ne.symm n26) (.int .i64 K)
  have A5 := (((a5.set (p := ⟨B5, 0, none⟩) (Ne.symm n55) (.slice (some ⟨g2, 0, none⟩) 2 c2)).set (p := ⟨B5, 1, none⟩) (Ne.symm n55) (.int .i64 K)).set (p := ⟨B6, 0, none⟩) (Ne.symm n5) (.slice (some ⟨g5, 0, none⟩) 2 c5)).set (p := ⟨B6, 1, none⟩) (Ne.symm n5) (.int .i64 K)
  have hOO := Old.setK (Old.setK (Old.setK (Old.setK hO (p := ⟨B5, 0, none⟩) (v := .slice (some ⟨g2, 0, none⟩) 2 c2) ge5) (p := ⟨B5, 1, none⟩) (v := .int .i64 K) ge5) (p := ⟨B6, 0, none⟩) (v := .slice (some ⟨g5, 0, none⟩) 2 c5) ge6) (p := ⟨B6, 1, none⟩) (v := .int .i64 K) ge6
  have n65 := Ne.symm n56
  exact ⟨⟨by simp [go_sem, c50], by simp [go_sem, c51], by simpa using l5⟩, ⟨by simp [go_sem, c60], by simp [go_sem, c61], by simpa using l6⟩, rowC_of_own (o2 _ A2), rowC_of_own (o5 _ A5), fun j => A2.free j, n25, n26, ng, A2.lt, ge, hOO⟩

theorem holdsL_grw {w w' : World} {B b n cap : Nat} {ad : Option Addr} {K : Int} (h : HoldsL w B ad n cap K) (hg : w.grownBy w' (some b)) (hne : B ≠ b) : HoldsL w' B ad n cap K := by
  have hk := hg.block B h.2.2 (fun e => hne (by cases e; rfl))
  obtain ⟨h0, h1, h2⟩ := h
  refine ⟨?_, ?_, Nat.lt_of_lt_of_le h2 hg.size⟩
  · rw [← h0]; unfold World.cell?; rw [hk]
  · rw [← h1]; unfold World.cell?; rw [hk]
theorem rowC_grw {w w' : World} {ad : Option Addr} {n m b : Nat} {L : Nat → Nat → Bool} (h : RowC w ad n L m) (hg : w.grownBy w' (some b)) (hm : m ≤ w.heap.size) (hne : ∀ c o, ad = some ⟨c, o, none⟩ → 0 < n → c ≠ b) : RowC w' ad n L w'.heap.size := by
  rcases Nat.eq_zero_or_pos n with h0 | h0
  · exact .inl h0
  · rcases h with h | ⟨c, o, ha, hlt, hc⟩
    · omega
    · have hk := hg.block c (by omega) (fun e => hne c o ha h0 (by cases e; rfl))
      have hcell : ∀ j, w'.cell? ⟨c, j, none⟩ = w.cell? ⟨c, j, none⟩ := fun j => by unfold World.cell?; rw [hk]
      refine .inr ⟨c, o, ha, Nat.lt_of_lt_of_le (Nat.lt_of_lt_of_le hlt hm) hg.size, fun j hj => ?_⟩
      obtain ⟨h0, h1, h2, h3⟩ := hc j hj
      exact ⟨(hcell _).trans h0, (hcell _).trans h1, (hcell _).trans h2, (hcell _).trans h3⟩
/-- Only block g was written, a row of two classes. -/
structure LpS (W wr : World) (g : Nat) : Prop where
  grw : W.grownBy wr (some g)
  cells : ∀ j, j < 8 → ∃ x : Nat, wr.cell? ⟨g, j, none⟩ = some (.int .u64 x)
  free : ∀ j, wr.frozen? ⟨g, j, none⟩ = false
  lt : g < wr.heap.size
theorem LpS.start {W : World} {g : Nat} {L : Nat → Nat → Bool} (h : RowC W (some ⟨g, 0, none⟩) 2 L W.heap.size) (hf : ∀ j, W.frozen? ⟨g, j, none⟩ = false) (hl : g < W.heap.size) : LpS W W g where
  grw := World.grownBy.refl _ _
  cells j hj := by
    obtain ⟨b, o, hb, -, e0, e1, e2, e3⟩ := h.at (show 0 < 2 by omega)
    obtain ⟨b', o', hb', -, e4, e5, e6, e7⟩ := h.at (show 1 < 2 by omega)
    cases hb
    cases hb'
    have : j = 0 ∨ j = 1 ∨ j = 2 ∨ j = 3 ∨ j = 4 ∨ j = 5 ∨ j = 6 ∨ j = 7 := by omega
    rcases this with rfl | rfl | rfl | rfl | rfl | rfl | rfl | rfl
    · exact ⟨_, e0⟩
    · exact ⟨_, e1⟩
    · exact ⟨_, e2⟩
    · exact ⟨_, e3⟩
    · exact ⟨_, e4⟩
    · exact ⟨_, e5⟩
    · exact ⟨_, e6⟩
    · exact ⟨_, e7⟩
  free := hf
  lt := hl
theorem grw_set (w : World) (g i : Nat) (v : Value) : w.grownBy (w.setCell ⟨g, i, none⟩ v) (some g) :=
  ⟨rfl, rfl, rfl, by simp, fun k _ hk => Below.heap_setCell _ _ _ k (fun e => hk (by rw [e]))⟩
theorem LpS.one {W wr : World} {g : Nat} (h : LpS W wr g) (i : Nat) (x : Nat) (hi : i < 8) : LpS W (wr.setCell ⟨g, i, none⟩ (.int .u64 x)) g where
  grw := h.grw.trans (grw_set wr g i _)
  cells j hj := by
    obtain ⟨y, hy⟩ := h.cells j hj
    obtain ⟨z, hz⟩ := h.cells i hi
    by_cases he : j = i
    · subst he
      exact ⟨x, by simp [go_sem, hz]⟩
    · have : ¬ (i = j) := fun e => he e.symm
      exact ⟨y, by simp [go_sem, hy]⟩
  free j := by rw [World.frozen?_setCell]; exact h.free j
  lt := by simpa using h.lt
theorem LpS.old {W wr w' : World} {g : Nat} (h : LpS W wr g) (hb : Below wr.heap.size wr w') : LpS W w' g where
  grw := h.grw.trans (grown_of_below hb _)
  cells j hj := by
    obtain ⟨y, hy⟩ := h.cells j hj
    exact ⟨y, (hb.cell (p := ⟨g, j, none⟩) h.lt).trans hy⟩
  free j := (hb.frozen (p := ⟨g, j, none⟩) h.lt).trans (h.free j)
  lt := Nat.lt_of_lt_of_le h.lt hb.size
theorem sameB_comm (n : Nat) (L : Nat → Nat → Bool) (K : Int) (n' : Nat) (L' : Nat → Nat → Bool) (K' : Int) : sameB n' L' K' n L K = sameB n L K n' L' K' := by
  unfold sameB
  by_cases h1 : K = K'
  · subst h1
    by_cases h2 : n = n'
    · subst h2; rw [agC_comm]
    · rw [decide_eq_false h2, decide_eq_false (fun e : n' = n => h2 e.symm)]; simp
  · rw [decide_eq_false h1, decide_eq_false (fun e : K' = K => h1 e.symm)]; simp

set_option maxRecDepth 100000 in
set_option maxHeartbeats 4000000 in
theorem leafSame_walk (ad : Option Addr) (n cap : Nat) (K : Int) (L : Nat → Nat → Bool) (hn : (n : Int) ≤ 4611686018427387904) (ad' : Option Addr) (n' cap' : Nat) (K' : Int) (L' : Nat → Nat → Bool) (hn' : (n' : Int) ≤ 4611686018427387904) (w : World) (hR : RowC w ad n L w.heap.size) (hR' : RowC w ad' n' L' w.heap.size) :
    Calls Try.prog 19 #[lv ad n cap K, lv ad' n' cap' K'] w fun e w' => e = .returned (.bool true) ∧ Below w.heap.size w w' := by
  obtain ⟨W0, hW0⟩ : ∃ W0, W0 = ((w.alloc (.cells #[.slice ad n cap, .int .i64 K] 43)).alloc (.cells #[.slice ad' n' cap', .int .i64 K'] 43)) := ⟨_, rfl⟩
  have HB : Below w.heap.size w W0 := by rw [hW0]; exact (((Below.refl _ _).alloc (Nat.le_refl _) _).alloc (by simp) _)
  have hR0 := (hR.below HB (Nat.le_refl _)).mono HB.size
  have hR0' := (hR'.below HB (Nat.le_refl _)).mono HB.size
  have hl : HoldsL W0 (w.heap.size) ad n cap K := by rw [hW0]; exact ⟨by simp [go_sem], by simp [go_sem], by simp <;> omega⟩
  have hl' : HoldsL W0 (w.heap.size + 1) ad' n' cap' K' := by rw [hW0]; exact ⟨by simp [go_sem], by simp [go_sem], by simp <;> omega⟩
  by_cases hf : n ≤ 100
  · by_cases hf' : n' ≤ 100
    · go_enter Try.func19, Try.ntmps19
      go_wp2_with fail
      rw [← hW0]
      clear hW0 hR hR'
      obtain ⟨c0, c1, cl⟩ := id hl
      obtain ⟨d0, d1, dl⟩ := id hl'
      refine (few07_any ad n cap K hn _).mono ?_
      rw [decide_eq_true hf]
      rintro e w1 ⟨rfl, hb1⟩
      replace HB := HB.trans (hb1.mono HB.size)
      replace hR0 := (hR0.below hb1 (Nat.le_refl _)).mono hb1.size
      replace hR0' := (hR0'.below hb1 (Nat.le_refl _)).mono hb1.size
      replace hl := hl.below hb1 hl.2.2
      replace hl' := hl'.below hb1 hl'.2.2
      clear hb1 c0 c1 cl d0 d1 dl
      obtain ⟨c0, c1, cl⟩ := id hl
      obtain ⟨d0, d1, dl⟩ := id hl'
      go_wp2_with fail
      refine (few07_any ad' n' cap' K' hn' _).mono ?_
      rw [decide_eq_true hf']
      rintro e w2 ⟨rfl, hb2⟩
      replace HB := HB.trans (hb2.mono HB.size)
      replace hR0 := (hR0.below hb2 (Nat.le_refl _)).mono hb2.size
      replace hR0' := (hR0'.below hb2 (Nat.le_refl _)).mono hb2.size
      replace hl := hl.below hb2 hl.2.2
      replace hl' := hl'.below hb2 hl'.2.2
      clear hb2 c0 c1 cl d0 d1 dl
      obtain ⟨c0, c1, cl⟩ := id hl
      obtain ⟨d0, d1, dl⟩ := id hl'
      go_wp2_with fail
      refine Code.wp_mono (Q := fun e a w' => ∃ (B5 B6 g2 g5 c2 c5 : Nat) (u8 u9 u10 u11 u12 u13 u14 u15 u16 u17 u18 u19 u20 u21 u22 : Value), e = .normal ∧ a = { tmps := List.toArray (lv ad n cap K :: lv ad' n' cap' K' :: .pointer (some ⟨w.heap.size, 0, none⟩) :: .pointer (some ⟨w.heap.size + 1, 0, none⟩) :: .bool false :: .pointer (some ⟨B5, 0, none⟩) :: .pointer (some ⟨B6, 0, none⟩) :: undef :: u8 :: u9 :: u10 :: u11 :: u12 :: u13 :: u14 :: u15 :: u16 :: u17 :: u18 :: u19 :: u20 :: u21 :: u22 :: undef :: undef :: undef :: undef :: undef :: undef :: undef :: undef :: undef :: undef :: undef :: undef :: undef :: undef :: undef :: undef :: undef :: undef :: undef :: undef :: undef :: undef :: undef :: undef :: undef :: undef :: undef :: undef :: undef :: undef :: undef :: undef :: undef :: undef :: undef :: undef :: undef :: undef :: undef :: undef :: undef :: undef :: undef :: []), defers := [] } ∧ TwoT w2 w' B5 B6 g2 g5 c2 c5 K) ?_ ?_
      · rintro e a w3 ⟨B5, B6, g2, g5, c2, c5, u8, u9, u10, u11, u12, u13, u14, u15, u16, u17, u18, u19, u20, u21, u22, rfl, rfl, hT⟩
        have hl3 := hl.below hT.old.2.2.2 hl.2.2
        have hl3' := hl'.below hT.old.2.2.2 hl'.2.2
        have hR3 := (hR0.below hT.old.2.2.2 (Nat.le_refl _))
        have hR3' := (hR0'.below hT.old.2.2.2 (Nat.le_refl _))
        have HB3 := HB.trans (hT.old.2.2.2.mono HB.size)
        have hsz := hT.old.2.2.1
        have hge := hT.ge
        have q1 : w.heap.size < w2.heap.size := hl.2.2
        have q2 : w.heap.size + 1 < w2.heap.size := hl'.2.2
        have h5 := hT.h5
        have h6 := hT.h6
        have r5 := hT.r5
        have n5 := hT.n5
        have n6 := hT.n6
        have ng := hT.ng
        have hS := LpS.start hT.r2 hT.f2 hT.lt
        obtain ⟨b5, hb5⟩ : ∃ b5, b5 = B5 := ⟨_, rfl⟩
        clear c0 c1 cl d0 d1 dl hT hR0 hR0' hl hl' HB hb5 b5
        obtain ⟨x0, x1, xl⟩ := id h5
        go_wp2_with fail
        go_loopw [26] (fun i wr => ∃ k : Nat, k ≤ 2 ∧ i = .int .i64 k ∧ LpS w3 wr g2) (fun i _ => 2 - (intOf i).toNat)
        case atStart => exact ⟨0, by omega, rfl, hS⟩
        case round =>
          obtain ⟨k, hk, rfl, hL⟩ := hrel
          have hgr := hL.grw
          have h5r := holdsL_grw h5 hgr (Ne.symm n5)
          have hgl := hL.lt
          clear x0 x1 xl
          by_cases hlt : k < 2
          · obtain ⟨x0, x1, xl⟩ := id h5r
            have hlti : (k : Int) < 2 := by omega
            have hk0 : (0 : Int) ≤ k := by omega
            obtain ⟨y0, e0⟩ := hL.cells (k * 4) (by omega)
            obtain ⟨y1, e1⟩ := hL.cells (k * 4 + 1) (by omega)
            obtain ⟨y2, e2⟩ := hL.cells (k * 4 + 2) (by omega)
            obtain ⟨y3, e3⟩ := hL.cells (k * 4 + 3) (by omega)
            have f0 := hL.free (k * 4)
            have f1 := hL.free (k * 4 + 1)
            have f2 := hL.free (k * 4 + 2)
            have f3 := hL.free (k * 4 + 3)
            have HL := Lib.hid hL
            clear hL hgr h5r hl3 hl3' hR3 hR3' h5 h6 r5 hS HB3
            go_wp2_with fail
            go_region_held3 (fun w' => w'.cell? ⟨B5, 0, none⟩ = some (.slice (some ⟨g2, 0, none⟩) 2 c2)) (first | assumption | (simp [go_sem, *]; done) | go_keep) (first | (go_at_call 38; refine (full_any _).mono ?_; rintro e w' ⟨rfl, hb'⟩; have k0 := (hb'.cell (p := ⟨B5, 0, none⟩) xl).trans x0; have e0' := (hb'.cell (p := ⟨g2, k * 4, none⟩) hgl).trans e0; have e1' := (hb'.cell (p := ⟨g2, k * 4 + 1, none⟩) hgl).trans e1; have e2' := (hb'.cell (p := ⟨g2, k * 4 + 2, none⟩) hgl).trans e2; have e3' := (hb'.cell (p := ⟨g2, k * 4 + 3, none⟩) hgl).trans e3; have f0' := (hb'.frozen (p := ⟨g2, k * 4, none⟩) hgl).trans f0; have f1' := (hb'.frozen (p := ⟨g2, k * 4 + 1, none⟩) hgl).trans f1; have f2' := (hb'.frozen (p := ⟨g2, k * 4 + 2, none⟩) hgl).trans f2; have f3' := (hb'.frozen (p := ⟨g2, k * 4 + 3, none⟩) hgl).trans f3))
            go_wp2
            exact ⟨⟨k + 1, by omega, by go_num, ((((HL.out.old (Old.calld (Old.refl wr) hb').2.2.2).one (k * 4) _ (by omega)).one (k * 4 + 1) _ (by omega)).one (k * 4 + 2) _ (by omega)).one (k * 4 + 3) _ (by omega)⟩, by simp [intOf]; omega⟩
          · obtain rfl : k = 2 := by omega
            have hlr := holdsL_grw hl3 hgr (by omega)
            have hlr' := holdsL_grw hl3' hgr (by omega)
            have h6r := holdsL_grw h6 hgr (Ne.symm n6)
            have hRr := rowC_grw hR3 hgr hsz (fun c o ha h0 => by rcases hR3 with h | ⟨b, o', hb, hlt', _⟩ <;> first | omega | (rw [ha] at hb; cases hb; omega))
            have hRr' := rowC_grw hR3' hgr hsz (fun c o ha h0 => by rcases hR3' with h | ⟨b, o', hb, hlt', _⟩ <;> first | omega | (rw [ha] at hb; cases hb; omega))
            have r5r := rowC_grw r5 hgr (Nat.le_refl _) (fun c o ha _ => by cases ha; exact Ne.symm ng)
            have HBr : Below w.heap.size w wr := HB3.trans (grown_below hgr (by omega) (fun j hj => by cases hj; omega))
            clear hL h5r hl3 hl3' hR3 hR3' h5 h6 r5 hS HB3 hgr
            obtain ⟨c0, c1, cl⟩ := hlr
            obtain ⟨d0, d1, dl⟩ := hlr'
            obtain ⟨x0, x1, xl⟩ := h6r
            have s1 := fun w' h h' => same_any ad n cap K L ad' n' cap' K' L' hn hn' w' h h'
            have s2 := fun w' h h' => same_any ad' n' cap' K' L' ad n cap K L hn' hn w' h h'
            have s3 := fun w' h h' => rsame_any ad n cap K L ad' n' cap' K' L' hn hn' w' h h'
            have s4 := fun w' h => same_any ad n cap K L ad n cap K L hn hn w' h h
            have s5 := fun ad2 cap2 w' h h' => rsame_any (some ⟨g5, 0, none⟩) 2 c5 K (byteS sab) ad2 2 cap2 K (byteS sab) (by omega) (by omega) w' h h'
            rw [sameB_comm] at s2
            rw [al_same] at s4 s5
            generalize sameB n L K n' L' K' = S at s1 s2 s3
            have S1 := Lib.hid s1
            have S2 := Lib.hid s2
            have S3 := Lib.hid s3
            have S4 := Lib.hid s4
            have S5 := Lib.hid s5
            clear s1 s2 s3 s4 s5
            go_wp2_with fail
            go_region_held3 (fun w' => Old wr w') (first | with_reducible exact Old.start _ | with_reducible exact Old.calld (Old.refl _) (by assumption) | with_reducible exact Old.call (by assumption) (by assumption)) (first | (go_at_call 67; refine (alive07 _).mono ?_; rintro e w' ⟨rfl, hb'⟩) | (go_at_call 78; first | (with_reducible refine (S1.out _ ((hRr.below (show Old wr _ by with_reducible assumption).2.2.2 (Nat.le_refl _)).mono (show Old wr _ by with_reducible assumption).2.2.1) ((hRr'.below (show Old wr _ by with_reducible assumption).2.2.2 (Nat.le_refl _)).mono (show Old wr _ by with_reducible assumption).2.2.1)).mono ?_; rintro e w' ⟨rfl, hb'⟩) | (with_reducible refine (S4.out _ ((hRr.below (show Old wr _ by with_reducible assumption).2.2.2 (Nat.le_refl _)).mono (show Old wr _ by with_reducible assumption).2.2.1)).mono ?_; rintro e w' ⟨rfl, hb'⟩) | (with_reducible refine (S2.out _ ((hRr'.below (show Old wr _ by with_reducible assumption).2.2.2 (Nat.le_refl _)).mono (show Old wr _ by with_reducible assumption).2.2.1) ((hRr.below (show Old wr _ by with_reducible assumption).2.2.2 (Nat.le_refl _)).mono (show Old wr _ by with_reducible assumption).2.2.1)).mono ?_; rintro e w' ⟨rfl, hb'⟩)) | (go_at_call 76; refine (rtext_ab7 K _).mono ?_; rintro e w' ⟨ad9, cap9, rfl, ho9, hb'⟩; have hR9 := rowC_of_own ho9) | (go_at_call 75; first | (with_reducible refine (S3.out _ ((hRr.below (show Old wr _ by with_reducible assumption).2.2.2 (Nat.le_refl _)).mono (show Old wr _ by with_reducible assumption).2.2.1) ((hRr'.below (show Old wr _ by with_reducible assumption).2.2.2 (Nat.le_refl _)).mono (show Old wr _ by with_reducible assumption).2.2.1)).mono ?_; rintro e w' ⟨rfl, hb'⟩) | (with_reducible refine (S5.out _ _ _ ((r5r.below (show Old wr _ by with_reducible assumption).2.2.2 (Nat.le_refl _)).mono (show Old wr _ by with_reducible assumption).2.2.1) (by assumption)).mono ?_; rintro e w' ⟨rfl, hb'⟩)))
            go_wp2
            go_ret
            exact ⟨rfl, HBr.trans ((show Old wr _ by assumption).2.2.2.mono HBr.size)⟩
      · refine wp_region_noPanic ?_
        refine wp_region_held_drew (S := fun w' => Old w2 w') (by kernel_rfl) (Old.start _) (fun hHeld => ?_)
        refine takeD 0 17 (.pointer (some ⟨w.heap.size, 1, none⟩)) rfl rfl (by kernel_rfl) (by kernel_rfl) (by kernel_rfl) (fun _ _ _ h => h) (Or.inl ⟨by rfl, by intro w' hSw; have hc := hSw.1; go_simp⟩) hHeld ?_
        try simp only [Act.put, List.setIfInBounds_toArray, List.set_cons_zero, List.set_cons_succ]
        refine takeD 1 18 (.int .i64 K) rfl rfl (by kernel_rfl) (by kernel_rfl) (by kernel_rfl) (fun _ _ _ h => h) (Or.inl ⟨by rfl, by intro w' hSw; have hc := hSw.1; go_simp⟩) hHeld ?_
        try simp only [Act.put, List.setIfInBounds_toArray, List.set_cons_zero, List.set_cons_succ]
        refine takeD 3 20 (.pointer (some ⟨w.heap.size, 1, none⟩)) rfl rfl (by kernel_rfl) (by kernel_rfl) (by kernel_rfl) (fun _ _ _ h => h) (Or.inl ⟨by rfl, by intro w' hSw; have hc := hSw.1; go_simp⟩) hHeld ?_
        try simp only [Act.put, List.setIfInBounds_toArray, List.set_cons_zero, List.set_cons_succ]
        refine takeD 4 21 (.int .i64 K) rfl rfl (by kernel_rfl) (by kernel_rfl) (by kernel_rfl) (fun _ _ _ h => h) (Or.inl ⟨by rfl, by intro w' hSw; have hc := hSw.1; go_simp⟩) hHeld ?_
        try simp only [Act.put, List.setIfInBounds_toArray, List.set_cons_zero, List.set_cons_succ]
        refine wpAnyH_ready (rs := [2, 6, 7]) (by kernel_rfl) (by simp) ?_
        refine AllReadyH.cons rfl (fun Kc hK => ?_) (AllReadyH.cons rfl (fun Kc hK => ?_) (AllReadyH.cons rfl (fun Kc hK => ?_) AllReadyH.nil))
        · go_simp
          go_at_call 73
          refine (text_ab7 K _).mono ?_
          rintro e wt2 ⟨ad2, cap2, rfl, ho2, hb2⟩
          obtain ⟨g2, cur2, rfl, qg2, a2, o2⟩ := at_own ho2
          dsimp only
          refine hK.out _ _ (by repeat' (first | with_reducible assumption | with_reducible exact Old.refl _ | with_reducible refine Old.drewK ?_ | with_reducible refine Old.alloc ?_ _ | with_reducible refine Old.setK ?_ ?_ | with_reducible refine Old.call ?_ (by with_reducible assumption) | omega | (simp; omega) | simp)) (fun hHeld2 => ?_)
          try simp only [Act.put, List.setIfInBounds_toArray, List.set_cons_zero, List.set_cons_succ]
          clear hK Kc
          simp only [sz_drew] at qg2
          have ge2 : w2.heap.size ≤ g2 := by have := hHeld.2.2.1; simp only [sz_drew] at this; omega
          refine wpAnyH_ready (rs := [5, 6, 7]) (by kernel_rfl) (by simp) ?_
          refine AllReadyH.cons rfl (fun Kc hK => ?_) (AllReadyH.cons rfl (fun Kc hK => ?_) (AllReadyH.cons rfl (fun Kc hK => ?_) AllReadyH.nil))
          · go_simp
            go_at_call 73
            refine (text_ab7 K _).mono ?_
            rintro e wt5 ⟨ad5, cap5, rfl, ho5, hb5⟩
            obtain ⟨g5, cur5, rfl, qg5, a5, o5⟩ := at_own ho5
            dsimp only
            refine hK.out _ _ (by repeat' (first | with_reducible assumption | with_reducible exact Old.refl _ | with_reducible refine Old.drewK ?_ | with_reducible refine Old.alloc ?_ _ | with_reducible refine Old.setK ?_ ?_ | with_reducible refine Old.call ?_ (by with_reducible assumption) | omega | (simp; omega) | simp)) (fun hHeld3 => ?_)
            try simp only [Act.put, List.setIfInBounds_toArray, List.set_cons_zero, List.set_cons_succ]
            clear hK Kc
            have n_a2_a5 := a2.lt
            replace a2 := a2.below hb5
            have ge5 : w2.heap.size ≤ g5 := by have := hHeld2.2.2.1; omega
            replace n_a2_a5 : g2 ≠ g5 := by omega
            refine wpAnyH_ready (rs := [6, 7]) (by kernel_rfl) (by simp) ?_
            refine AllReadyH.cons rfl (fun Kc hK => ?_) (AllReadyH.cons rfl (fun Kc hK => ?_) AllReadyH.nil)
            · go_simp
              refine hK.out _ _ (by repeat' (first | with_reducible assumption | with_reducible exact Old.refl _ | with_reducible refine Old.drewK ?_ | with_reducible refine Old.alloc ?_ _ | with_reducible refine Old.setK ?_ ?_ | with_reducible refine Old.call ?_ (by with_reducible assumption) | omega | (simp; omega) | simp)) (fun hHeld4 => ?_)
              try simp only [Act.put, List.setIfInBounds_toArray, List.set_cons_zero, List.set_cons_succ]
              clear hK Kc
              have ge6 : w2.heap.size ≤ wt5.heap.size := by have := hHeld3.2.2.1; omega
              have n_a2_v6 := a2.lt
              have n_a5_v6 := a5.lt
              have v6 := At.new (wt5) (.cells #[.slice none 0 0, .int .i64 0] 43)
              replace n_a2_v6 : g2 ≠ wt5.heap.size := by omega
              replace n_a5_v6 : g5 ≠ wt5.heap.size := by omega
              replace a2 := a2.alloc (.cells #[.slice none 0 0, .int .i64 0] 43)
              replace a5 := a5.alloc (.cells #[.slice none 0 0, .int .i64 0] 43)
              refine wpAnyH_ready (rs := [7]) (by kernel_rfl) (by simp) ?_
              refine AllReadyH.cons rfl (fun Kc hK => ?_) AllReadyH.nil
              go_simp
              refine hK.out _ _ (by repeat' (first | with_reducible assumption | with_reducible exact Old.refl _ | with_reducible refine Old.drewK ?_ | with_reducible refine Old.alloc ?_ _ | with_reducible refine Old.setK ?_ ?_ | with_reducible refine Old.call ?_ (by with_reducible assumption) | omega | (simp; omega) | simp)) (fun hHeld5 => ?_)
              try simp only [Act.put, List.setIfInBounds_toArray, List.set_cons_zero, List.set_cons_succ]
              clear hK Kc
              have ge7 : w2.heap.size ≤ wt5.heap.size + 1 := by have := hHeld4.2.2.1; simp only [World.size_alloc] at this; omega
              have n_a2_v7 := a2.lt
              have n_a5_v7 := a5.lt
              have n_v6_v7 := v6.lt
              have v7 := At.new ((wt5).alloc (.cells #[.slice none 0 0, .int .i64 0] 43)) (.cells #[.slice none 0 0, .int .i64 0] 43)
              simp only [World.size_alloc] at v7 n_a2_v7 n_a5_v7 n_v6_v7
              replace n_a2_v7 : g2 ≠ wt5.heap.size + 1 := by omega
              replace n_a5_v7 : g5 ≠ wt5.heap.size + 1 := by omega
              replace n_v6_v7 : wt5.heap.size ≠ wt5.heap.size + 1 := by omega
              replace a2 := a2.alloc (.cells #[.slice none 0 0, .int .i64 0] 43)
              replace a5 := a5.alloc (.cells #[.slice none 0 0, .int .i64 0] 43)
              replace v6 := v6.alloc (.cells #[.slice none 0 0, .int .i64 0] 43)
              generalize hWW : ((wt5).alloc (.cells #[.slice none 0 0, .int .i64 0] 43)).alloc (.cells #[.slice none 0 0, .int .i64 0] 43) = WW at hHeld5 a2 a5 v6 v7 ⊢
              clear hWW
              have hT := twoVars (W := w2) (WW := WW) (B5 := wt5.heap.size) (B6 := wt5.heap.size + 1) (c2 := cap2) (c5 := cap5) K v6 v7 a2 a5 o2 o5 n_v6_v7 n_a2_v6 n_a2_v7 n_a2_a5 n_a5_v6 n_a5_v7 ge2 ge6 ge7 hHeld5
              have e50 := v6.cell 0
              have e51 := v6.cell 1
              have e60 := v7.cell 0
              have e61 := v7.cell 1
              have f50 := v6.free 0
              have f51 := v6.free 1
              have f60 := v7.free 0
              have f61 := v7.free 1
              simp only [List.getElem?_toArray, List.getElem?_cons_zero, List.getElem?_cons_succ] at e50 e51 e60 e61
              have n56 := n_v6_v7
              have n65 := Ne.symm n56
              refine wpAnyH_ready (rs := [8]) (by kernel_rfl) (by simp) ?_
              refine AllReadyH.cons rfl (fun Kc hK => ?_) AllReadyH.nil
              go_simp
              refine hK.out _ _ (by repeat' (first | with_reducible assumption | with_reducible exact Old.refl _ | with_reducible refine Old.drewK ?_ | with_reducible refine Old.alloc ?_ _ | with_reducible refine Old.setK ?_ ?_ | with_reducible refine Old.call ?_ (by with_reducible assumption) | omega | (simp; omega) | simp)) (fun hHeld6 => ?_)
              try simp only [Act.put, List.setIfInBounds_toArray, List.set_cons_zero, List.set_cons_succ]
              clear hK Kc
              refine wpAnyH_ready (rs := [9]) (by kernel_rfl) (by simp) ?_
              refine AllReadyH.cons rfl (fun Kc hK => ?_) AllReadyH.nil
              go_simp
              refine hK.out _ _ (by repeat' (first | with_reducible assumption | with_reducible exact Old.refl _ | with_reducible refine Old.drewK ?_ | with_reducible refine Old.alloc ?_ _ | with_reducible refine Old.setK ?_ ?_ | with_reducible refine Old.call ?_ (by with_reducible assumption) | omega | (simp; omega) | simp)) (fun hHeld7 => ?_)
              try simp only [Act.put, List.setIfInBounds_toArray, List.set_cons_zero, List.set_cons_succ]
              clear hK Kc
              refine wpAnyH_done (by kernel_rfl) ?_ _
              refine NoPanic.normal ?_
              exact ⟨_, _, _, _, _, _, _, _, _, _, _, _, _, _, _, _, _, _, _, _, _, rfl, rfl, hT⟩
            · go_simp
              refine hK.out _ _ (by repeat' (first | with_reducible assumption | with_reducible exact Old.refl _ | with_reducible refine Old.drewK ?_ | with_reducible refine Old.alloc ?_ _ | with_reducible refine Old.setK ?_ ?_ | with_reducible refine Old.call ?_ (by with_reducible assumption) | omega | (simp; omega) | simp)) (fun hHeld4 => ?_)
              try simp only [Act.put, List.setIfInBounds_toArray, List.set_cons_zero, List.set_cons_succ]
              clear hK Kc
              have ge7 : w2.heap.size ≤ wt5.heap.size := by have := hHeld3.2.2.1; omega
              have n_a2_v7 := a2.lt
              have n_a5_v7 := a5.lt
              have v7 := At.new (wt5) (.cells #[.slice none 0 0, .int .i64 0] 43)
              replace n_a2_v7 : g2 ≠ wt5.heap.size := by omega
              replace n_a5_v7 : g5 ≠ wt5.heap.size := by omega
              replace a2 := a2.alloc (.cells #[.slice none 0 0, .int .i64 0] 43)
              replace a5 := a5.alloc (.cells #[.slice none 0 0, .int .i64 0] 43)
              refine wpAnyH_ready (rs := [6]) (by kernel_rfl) (by simp) ?_
              refine AllReadyH.cons rfl (fun Kc hK => ?_) AllReadyH.nil
              go_simp
              refine hK.out _ _ (by repeat' (first | with_reducible assumption | with_reducible exact Old.refl _ | with_reducible refine Old.drewK ?_ | with_reducible refine Old.alloc ?_ _ | with_reducible refine Old.setK ?_ ?_ | with_reducible refine Old.call ?_ (by with_reducible assumption) | omega | (simp; omega) | simp)) (fun hHeld5 => ?_)
              try simp only [Act.put, List.setIfInBounds_toArray, List.set_cons_zero, List.set_cons_succ]
              clear hK Kc
              have ge6 : w2.heap.size ≤ wt5.heap.size + 1 := by have := hHeld4.2.2.1; simp only [World.size_alloc] at this; omega
              have n_a2_v6 := a2.lt
              have n_a5_v6 := a5.lt
              have n_v7_v6 := v7.lt
              have v6 := At.new ((wt5).alloc (.cells #[.slice none 0 0, .int .i64 0] 43)) (.cells #[.slice none 0 0, .int .i64 0] 43)
              simp only [World.size_alloc] at v6 n_a2_v6 n_a5_v6 n_v7_v6
              replace n_a2_v6 : g2 ≠ wt5.heap.size + 1 := by omega
              replace n_a5_v6 : g5 ≠ wt5.heap.size + 1 := by omega
              replace n_v7_v6 : wt5.heap.size ≠ wt5.heap.size + 1 := by omega
              replace a2 := a2.alloc (.cells #[.slice none 0 0, .int .i64 0] 43)
              replace a5 := a5.alloc (.cells #[.slice none 0 0, .int .i64 0] 43)
              replace v7 := v7.alloc (.cells #[.slice none 0 0, .int .i64 0] 43)
              generalize hWW : ((wt5).alloc (.cells #[.slice none 0 0, .int .i64 0] 43)).alloc (.cells #[.slice none 0 0, .int .i64 0] 43) = WW at hHeld5 a2 a5 v6 v7 ⊢
              clear hWW
              have hT := twoVars (W := w2) (WW := WW) (B5 := wt5.heap.size + 1) (B6 := wt5.heap.size) (c2 := cap2) (c5 := cap5) K v6 v7 a2 a5 o2 o5 (Ne.symm n_v7_v6) n_a2_v6 n_a2_v7 n_a2_a5 n_a5_v6 n_a5_v7 ge2 ge6 ge7 hHeld5
              have e50 := v6.cell 0
              have e51 := v6.cell 1
              have e60 := v7.cell 0
              have e61 := v7.cell 1
              have f50 := v6.free 0
              have f51 := v6.free 1
              have f60 := v7.free 0
              have f61 := v7.free 1
              simp only [List.getElem?_toArray, List.getElem?_cons_zero, List.getElem?_cons_succ] at e50 e51 e60 e61
              have n56 := (Ne.symm n_v7_v6)
              have n65 := Ne.symm n56
              refine wpAnyH_ready (rs := [8]) (by kernel_rfl) (by simp) ?_
              refine AllReadyH.cons rfl (fun Kc hK => ?_) AllReadyH.nil
              go_simp
              refine hK.out _ _ (by repeat' (first | with_reducible assumption | with_reducible exact Old.refl _ | with_reducible refine Old.drewK ?_ | with_reducible refine Old.alloc ?_ _ | with_reducible refine Old.setK ?_ ?_ | with_reducible refine Old.call ?_ (by with_reducible assumption) | omega | (simp; omega) | simp)) (fun hHeld6 => ?_)
              try simp only [Act.put, List.setIfInBounds_toArray, List.set_cons_zero, List.set_cons_succ]
              clear hK Kc
              refine wpAnyH_ready (rs := [9]) (by kernel_rfl) (by simp) ?_
              refine AllReadyH.cons rfl (fun Kc hK => ?_) AllReadyH.nil
              go_simp
              refine hK.out _ _ (by repeat' (first | with_reducible assumption | with_reducible exact Old.refl _ | with_reducible refine Old.drewK ?_ | with_reducible refine Old.alloc ?_ _ | with_reducible refine Old.setK ?_ ?_ | with_reducible refine Old.call ?_ (by with_reducible assumption) | omega | (simp; omega) | simp)) (fun hHeld7 => ?_)
              try simp only [Act.put, List.setIfInBounds_toArray, List.set_cons_zero, List.set_cons_succ]
              clear hK Kc
              refine wpAnyH_done (by kernel_rfl) ?_ _
              refine NoPanic.normal ?_
              exact ⟨_, _, _, _, _, _, _, _, _, _, _, _, _, _, _, _, _, _, _, _, _, rfl, rfl, hT⟩
          · go_simp
            refine hK.out _ _ (by repeat' (first | with_reducible assumption | with_reducible exact Old.refl _ | with_reducible refine Old.drewK ?_ | with_reducible refine Old.alloc ?_ _ | with_reducible refine Old.setK ?_ ?_ | with_reducible refine Old.call ?_ (by with_reducible assumption) | omega | (simp; omega) | simp)) (fun hHeld3 => ?_)
            try simp only [Act.put, List.setIfInBounds_toArray, List.set_cons_zero, List.set_cons_succ]
            clear hK Kc
            have ge6 : w2.heap.size ≤ wt2.heap.size := by have := hHeld2.2.2.1; omega
            have n_a2_v6 := a2.lt
            have v6 := At.new (wt2) (.cells #[.slice none 0 0, .int .i64 0] 43)
            replace n_a2_v6 : g2 ≠ wt2.heap.size := by omega
            replace a2 := a2.alloc (.cells #[.slice none 0 0, .int .i64 0] 43)
            refine wpAnyH_ready (rs := [5, 7]) (by kernel_rfl) (by simp) ?_
            refine AllReadyH.cons rfl (fun Kc hK => ?_) (AllReadyH.cons rfl (fun Kc hK => ?_) AllReadyH.nil)
            · go_simp
              go_at_call 73
              refine (text_ab7 K _).mono ?_
              rintro e wt5 ⟨ad5, cap5, rfl, ho5, hb5⟩
              obtain ⟨g5, cur5, rfl, qg5, a5, o5⟩ := at_own ho5
              dsimp only
              refine hK.out _ _ (by repeat' (first | with_reducible assumption | with_reducible exact Old.refl _ | with_reducible refine Old.drewK ?_ | with_reducible refine Old.alloc ?_ _ | with_reducible refine Old.setK ?_ ?_ | with_reducible refine Old.call ?_ (by with_reducible assumption) | omega | (simp; omega) | simp)) (fun hHeld4 => ?_)
              try simp only [Act.put, List.setIfInBounds_toArray, List.set_cons_zero, List.set_cons_succ]
              clear hK Kc
              have n_a2_a5 := a2.lt
              have n_v6_a5 := v6.lt
              replace a2 := a2.below hb5
              replace v6 := v6.below hb5
              simp only [World.size_alloc] at qg5 n_a2_a5 n_v6_a5
              have ge5 : w2.heap.size ≤ g5 := by have := hHeld3.2.2.1; simp only [World.size_alloc] at this; omega
              replace n_a2_a5 : g2 ≠ g5 := by omega
              replace n_v6_a5 : wt2.heap.size ≠ g5 := by omega
              refine wpAnyH_ready (rs := [7]) (by kernel_rfl) (by simp) ?_
              refine AllReadyH.cons rfl (fun Kc hK => ?_) AllReadyH.nil
              go_simp
              refine hK.out _ _ (by repeat' (first | with_reducible assumption | with_reducible exact Old.refl _ | with_reducible refine Old.drewK ?_ | with_reducible refine Old.alloc ?_ _ | with_reducible refine Old.setK ?_ ?_ | with_reducible refine Old.call ?_ (by with_reducible assumption) | omega | (simp; omega) | simp)) (fun hHeld5 => ?_)
              try simp only [Act.put, List.setIfInBounds_toArray, List.set_cons_zero, List.set_cons_succ]
              clear hK Kc
              have ge7 : w2.heap.size ≤ wt5.heap.size := by have := hHeld4.2.2.1; omega
              have n_a2_v7 := a2.lt
              have n_v6_v7 := v6.lt
              have n_a5_v7 := a5.lt
              have v7 := At.new (wt5) (.cells #[.slice none 0 0, .int .i64 0] 43)
              replace n_a2_v7 : g2 ≠ wt5.heap.size := by omega
              replace n_v6_v7 : wt2.heap.size ≠ wt5.heap.size := by omega
              replace n_a5_v7 : g5 ≠ wt5.heap.size := by omega
              replace a2 := a2.alloc (.cells #[.slice none 0 0, .int .i64 0] 43)
              replace v6 := v6.alloc (.cells #[.slice none 0 0, .int .i64 0] 43)
              replace a5 := a5.alloc (.cells #[.slice none 0 0, .int .i64 0] 43)
              generalize hWW : (wt5).alloc (.cells #[.slice none 0 0, .int .i64 0] 43) = WW at hHeld5 a2 a5 v6 v7 ⊢
              clear hWW
              have hT := twoVars (W := w2) (WW := WW) (B5 := wt2.heap.size) (B6 := wt5.heap.size) (c2 := cap2) (c5 := cap5) K v6 v7 a2 a5 o2 o5 n_v6_v7 n_a2_v6 n_a2_v7 n_a2_a5 (Ne.symm n_v6_a5) n_a5_v7 ge2 ge6 ge7 hHeld5
              have e50 := v6.cell 0
              have e51 := v6.cell 1
              have e60 := v7.cell 0
              have e61 := v7.cell 1
              have f50 := v6.free 0
              have f51 := v6.free 1
              have f60 := v7.free 0
              have f61 := v7.free 1
              simp only [List.getElem?_toArray, List.getElem?_cons_zero, List.getElem?_cons_succ] at e50 e51 e60 e61
              have n56 := n_v6_v7
              have n65 := Ne.symm n56
              refine wpAnyH_ready (rs := [8]) (by kernel_rfl) (by simp) ?_
              refine AllReadyH.cons rfl (fun Kc hK => ?_) AllReadyH.nil
              go_simp
              refine hK.out _ _ (by repeat' (first | with_reducible assumption | with_reducible exact Old.refl _ | with_reducible refine Old.drewK ?_ | with_reducible refine Old.alloc ?_ _ | with_reducible refine Old.setK ?_ ?_ | with_reducible refine Old.call ?_ (by with_reducible assumption) | omega | (simp; omega) | simp)) (fun hHeld6 => ?_)
              try simp only [Act.put, List.setIfInBounds_toArray, List.set_cons_zero, List.set_cons_succ]
              clear hK Kc
              refine wpAnyH_ready (rs := [9]) (by kernel_rfl) (by simp) ?_
              refine AllReadyH.cons rfl (fun Kc hK => ?_) AllReadyH.nil
              go_simp
              refine hK.out _ _ (by repeat' (first | with_reducible assumption | with_reducible exact Old.refl _ | with_reducible refine Old.drewK ?_ | with_reducible refine Old.alloc ?_ _ | with_reducible refine Old.setK ?_ ?_ | with_reducible refine Old.call ?_ (by with_reducible assumption) | omega | (simp; omega) | simp)) (fun hHeld7 => ?_)
              try simp only [Act.put, List.setIfInBounds_toArray, List.set_cons_zero, List.set_cons_succ]
              clear hK Kc
              refine wpAnyH_done (by kernel_rfl) ?_ _
              refine NoPanic.normal ?_
              exact ⟨_, _, _, _, _, _, _, _, _, _, _, _, _, _, _, _, _, _, _, _, _, rfl, rfl, hT⟩
            · go_simp
              refine hK.out _ _ (by repeat' (first | with_reducible assumption | with_reducible exact Old.refl _ | with_reducible refine Old.drewK ?_ | with_reducible refine Old.alloc ?_ _ | with_reducible refine Old.setK ?_ ?_ | with_reducible refine Old.call ?_ (by with_reducible assumption) | omega | (simp; omega) | simp)) (fun hHeld4 => ?_)
              try simp only [Act.put, List.setIfInBounds_toArray, List.set_cons_zero, List.set_cons_succ]
              clear hK Kc
              have ge7 : w2.heap.size ≤ wt2.heap.size + 1 := by have := hHeld3.2.2.1; simp only [World.size_alloc] at this; omega
              have n_a2_v7 := a2.lt
              have n_v6_v7 := v6.lt
              have v7 := At.new ((wt2).alloc (.cells #[.slice none 0 0, .int .i64 0] 43)) (.cells #[.slice none 0 0, .int .i64 0] 43)
              simp only [World.size_alloc] at v7 n_a2_v7 n_v6_v7
              replace n_a2_v7 : g2 ≠ wt2.heap.size + 1 := by omega
              replace n_v6_v7 : wt2.heap.size ≠ wt2.heap.size + 1 := by omega
              replace a2 := a2.alloc (.cells #[.slice none 0 0, .int .i64 0] 43)
              replace v6 := v6.alloc (.cells #[.slice none 0 0, .int .i64 0] 43)
              refine wpAnyH_ready (rs := [5]) (by kernel_rfl) (by simp) ?_
              refine AllReadyH.cons rfl (fun Kc hK => ?_) AllReadyH.nil
              go_simp
              go_at_call 73
              refine (text_ab7 K _).mono ?_
              rintro e wt5 ⟨ad5, cap5, rfl, ho5, hb5⟩
              obtain ⟨g5, cur5, rfl, qg5, a5, o5⟩ := at_own ho5
              dsimp only
              refine hK.out _ _ (by repeat' (first | with_reducible assumption | with_reducible exact Old.refl _ | with_reducible refine Old.drewK ?_ | with_reducible refine Old.alloc ?_ _ | with_reducible refine Old.setK ?_ ?_ | with_reducible refine Old.call ?_ (by with_reducible assumption) | omega | (simp; omega) | simp)) (fun hHeld5 => ?_)
              try simp only [Act.put, List.setIfInBounds_toArray, List.set_cons_zero, List.set_cons_succ]
              clear hK Kc
              have n_a2_a5 := a2.lt
              have n_v6_a5 := v6.lt
              have n_v7_a5 := v7.lt
              replace a2 := a2.below hb5
              replace v6 := v6.below hb5
              replace v7 := v7.below hb5
              simp only [World.size_alloc] at qg5 n_a2_a5 n_v6_a5 n_v7_a5
              have ge5 : w2.heap.size ≤ g5 := by have := hHeld4.2.2.1; simp only [World.size_alloc] at this; omega
              replace n_a2_a5 : g2 ≠ g5 := by omega
              replace n_v6_a5 : wt2.heap.size ≠ g5 := by omega
              replace n_v7_a5 : wt2.heap.size + 1 ≠ g5 := by omega
              have hT := twoVars (W := w2) (WW := wt5) (B5 := wt2.heap.size) (B6 := wt2.heap.size + 1) (c2 := cap2) (c5 := cap5) K v6 v7 a2 a5 o2 o5 n_v6_v7 n_a2_v6 n_a2_v7 n_a2_a5 (Ne.symm n_v6_a5) (Ne.symm n_v7_a5) ge2 ge6 ge7 hHeld5
              have e50 := v6.cell 0
              have e51 := v6.cell 1
              have e60 := v7.cell 0
              have e61 := v7.cell 1
              have f50 := v6.free 0
              have f51 := v6.free 1
              have f60 := v7.free 0
              have f61 := v7.free 1
              simp only [List.getElem?_toArray, List.getElem?_cons_zero, List.getElem?_cons_succ] at e50 e51 e60 e61
              have n56 := n_v6_v7
              have n65 := Ne.symm n56
              refine wpAnyH_ready (rs := [8]) (by kernel_rfl) (by simp) ?_
              refine AllReadyH.cons rfl (fun Kc hK => ?_) AllReadyH.nil
              go_simp
              refine hK.out _ _ (by repeat' (first | with_reducible assumption | with_reducible exact Old.refl _ | with_reducible refine Old.drewK ?_ | with_reducible refine Old.alloc ?_ _ | with_reducible refine Old.setK ?_ ?_ | with_reducible refine Old.call ?_ (by with_reducible assumption) | omega | (simp; omega) | simp)) (fun hHeld6 => ?_)
              try simp only [Act.put, List.setIfInBounds_toArray, List.set_cons_zero, List.set_cons_succ]
              clear hK Kc
              refine wpAnyH_ready (rs := [9]) (by kernel_rfl) (by simp) ?_
              refine AllReadyH.cons rfl (fun Kc hK => ?_) AllReadyH.nil
              go_simp
              refine hK.out _ _ (by repeat' (first | with_reducible assumption | with_reducible exact Old.refl _ | with_reducible refine Old.drewK ?_ | with_reducible refine Old.alloc ?_ _ | with_reducible refine Old.setK ?_ ?_ | with_reducible refine Old.call ?_ (by with_reducible assumption) | omega | (simp; omega) | simp)) (fun hHeld7 => ?_)
              try simp only [Act.put, List.setIfInBounds_toArray, List.set_cons_zero, List.set_cons_succ]
              clear hK Kc
              refine wpAnyH_done (by kernel_rfl) ?_ _
              refine NoPanic.normal ?_
              exact ⟨_, _, _, _, _, _, _, _, _, _, _, _, _, _, _, _, _, _, _, _, _, rfl, rfl, hT⟩
          · go_simp
            refine hK.out _ _ (by repeat' (first | with_reducible assumption | with_reducible exact Old.refl _ | with_reducible refine Old.drewK ?_ | with_reducible refine Old.alloc ?_ _ | with_reducible refine Old.setK ?_ ?_ | with_reducible refine Old.call ?_ (by with_reducible assumption) | omega | (simp; omega) | simp)) (fun hHeld3 => ?_)
            try simp only [Act.put, List.setIfInBounds_toArray, List.set_cons_zero, List.set_cons_succ]
            clear hK Kc
            have ge7 : w2.heap.size ≤ wt2.heap.size := by have := hHeld2.2.2.1; omega
            have n_a2_v7 := a2.lt
            have v7 := At.new (wt2) (.cells #[.slice none 0 0, .int .i64 0] 43)
            replace n_a2_v7 : g2 ≠ wt2.heap.size := by omega
            replace a2 := a2.alloc (.cells #[.slice none 0 0, .int .i64 0] 43)
            refine wpAnyH_ready (rs := [5, 6]) (by kernel_rfl) (by simp) ?_
            refine AllReadyH.cons rfl (fun Kc hK => ?_) (AllReadyH.cons rfl (fun Kc hK => ?_) AllReadyH.nil)
            · go_simp
              go_at_call 73
              refine (text_ab7 K _).mono ?_
              rintro e wt5 ⟨ad5, cap5, rfl, ho5, hb5⟩
              obtain ⟨g5, cur5, rfl, qg5, a5, o5⟩ := at_own ho5
              dsimp only
              refine hK.out _ _ (by repeat' (first | with_reducible assumption | with_reducible exact Old.refl _ | with_reducible refine Old.drewK ?_ | with_reducible refine Old.alloc ?_ _ | with_reducible refine Old.setK ?_ ?_ | with_reducible refine Old.call ?_ (by with_reducible assumption) | omega | (simp; omega) | simp)) (fun hHeld4 => ?_)
              try simp only [Act.put, List.setIfInBounds_toArray, List.set_cons_zero, List.set_cons_succ]
              clear hK Kc
              have n_a2_a5 := a2.lt
              have n_v7_a5 := v7.lt
              replace a2 := a2.below hb5
              replace v7 := v7.below hb5
              simp only [World.size_alloc] at qg5 n_a2_a5 n_v7_a5
              have ge5 : w2.heap.size ≤ g5 := by have := hHeld3.2.2.1; simp only [World.size_alloc] at this; omega
              replace n_a2_a5 : g2 ≠ g5 := by omega
              replace n_v7_a5 : wt2.heap.size ≠ g5 := by omega
              refine wpAnyH_ready (rs := [6]) (by kernel_rfl) (by simp) ?_
              refine AllReadyH.cons rfl (fun Kc hK => ?_) AllReadyH.nil
              go_simp
              refine hK.out _ _ (by repeat' (first | with_reducible assumption | with_reducible exact Old.refl _ | with_reducible refine Old.drewK ?_ | with_reducible refine Old.alloc ?_ _ | with_reducible refine Old.setK ?_ ?_ | with_reducible refine Old.call ?_ (by with_reducible assumption) | omega | (simp; omega) | simp)) (fun hHeld5 => ?_)
              try simp only [Act.put, List.setIfInBounds_toArray, List.set_cons_zero, List.set_cons_succ]
              clear hK Kc
              have ge6 : w2.heap.size ≤ wt5.heap.size := by have := hHeld4.2.2.1; omega
              have n_a2_v6 := a2.lt
              have n_v7_v6 := v7.lt
              have n_a5_v6 := a5.lt
              have v6 := At.new (wt5) (.cells #[.slice none 0 0, .int .i64 0] 43)
              replace n_a2_v6 : g2 ≠ wt5.heap.size := by omega
              replace n_v7_v6 : wt2.heap.size ≠ wt5.heap.size := by omega
              replace n_a5_v6 : g5 ≠ wt5.heap.size := by omega
              replace a2 := a2.alloc (.cells #[.slice none 0 0, .int .i64 0] 43)
              replace v7 := v7.alloc (.cells #[.slice none 0 0, .int .i64 0] 43)
              replace a5 := a5.alloc (.cells #[.slice none 0 0, .int .i64 0] 43)
              generalize hWW : (wt5).alloc (.cells #[.slice none 0 0, .int .i64 0] 43) = WW at hHeld5 a2 a5 v6 v7 ⊢
              clear hWW
              have hT := twoVars (W := w2) (WW := WW) (B5 := wt5.heap.size) (B6 := wt2.heap.size) (c2 := cap2) (c5 := cap5) K v6 v7 a2 a5 o2 o5 (Ne.symm n_v7_v6) n_a2_v6 n_a2_v7 n_a2_a5 n_a5_v6 (Ne.symm n_v7_a5) ge2 ge6 ge7 hHeld5
              have e50 := v6.cell 0
              have e51 := v6.cell 1
              have e60 := v7.cell 0
              have e61 := v7.cell 1
              have f50 := v6.free 0
              have f51 := v6.free 1
              have f60 := v7.free 0
              have f61 := v7.free 1
              simp only [List.getElem?_toArray, List.getElem?_cons_zero, List.getElem?_cons_succ] at e50 e51 e60 e61
              have n56 := (Ne.symm n_v7_v6)
              have n65 := Ne.symm n56
              refine wpAnyH_ready (rs := [8]) (by kernel_rfl) (by simp) ?_
              refine AllReadyH.cons rfl (fun Kc hK => ?_) AllReadyH.nil
              go_simp
              refine hK.out _ _ (by repeat' (first | with_reducible assumption | with_reducible exact Old.refl _ | with_reducible refine Old.drewK ?_ | with_reducible refine Old.alloc ?_ _ | with_reducible refine Old.setK ?_ ?_ | with_reducible refine Old.call ?_ (by with_reducible assumption) | omega | (simp; omega) | simp)) (fun hHeld6 => ?_)
              try simp only [Act.put, List.setIfInBounds_toArray, List.set_cons_zero, List.set_cons_succ]
              clear hK Kc
              refine wpAnyH_ready (rs := [9]) (by kernel_rfl) (by simp) ?_
              refine AllReadyH.cons rfl (fun Kc hK => ?_) AllReadyH.nil
              go_simp
              refine hK.out _ _ (by repeat' (first | with_reducible assumption | with_reducible exact Old.refl _ | with_reducible refine Old.drewK ?_ | with_reducible refine Old.alloc ?_ _ | with_reducible refine Old.setK ?_ ?_ | with_reducible refine Old.call ?_ (by with_reducible assumption) | omega | (simp; omega) | simp)) (fun hHeld7 => ?_)
              try simp only [Act.put, List.setIfInBounds_toArray, List.set_cons_zero, List.set_cons_succ]
              clear hK Kc
              refine wpAnyH_done (by kernel_rfl) ?_ _
              refine NoPanic.normal ?_
              exact ⟨_, _, _, _, _, _, _, _, _, _, _, _, _, _, _, _, _, _, _, _, _, rfl, rfl, hT⟩
            · go_simp
              refine hK.out _ _ (by repeat' (first | with_reducible assumption | with_reducible exact Old.refl _ | with_reducible refine Old.drewK ?_ | with_reducible refine Old.alloc ?_ _ | with_reducible refine Old.setK ?_ ?_ | with_reducible refine Old.call ?_ (by with_reducible assumption) | omega | (simp; omega) | simp)) (fun hHeld4 => ?_)
              try simp only [Act.put, List.setIfInBounds_toArray, List.set_cons_zero, List.set_cons_succ]
              clear hK Kc
              have ge6 : w2.heap.size ≤ wt2.heap.size + 1 := by have := hHeld3.2.2.1; simp only [World.size_alloc] at this; omega
              have n_a2_v6 := a2.lt
              have n_v7_v6 := v7.lt
              have v6 := At.new ((wt2).alloc (.cells #[.slice none 0 0, .int .i64 0] 43)) (.cells #[.slice none 0 0, .int .i64 0] 43)
              simp only [World.size_alloc] at v6 n_a2_v6 n_v7_v6
              replace n_a2_v6 : g2 ≠ wt2.heap.size + 1 := by omega
              replace n_v7_v6 : wt2.heap.size ≠ wt2.heap.size + 1 := by omega
              replace a2 := a2.alloc (.cells #[.slice none 0 0, .int .i64 0] 43)
              replace v7 := v7.alloc (.cells #[.slice none 0 0, .int .i64 0] 43)
              refine wpAnyH_ready (rs := [5]) (by kernel_rfl) (by simp) ?_
              refine AllReadyH.cons rfl (fun Kc hK => ?_) AllReadyH.nil
              go_simp
              go_at_call 73
              refine (text_ab7 K _).mono ?_
              rintro e wt5 ⟨ad5, cap5, rfl, ho5, hb5⟩
              obtain ⟨g5, cur5, rfl, qg5, a5, o5⟩ := at_own ho5
              dsimp only
              refine hK.out _ _ (by repeat' (first | with_reducible assumption | with_reducible exact Old.refl _ | with_reducible refine Old.drewK ?_ | with_reducible refine Old.alloc ?_ _ | with_reducible refine Old.setK ?_ ?_ | with_reducible refine Old.call ?_ (by with_reducible assumption) | omega | (simp; omega) | simp)) (fun hHeld5 => ?_)
              try simp only [Act.put, List.setIfInBounds_toArray, List.set_cons_zero, List.set_cons_succ]
              clear hK Kc
              have n_a2_a5 := a2.lt
              have n_v7_a5 := v7.lt
              have n_v6_a5 := v6.lt
              replace a2 := a2.below hb5
              replace v7 := v7.below hb5
              replace v6 := v6.below hb5
              simp only [World.size_alloc] at qg5 n_a2_a5 n_v7_a5 n_v6_a5
              have ge5 : w2.heap.size ≤ g5 := by have := hHeld4.2.2.1; simp only [World.size_alloc] at this; omega
              replace n_a2_a5 : g2 ≠ g5 := by omega
              replace n_v7_a5 : wt2.heap.size ≠ g5 := by omega
              replace n_v6_a5 : wt2.heap.size + 1 ≠ g5 := by omega
              have hT := twoVars (W := w2) (WW := wt5) (B5 := wt2.heap.size + 1) (B6 := wt2.heap.size) (c2 := cap2) (c5 := cap5) K v6 v7 a2 a5 o2 o5 (Ne.symm n_v7_v6) n_a2_v6 n_a2_v7 n_a2_a5 (Ne.symm n_v6_a5) (Ne.symm n_v7_a5) ge2 ge6 ge7 hHeld5
              have e50 := v6.cell 0
              have e51 := v6.cell 1
              have e60 := v7.cell 0
              have e61 := v7.cell 1
              have f50 := v6.free 0
              have f51 := v6.free 1
              have f60 := v7.free 0
              have f61 := v7.free 1
              simp only [List.getElem?_toArray, List.getElem?_cons_zero, List.getElem?_cons_succ] at e50 e51 e60 e61
              have n56 := (Ne.symm n_v7_v6)
              have n65 := Ne.symm n56
              refine wpAnyH_ready (rs := [8]) (by kernel_rfl) (by simp) ?_
              refine AllReadyH.cons rfl (fun Kc hK => ?_) AllReadyH.nil
              go_simp
              refine hK.out _ _ (by repeat' (first | with_reducible assumption | with_reducible exact Old.refl _ | with_reducible refine Old.drewK ?_ | with_reducible refine Old.alloc ?_ _ | with_reducible refine Old.setK ?_ ?_ | with_reducible refine Old.call ?_ (by with_reducible assumption) | omega | (simp; omega) | simp)) (fun hHeld6 => ?_)
              try simp only [Act.put, List.setIfInBounds_toArray, List.set_cons_zero, List.set_cons_succ]
              clear hK Kc
              refine wpAnyH_ready (rs := [9]) (by kernel_rfl) (by simp) ?_
              refine AllReadyH.cons rfl (fun Kc hK => ?_) AllReadyH.nil
              go_simp
              refine hK.out _ _ (by repeat' (first | with_reducible assumption | with_reducible exact Old.refl _ | with_reducible refine Old.drewK ?_ | with_reducible refine Old.alloc ?_ _ | with_reducible refine Old.setK ?_ ?_ | with_reducible refine Old.call ?_ (by with_reducible assumption) | omega | (simp; omega) | simp)) (fun hHeld7 => ?_)
              try simp only [Act.put, List.setIfInBounds_toArray, List.set_cons_zero, List.set_cons_succ]
              clear hK Kc
              refine wpAnyH_done (by kernel_rfl) ?_ _
              refine NoPanic.normal ?_
              exact ⟨_, _, _, _, _, _, _, _, _, _, _, _, _, _, _, _, _, _, _, _, _, rfl, rfl, hT⟩
        · go_simp
          refine hK.out _ _ (by repeat' (first | with_reducible assumption | with_reducible exact Old.refl _ | with_reducible refine Old.drewK ?_ | with_reducible refine Old.alloc ?_ _ | with_reducible refine Old.setK ?_ ?_ | with_reducible refine Old.call ?_ (by with_reducible assumption) | omega | (simp; omega) | simp)) (fun hHeld2 => ?_)
          try simp only [Act.put, List.setIfInBounds_toArray, List.set_cons_zero, List.set_cons_succ]
          clear hK Kc
          have ge6 : w2.heap.size ≤ w2.heap.size := by have := hHeld.2.2.1; simp only [sz_drew] at this; omega
          have v6 := At.new (w2.drew) (.cells #[.slice none 0 0, .int .i64 0] 43)
          simp only [sz_drew] at v6
          refine wpAnyH_ready (rs := [2, 7]) (by kernel_rfl) (by simp) ?_
          refine AllReadyH.cons rfl (fun Kc hK => ?_) (AllReadyH.cons rfl (fun Kc hK => ?_) AllReadyH.nil)
          · go_simp
            go_at_call 73
            refine (text_ab7 K _).mono ?_
            rintro e wt2 ⟨ad2, cap2, rfl, ho2, hb2⟩
            obtain ⟨g2, cur2, rfl, qg2, a2, o2⟩ := at_own ho2
            dsimp only
            refine hK.out _ _ (by repeat' (first | with_reducible assumption | with_reducible exact Old.refl _ | with_reducible refine Old.drewK ?_ | with_reducible refine Old.alloc ?_ _ | with_reducible refine Old.setK ?_ ?_ | with_reducible refine Old.call ?_ (by with_reducible assumption) | omega | (simp; omega) | simp)) (fun hHeld3 => ?_)
            try simp only [Act.put, List.setIfInBounds_toArray, List.set_cons_zero, List.set_cons_succ]
            clear hK Kc
            have n_v6_a2 := v6.lt
            replace v6 := v6.below hb2
            simp only [World.size_alloc, sz_drew] at qg2 n_v6_a2
            have ge2 : w2.heap.size ≤ g2 := by have := hHeld2.2.2.1; simp only [World.size_alloc, sz_drew] at this; omega
            replace n_v6_a2 : w2.heap.size ≠ g2 := by omega
            refine wpAnyH_ready (rs := [5, 7]) (by kernel_rfl) (by simp) ?_
            refine AllReadyH.cons rfl (fun Kc hK => ?_) (AllReadyH.cons rfl (fun Kc hK => ?_) AllReadyH.nil)
            · go_simp
              go_at_call 73
              refine (text_ab7 K _).mono ?_
              rintro e wt5 ⟨ad5, cap5, rfl, ho5, hb5⟩
              obtain ⟨g5, cur5, rfl, qg5, a5, o5⟩ := at_own ho5
              dsimp only
              refine hK.out _ _ (by repeat' (first | with_reducible assumption | with_reducible exact Old.refl _ | with_reducible refine Old.drewK ?_ | with_reducible refine Old.alloc ?_ _ | with_reducible refine Old.setK ?_ ?_ | with_reducible refine Old.call ?_ (by with_reducible assumption) | omega | (simp; omega) | simp)) (fun hHeld4 => ?_)
              try simp only [Act.put, List.setIfInBounds_toArray, List.set_cons_zero, List.set_cons_succ]
              clear hK Kc
              have n_v6_a5 := v6.lt
              have n_a2_a5 := a2.lt
              replace v6 := v6.below hb5
              replace a2 := a2.below hb5
              have ge5 : w2.heap.size ≤ g5 := by have := hHeld3.2.2.1; omega
              replace n_v6_a5 : w2.heap.size ≠ g5 := by omega
              replace n_a2_a5 : g2 ≠ g5 := by omega
              refine wpAnyH_ready (rs := [7]) (by kernel_rfl) (by simp) ?_
              refine AllReadyH.cons rfl (fun Kc hK => ?_) AllReadyH.nil
              go_simp
              refine hK.out _ _ (by repeat' (first | with_reducible assumption | with_reducible exact Old.refl _ | with_reducible refine Old.drewK ?_ | with_reducible refine Old.alloc ?_ _ | with_reducible refine Old.setK ?_ ?_ | with_reducible refine Old.call ?_ (by with_reducible assumption) | omega | (simp; omega) | simp)) (fun hHeld5 => ?_)
              try simp only [Act.put, List.setIfInBounds_toArray, List.set_cons_zero, List.set_cons_succ]
              clear hK Kc
              have ge7 : w2.heap.size ≤ wt5.heap.size := by have := hHeld4.2.2.1; omega
              have n_v6_v7 := v6.lt
              have n_a2_v7 := a2.lt
              have n_a5_v7 := a5.lt
              have v7 := At.new (wt5) (.cells #[.slice none 0 0, .int .i64 0] 43)
              replace n_v6_v7 : w2.heap.size ≠ wt5.heap.size := by omega
              replace n_a2_v7 : g2 ≠ wt5.heap.size := by omega
              replace n_a5_v7 : g5 ≠ wt5.heap.size := by omega
              replace v6 := v6.alloc (.cells #[.slice none 0 0, .int .i64 0] 43)
              replace a2 := a2.alloc (.cells #[.slice none 0 0, .int .i64 0] 43)
              replace a5 := a5.alloc (.cells #[.slice none 0 0, .int .i64 0] 43)
              generalize hWW : (wt5).alloc (.cells #[.slice none 0 0, .int .i64 0] 43) = WW at hHeld5 a2 a5 v6 v7 ⊢
              clear hWW
              have hT := twoVars (W := w2) (WW := WW) (B5 := w2.heap.size) (B6 := wt5.heap.size) (c2 := cap2) (c5 := cap5) K v6 v7 a2 a5 o2 o5 n_v6_v7 (Ne.symm n_v6_a2) n_a2_v7 n_a2_a5 (Ne.symm n_v6_a5) n_a5_v7 ge2 ge6 ge7 hHeld5
              have e50 := v6.cell 0
              have e51 := v6.cell 1
              have e60 := v7.cell 0
              have e61 := v7.cell 1
              have f50 := v6.free 0
              have f51 := v6.free 1
              have f60 := v7.free 0
              have f61 := v7.free 1
              simp only [List.getElem?_toArray, List.getElem?_cons_zero, List.getElem?_cons_succ] at e50 e51 e60 e61
              have n56 := n_v6_v7
              have n65 := Ne.symm n56
              refine wpAnyH_ready (rs := [8]) (by kernel_rfl) (by simp) ?_
              refine AllReadyH.cons rfl (fun Kc hK => ?_) AllReadyH.nil
              go_simp
              refine hK.out _ _ (by repeat' (first | with_reducible assumption | with_reducible exact Old.refl _ | with_reducible refine Old.drewK ?_ | with_reducible refine Old.alloc ?_ _ | with_reducible refine Old.setK ?_ ?_ | with_reducible refine Old.call ?_ (by with_reducible assumption) | omega | (simp; omega) | simp)) (fun hHeld6 => ?_)
              try simp only [Act.put, List.setIfInBounds_toArray, List.set_cons_zero, List.set_cons_succ]
              clear hK Kc
              refine wpAnyH_ready (rs := [9]) (by kernel_rfl) (by simp) ?_
              refine AllReadyH.cons rfl (fun Kc hK => ?_) AllReadyH.nil
              go_simp
              refine hK.out _ _ (by repeat' (first | with_reducible assumption | with_reducible exact Old.refl _ | with_reducible refine Old.drewK ?_ | with_reducible refine Old.alloc ?_ _ | with_reducible refine Old.setK ?_ ?_ | with_reducible refine Old.call ?_ (by with_reducible assumption) | omega | (simp; omega) | simp)) (fun hHeld7 => ?_)
              try simp only [Act.put, List.setIfInBounds_toArray, List.set_cons_zero, List.set_cons_succ]
              clear hK Kc
              refine wpAnyH_done (by kernel_rfl) ?_ _
              refine NoPanic.normal ?_
              exact ⟨_, _, _, _, _, _, _, _, _, _, _, _, _, _, _, _, _, _, _, _, _, rfl, rfl, hT⟩
            · go_simp
              refine hK.out _ _ (by repeat' (first | with_reducible assumption | with_reducible exact Old.refl _ | with_reducible refine Old.drewK ?_ | with_reducible refine Old.alloc ?_ _ | with_reducible refine Old.setK ?_ ?_ | with_reducible refine Old.call ?_ (by with_reducible assumption) | omega | (simp; omega) | simp)) (fun hHeld4 => ?_)
              try simp only [Act.put, List.setIfInBounds_toArray, List.set_cons_zero, List.set_cons_succ]
              clear hK Kc
              have ge7 : w2.heap.size ≤ wt2.heap.size := by have := hHeld3.2.2.1; omega
              have n_v6_v7 := v6.lt
              have n_a2_v7 := a2.lt
              have v7 := At.new (wt2) (.cells #[.slice none 0 0, .int .i64 0] 43)
              replace n_v6_v7 : w2.heap.size ≠ wt2.heap.size := by omega
              replace n_a2_v7 : g2 ≠ wt2.heap.size := by omega
              replace v6 := v6.alloc (.cells #[.slice none 0 0, .int .i64 0] 43)
              replace a2 := a2.alloc (.cells #[.slice none 0 0, .int .i64 0] 43)
              refine wpAnyH_ready (rs := [5]) (by kernel_rfl) (by simp) ?_
              refine AllReadyH.cons rfl (fun Kc hK => ?_) AllReadyH.nil
              go_simp
              go_at_call 73
              refine (text_ab7 K _).mono ?_
              rintro e wt5 ⟨ad5, cap5, rfl, ho5, hb5⟩
              obtain ⟨g5, cur5, rfl, qg5, a5, o5⟩ := at_own ho5
              dsimp only
              refine hK.out _ _ (by repeat' (first | with_reducible assumption | with_reducible exact Old.refl _ | with_reducible refine Old.drewK ?_ | with_reducible refine Old.alloc ?_ _ | with_reducible refine Old.setK ?_ ?_ | with_reducible refine Old.call ?_ (by with_reducible assumption) | omega | (simp; omega) | simp)) (fun hHeld5 => ?_)
              try simp only [Act.put, List.setIfInBounds_toArray, List.set_cons_zero, List.set_cons_succ]
              clear hK Kc
              have n_v6_a5 := v6.lt
              have n_a2_a5 := a2.lt
              have n_v7_a5 := v7.lt
              replace v6 := v6.below hb5
              replace a2 := a2.below hb5
              replace v7 := v7.below hb5
              simp only [World.size_alloc] at qg5 n_v6_a5 n_a2_a5 n_v7_a5
              have ge5 : w2.heap.size ≤ g5 := by have := hHeld4.2.2.1; simp only [World.size_alloc] at this; omega
              replace n_v6_a5 : w2.heap.size ≠ g5 := by omega
              replace n_a2_a5 : g2 ≠ g5 := by omega
              replace n_v7_a5 : wt2.heap.size ≠ g5 := by omega
              have hT := twoVars (W := w2) (WW := wt5) (B5 := w2.heap.size) (B6 := wt2.heap.size) (c2 := cap2) (c5 := cap5) K v6 v7 a2 a5 o2 o5 n_v6_v7 (Ne.symm n_v6_a2) n_a2_v7 n_a2_a5 (Ne.symm n_v6_a5) (Ne.symm n_v7_a5) ge2 ge6 ge7 hHeld5
              have e50 := v6.cell 0
              have e51 := v6.cell 1
              have e60 := v7.cell 0
              have e61 := v7.cell 1
              have f50 := v6.free 0
              have f51 := v6.free 1
              have f60 := v7.free 0
              have f61 := v7.free 1
              simp only [List.getElem?_toArray, List.getElem?_cons_zero, List.getElem?_cons_succ] at e50 e51 e60 e61
              have n56 := n_v6_v7
              have n65 := Ne.symm n56
              refine wpAnyH_ready (rs := [8]) (by kernel_rfl) (by simp) ?_
              refine AllReadyH.cons rfl (fun Kc hK => ?_) AllReadyH.nil
              go_simp
              refine hK.out _ _ (by repeat' (first | with_reducible assumption | with_reducible exact Old.refl _ | with_reducible refine Old.drewK ?_ | with_reducible refine Old.alloc ?_ _ | with_reducible refine Old.setK ?_ ?_ | with_reducible refine Old.call ?_ (by with_reducible assumption) | omega | (simp; omega) | simp)) (fun hHeld6 => ?_)
              try simp only [Act.put, List.setIfInBounds_toArray, List.set_cons_zero, List.set_cons_succ]
              clear hK Kc
              refine wpAnyH_ready (rs := [9]) (by kernel_rfl) (by simp) ?_
              refine AllReadyH.cons rfl (fun Kc hK => ?_) AllReadyH.nil
              go_simp
              refine hK.out _ _ (by repeat' (first | with_reducible assumption | with_reducible exact Old.refl _ | with_reducible refine Old.drewK ?_ | with_reducible refine Old.alloc ?_ _ | with_reducible refine Old.setK ?_ ?_ | with_reducible refine Old.call ?_ (by with_reducible assumption) | omega | (simp; omega) | simp)) (fun hHeld7 => ?_)
              try simp only [Act.put, List.setIfInBounds_toArray, List.set_cons_zero, List.set_cons_succ]
              clear hK Kc
              refine wpAnyH_done (by kernel_rfl) ?_ _
              refine NoPanic.normal ?_
              exact ⟨_, _, _, _, _, _, _, _, _, _, _, _, _, _, _, _, _, _, _, _, _, rfl, rfl, hT⟩
          · go_simp
            refine hK.out _ _ (by repeat' (first | with_reducible assumption | with_reducible exact Old.refl _ | with_reducible refine Old.drewK ?_ | with_reducible refine Old.alloc ?_ _ | with_reducible refine Old.setK ?_ ?_ | with_reducible refine Old.call ?_ (by with_reducible assumption) | omega | (simp; omega) | simp)) (fun hHeld3 => ?_)
            try simp only [Act.put, List.setIfInBounds_toArray, List.set_cons_zero, List.set_cons_succ]
            clear hK Kc
            have ge7 : w2.heap.size ≤ w2.heap.size + 1 := by have := hHeld2.2.2.1; simp only [World.size_alloc, sz_drew] at this; omega
            have n_v6_v7 := v6.lt
            have v7 := At.new ((w2.drew).alloc (.cells #[.slice none 0 0, .int .i64 0] 43)) (.cells #[.slice none 0 0, .int .i64 0] 43)
            simp only [World.size_alloc, sz_drew] at v7 n_v6_v7
            replace n_v6_v7 : w2.heap.size ≠ w2.heap.size + 1 := by omega
            replace v6 := v6.alloc (.cells #[.slice none 0 0, .int .i64 0] 43)
            refine wpAnyH_ready (rs := [2]) (by kernel_rfl) (by simp) ?_
            refine AllReadyH.cons rfl (fun Kc hK => ?_) AllReadyH.nil
            go_simp
            go_at_call 73
            refine (text_ab7 K _).mono ?_
            rintro e wt2 ⟨ad2, cap2, rfl, ho2, hb2⟩
            obtain ⟨g2, cur2, rfl, qg2, a2, o2⟩ := at_own ho2
            dsimp only
            refine hK.out _ _ (by repeat' (first | with_reducible assumption | with_reducible exact Old.refl _ | with_reducible refine Old.drewK ?_ | with_reducible refine Old.alloc ?_ _ | with_reducible refine Old.setK ?_ ?_ | with_reducible refine Old.call ?_ (by with_reducible assumption) | omega | (simp; omega) | simp)) (fun hHeld4 => ?_)
            try simp only [Act.put, List.setIfInBounds_toArray, List.set_cons_zero, List.set_cons_succ]
            clear hK Kc
            have n_v6_a2 := v6.lt
            have n_v7_a2 := v7.lt
            replace v6 := v6.below hb2
            replace v7 := v7.below hb2
            simp only [World.size_alloc, sz_drew] at qg2 n_v6_a2 n_v7_a2
            have ge2 : w2.heap.size ≤ g2 := by have := hHeld3.2.2.1; simp only [World.size_alloc, sz_drew] at this; omega
            replace n_v6_a2 : w2.heap.size ≠ g2 := by omega
            replace n_v7_a2 : w2.heap.size + 1 ≠ g2 := by omega
            refine wpAnyH_ready (rs := [5]) (by kernel_rfl) (by simp) ?_
            refine AllReadyH.cons rfl (fun Kc hK => ?_) AllReadyH.nil
            go_simp
            go_at_call 73
            refine (text_ab7 K _).mono ?_
            rintro e wt5 ⟨ad5, cap5, rfl, ho5, hb5⟩
            obtain ⟨g5, cur5, rfl, qg5, a5, o5⟩ := at_own ho5
            dsimp only
            refine hK.out _ _ (by repeat' (first | with_reducible assumption | with_reducible exact Old.refl _ | with_reducible refine Old.drewK ?_ | with_reducible refine Old.alloc ?_ _ | with_reducible refine Old.setK ?_ ?_ | with_reducible refine Old.call ?_ (by with_reducible assumption) | omega | (simp; omega) | simp)) (fun hHeld5 => ?_)
            try simp only [Act.put, List.setIfInBounds_toArray, List.set_cons_zero, List.set_cons_succ]
            clear hK Kc
            have n_v6_a5 := v6.lt
            have n_v7_a5 := v7.lt
            have n_a2_a5 := a2.lt
            replace v6 := v6.below hb5
            replace v7 := v7.below hb5
            replace a2 := a2.below hb5
            have ge5 : w2.heap.size ≤ g5 := by have := hHeld4.2.2.1; omega
            replace n_v6_a5 : w2.heap.size ≠ g5 := by omega
            replace n_v7_a5 : w2.heap.size + 1 ≠ g5 := by omega
            replace n_a2_a5 : g2 ≠ g5 := by omega
            have hT := twoVars (W := w2) (WW := wt5) (B5 := w2.heap.size) (B6 := w2.heap.size + 1) (c2 := cap2) (c5 := cap5) K v6 v7 a2 a5 o2 o5 n_v6_v7 (Ne.symm n_v6_a2) (Ne.symm n_v7_a2) n_a2_a5 (Ne.symm n_v6_a5) (Ne.symm n_v7_a5) ge2 ge6 ge7 hHeld5
            have e50 := v6.cell 0
            have e51 := v6.cell 1
            have e60 := v7.cell 0
            have e61 := v7.cell 1
            have f50 := v6.free 0
            have f51 := v6.free 1
            have f60 := v7.free 0
            have f61 := v7.free 1
            simp only [List.getElem?_toArray, List.getElem?_cons_zero, List.getElem?_cons_succ] at e50 e51 e60 e61
            have n56 := n_v6_v7
            have n65 := Ne.symm n56
            refine wpAnyH_ready (rs := [8]) (by kernel_rfl) (by simp) ?_
            refine AllReadyH.cons rfl (fun Kc hK => ?_) AllReadyH.nil
            go_simp
            refine hK.out _ _ (by repeat' (first | with_reducible assumption | with_reducible exact Old.refl _ | with_reducible refine Old.drewK ?_ | with_reducible refine Old.alloc ?_ _ | with_reducible refine Old.setK ?_ ?_ | with_reducible refine Old.call ?_ (by with_reducible assumption) | omega | (simp; omega) | simp)) (fun hHeld6 => ?_)
            try simp only [Act.put, List.setIfInBounds_toArray, List.set_cons_zero, List.set_cons_succ]
            clear hK Kc
            refine wpAnyH_ready (rs := [9]) (by kernel_rfl) (by simp) ?_
            refine AllReadyH.cons rfl (fun Kc hK => ?_) AllReadyH.nil
            go_simp
            refine hK.out _ _ (by repeat' (first | with_reducible assumption | with_reducible exact Old.refl _ | with_reducible refine Old.drewK ?_ | with_reducible refine Old.alloc ?_ _ | with_reducible refine Old.setK ?_ ?_ | with_reducible refine Old.call ?_ (by with_reducible assumption) | omega | (simp; omega) | simp)) (fun hHeld7 => ?_)
            try simp only [Act.put, List.setIfInBounds_toArray, List.set_cons_zero, List.set_cons_succ]
            clear hK Kc
            refine wpAnyH_done (by kernel_rfl) ?_ _
            refine NoPanic.normal ?_
            exact ⟨_, _, _, _, _, _, _, _, _, _, _, _, _, _, _, _, _, _, _, _, _, rfl, rfl, hT⟩
        · go_simp
          refine hK.out _ _ (by repeat' (first | with_reducible assumption | with_reducible exact Old.refl _ | with_reducible refine Old.drewK ?_ | with_reducible refine Old.alloc ?_ _ | with_reducible refine Old.setK ?_ ?_ | with_reducible refine Old.call ?_ (by with_reducible assumption) | omega | (simp; omega) | simp)) (fun hHeld2 => ?_)
          try simp only [Act.put, List.setIfInBounds_toArray, List.set_cons_zero, List.set_cons_succ]
          clear hK Kc
          have ge7 : w2.heap.size ≤ w2.heap.size := by have := hHeld.2.2.1; simp only [sz_drew] at this; omega
          have v7 := At.new (w2.drew) (.cells #[.slice none 0 0, .int .i64 0] 43)
          simp only [sz_drew] at v7
          refine wpAnyH_ready (rs := [2, 6]) (by kernel_rfl) (by simp) ?_
          refine AllReadyH.cons rfl (fun Kc hK => ?_) (AllReadyH.cons rfl (fun Kc hK => ?_) AllReadyH.nil)
          · go_simp
            go_at_call 73
            refine (text_ab7 K _).mono ?_
            rintro e wt2 ⟨ad2, cap2, rfl, ho2, hb2⟩
            obtain ⟨g2, cur2, rfl, qg2, a2, o2⟩ := at_own ho2
            dsimp only
            refine hK.out _ _ (by repeat' (first | with_reducible assumption | with_reducible exact Old.refl _ | with_reducible refine Old.drewK ?_ | with_reducible refine Old.alloc ?_ _ | with_reducible refine Old.setK ?_ ?_ | with_reducible refine Old.call ?_ (by with_reducible assumption) | omega | (simp; omega) | simp)) (fun hHeld3 => ?_)
            try simp only [Act.put, List.setIfInBounds_toArray, List.set_cons_zero, List.set_cons_succ]
            clear hK Kc
            have n_v7_a2 := v7.lt
            replace v7 := v7.below hb2
            simp only [World.size_alloc, sz_drew] at qg2 n_v7_a2
            have ge2 : w2.heap.size ≤ g2 := by have := hHeld2.2.2.1; simp only [World.size_alloc, sz_drew] at this; omega
            replace n_v7_a2 : w2.heap.size ≠ g2 := by omega
            refine wpAnyH_ready (rs := [5, 6]) (by kernel_rfl) (by simp) ?_
            refine AllReadyH.cons rfl (fun Kc hK => ?_) (AllReadyH.cons rfl (fun Kc hK => ?_) AllReadyH.nil)
            · go_simp
              go_at_call 73
              refine (text_ab7 K _).mono ?_
              rintro e wt5 ⟨ad5, cap5, rfl, ho5, hb5⟩
              obtain ⟨g5, cur5, rfl, qg5, a5, o5⟩ := at_own ho5
              dsimp only
              refine hK.out _ _ (by repeat' (first | with_reducible assumption | with_reducible exact Old.refl _ | with_reducible refine Old.drewK ?_ | with_reducible refine Old.alloc ?_ _ | with_reducible refine Old.setK ?_ ?_ | with_reducible refine Old.call ?_ (by with_reducible assumption) | omega | (simp; omega) | simp)) (fun hHeld4 => ?_)
              try simp only [Act.put, List.setIfInBounds_toArray, List.set_cons_zero, List.set_cons_succ]
              clear hK Kc
              have n_v7_a5 := v7.lt
              have n_a2_a5 := a2.lt
              replace v7 := v7.below hb5
              replace a2 := a2.below hb5
              have ge5 : w2.heap.size ≤ g5 := by have := hHeld3.2.2.1; omega
              replace n_v7_a5 : w2.heap.size ≠ g5 := by omega
              replace n_a2_a5 : g2 ≠ g5 := by omega
              refine wpAnyH_ready (rs := [6]) (by kernel_rfl) (by simp) ?_
              refine AllReadyH.cons rfl (fun Kc hK => ?_) AllReadyH.nil
              go_simp
              refine hK.out _ _ (by repeat' (first | with_reducible assumption | with_reducible exact Old.refl _ | with_reducible refine Old.drewK ?_ | with_reducible refine Old.alloc ?_ _ | with_reducible refine Old.setK ?_ ?_ | with_reducible refine Old.call ?_ (by with_reducible assumption) | omega | (simp; omega) | simp)) (fun hHeld5 => ?_)
              try simp only [Act.put, List.setIfInBounds_toArray, List.set_cons_zero, List.set_cons_succ]
              clear hK Kc
              have ge6 : w2.heap.size ≤ wt5.heap.size := by have := hHeld4.2.2.1; omega
              have n_v7_v6 := v7.lt
              have n_a2_v6 := a2.lt
              have n_a5_v6 := a5.lt
              have v6 := At.new (wt5) (.cells #[.slice none 0 0, .int .i64 0] 43)
              replace n_v7_v6 : w2.heap.size ≠ wt5.heap.size := by omega
              replace n_a2_v6 : g2 ≠ wt5.heap.size := by omega
              replace n_a5_v6 : g5 ≠ wt5.heap.size := by omega
              replace v7 := v7.alloc (.cells #[.slice none 0 0, .int .i64 0] 43)
              replace a2 := a2.alloc (.cells #[.slice none 0 0, .int .i64 0] 43)
              replace a5 := a5.alloc (.cells #[.slice none 0 0, .int .i64 0] 43)
              generalize hWW : (wt5).alloc (.cells #[.slice none 0 0, .int .i64 0] 43) = WW at hHeld5 a2 a5 v6 v7 ⊢
              clear hWW
              have hT := twoVars (W := w2) (WW := WW) (B5 := wt5.heap.size) (B6 := w2.heap.size) (c2 := cap2) (c5 := cap5) K v6 v7 a2 a5 o2 o5 (Ne.symm n_v7_v6) n_a2_v6 (Ne.symm n_v7_a2) n_a2_a5 n_a5_v6 (Ne.symm n_v7_a5) ge2 ge6 ge7 hHeld5
              have e50 := v6.cell 0
              have e51 := v6.cell 1
              have e60 := v7.cell 0
              have e61 := v7.cell 1
              have f50 := v6.free 0
              have f51 := v6.free 1
              have f60 := v7.free 0
              have f61 := v7.free 1
              simp only [List.getElem?_toArray, List.getElem?_cons_zero, List.getElem?_cons_succ] at e50 e51 e60 e61
              have n56 := (Ne.symm n_v7_v6)
              have n65 := Ne.symm n56
              refine wpAnyH_ready (rs := [8]) (by kernel_rfl) (by simp) ?_
              refine AllReadyH.cons rfl (fun Kc hK => ?_) AllReadyH.nil
              go_simp
              refine hK.out _ _ (by repeat' (first | with_reducible assumption | with_reducible exact Old.refl _ | with_reducible refine Old.drewK ?_ | with_reducible refine Old.alloc ?_ _ | with_reducible refine Old.setK ?_ ?_ | with_reducible refine Old.call ?_ (by with_reducible assumption) | omega | (simp; omega) | simp)) (fun hHeld6 => ?_)
              try simp only [Act.put, List.setIfInBounds_toArray, List.set_cons_zero, List.set_cons_succ]
              clear hK Kc
              refine wpAnyH_ready (rs := [9]) (by kernel_rfl) (by simp) ?_
              refine AllReadyH.cons rfl (fun Kc hK => ?_) AllReadyH.nil
              go_simp
              refine hK.out _ _ (by repeat' (first | with_reducible assumption | with_reducible exact Old.refl _ | with_reducible refine Old.drewK ?_ | with_reducible refine Old.alloc ?_ _ | with_reducible refine Old.setK ?_ ?_ | with_reducible refine Old.call ?_ (by with_reducible assumption) | omega | (simp; omega) | simp)) (fun hHeld7 => ?_)
              try simp only [Act.put, List.setIfInBounds_toArray, List.set_cons_zero, List.set_cons_succ]
              clear hK Kc
              refine wpAnyH_done (by kernel_rfl) ?_ _
              refine NoPanic.normal ?_
              exact ⟨_, _, _, _, _, _, _, _, _, _, _, _, _, _, _, _, _, _, _, _, _, rfl, rfl, hT⟩
            · go_simp
              refine hK.out _ _ (by repeat' (first | with_reducible assumption | with_reducible exact Old.refl _ | with_reducible refine Old.drewK ?_ | with_reducible refine Old.alloc ?_ _ | with_reducible refine Old.setK ?_ ?_ | with_reducible refine Old.call ?_ (by with_reducible assumption) | omega | (simp; omega) | simp)) (fun hHeld4 => ?_)
              try simp only [Act.put, List.setIfInBounds_toArray, List.set_cons_zero, List.set_cons_succ]
              clear hK Kc
              have ge6 : w2.heap.size ≤ wt2.heap.size := by have := hHeld3.2.2.1; omega
              have n_v7_v6 := v7.lt
              have n_a2_v6 := a2.lt
              have v6 := At.new (wt2) (.cells #[.slice none 0 0, .int .i64 0] 43)
              replace n_v7_v6 : w2.heap.size ≠ wt2.heap.size := by omega
              replace n_a2_v6 : g2 ≠ wt2.heap.size := by omega
              replace v7 := v7.alloc (.cells #[.slice none 0 0, .int .i64 0] 43)
              replace a2 := a2.alloc (.cells #[.slice none 0 0, .int .i64 0] 43)
              refine wpAnyH_ready (rs := [5]) (by kernel_rfl) (by simp) ?_
              refine AllReadyH.cons rfl (fun Kc hK => ?_) AllReadyH.nil
              go_simp
              go_at_call 73
              refine (text_ab7 K _).mono ?_
              rintro e wt5 ⟨ad5, cap5, rfl, ho5, hb5⟩
              obtain ⟨g5, cur5, rfl, qg5, a5, o5⟩ := at_own ho5
              dsimp only
              refine hK.out _ _ (by repeat' (first | with_reducible assumption | with_reducible exact Old.refl _ | with_reducible refine Old.drewK ?_ | with_reducible refine Old.alloc ?_ _ | with_reducible refine Old.setK ?_ ?_ | with_reducible refine Old.call ?_ (by with_reducible assumption) | omega | (simp; omega) | simp)) (fun hHeld5 => ?_)
              try simp only [Act.put, List.setIfInBounds_toArray, List.set_cons_zero, List.set_cons_succ]
              clear hK Kc
              have n_v7_a5 := v7.lt
              have n_a2_a5 := a2.lt
              have n_v6_a5 := v6.lt
              replace v7 := v7.below hb5
              replace a2 := a2.below hb5
              replace v6 := v6.below hb5
              simp only [World.size_alloc] at qg5 n_v7_a5 n_a2_a5 n_v6_a5
              have ge5 : w2.heap.size ≤ g5 := by have := hHeld4.2.2.1; simp only [World.size_alloc] at this; omega
              replace n_v7_a5 : w2.heap.size ≠ g5 := by omega
              replace n_a2_a5 : g2 ≠ g5 := by omega
              replace n_v6_a5 : wt2.heap.size ≠ g5 := by omega
              have hT := twoVars (W := w2) (WW := wt5) (B5 := wt2.heap.size) (B6 := w2.heap.size) (c2 := cap2) (c5 := cap5) K v6 v7 a2 a5 o2 o5 (Ne.symm n_v7_v6) n_a2_v6 (Ne.symm n_v7_a2) n_a2_a5 (Ne.symm n_v6_a5) (Ne.symm n_v7_a5) ge2 ge6 ge7 hHeld5
              have e50 := v6.cell 0
              have e51 := v6.cell 1
              have e60 := v7.cell 0
              have e61 := v7.cell 1
              have f50 := v6.free 0
              have f51 := v6.free 1
              have f60 := v7.free 0
              have f61 := v7.free 1
              simp only [List.getElem?_toArray, List.getElem?_cons_zero, List.getElem?_cons_succ] at e50 e51 e60 e61
              have n56 := (Ne.symm n_v7_v6)
              have n65 := Ne.symm n56
              refine wpAnyH_ready (rs := [8]) (by kernel_rfl) (by simp) ?_
              refine AllReadyH.cons rfl (fun Kc hK => ?_) AllReadyH.nil
              go_simp
              refine hK.out _ _ (by repeat' (first | with_reducible assumption | with_reducible exact Old.refl _ | with_reducible refine Old.drewK ?_ | with_reducible refine Old.alloc ?_ _ | with_reducible refine Old.setK ?_ ?_ | with_reducible refine Old.call ?_ (by with_reducible assumption) | omega | (simp; omega) | simp)) (fun hHeld6 => ?_)
              try simp only [Act.put, List.setIfInBounds_toArray, List.set_cons_zero, List.set_cons_succ]
              clear hK Kc
              refine wpAnyH_ready (rs := [9]) (by kernel_rfl) (by simp) ?_
              refine AllReadyH.cons rfl (fun Kc hK => ?_) AllReadyH.nil
              go_simp
              refine hK.out _ _ (by repeat' (first | with_reducible assumption | with_reducible exact Old.refl _ | with_reducible refine Old.drewK ?_ | with_reducible refine Old.alloc ?_ _ | with_reducible refine Old.setK ?_ ?_ | with_reducible refine Old.call ?_ (by with_reducible assumption) | omega | (simp; omega) | simp)) (fun hHeld7 => ?_)
              try simp only [Act.put, List.setIfInBounds_toArray, List.set_cons_zero, List.set_cons_succ]
              clear hK Kc
              refine wpAnyH_done (by kernel_rfl) ?_ _
              refine NoPanic.normal ?_
              exact ⟨_, _, _, _, _, _, _, _, _, _, _, _, _, _, _, _, _, _, _, _, _, rfl, rfl, hT⟩
          · go_simp
            refine hK.out _ _ (by repeat' (first | with_reducible assumption | with_reducible exact Old.refl _ | with_reducible refine Old.drewK ?_ | with_reducible refine Old.alloc ?_ _ | with_reducible refine Old.setK ?_ ?_ | with_reducible refine Old.call ?_ (by with_reducible assumption) | omega | (simp; omega) | simp)) (fun hHeld3 => ?_)
            try simp only [Act.put, List.setIfInBounds_toArray, List.set_cons_zero, List.set_cons_succ]
            clear hK Kc
            have ge6 : w2.heap.size ≤ w2.heap.size + 1 := by have := hHeld2.2.2.1; simp only [World.size_alloc, sz_drew] at this; omega
            have n_v7_v6 := v7.lt
            have v6 := At.new ((w2.drew).alloc (.cells #[.slice none 0 0, .int .i64 0] 43)) (.cells #[.slice none 0 0, .int .i64 0] 43)
            simp only [World.size_alloc, sz_drew] at v6 n_v7_v6
            replace n_v7_v6 : w2.heap.size ≠ w2.heap.size + 1 := by omega
            replace v7 := v7.alloc (.cells #[.slice none 0 0, .int .i64 0] 43)
            refine wpAnyH_ready (rs := [2]) (by kernel_rfl) (by simp) ?_
            refine AllReadyH.cons rfl (fun Kc hK => ?_) AllReadyH.nil
            go_simp
            go_at_call 73
            refine (text_ab7 K _).mono ?_
            rintro e wt2 ⟨ad2, cap2, rfl, ho2, hb2⟩
            obtain ⟨g2, cur2, rfl, qg2, a2, o2⟩ := at_own ho2
            dsimp only
            refine hK.out _ _ (by repeat' (first | with_reducible assumption | with_reducible exact Old.refl _ | with_reducible refine Old.drewK ?_ | with_reducible refine Old.alloc ?_ _ | with_reducible refine Old.setK ?_ ?_ | with_reducible refine Old.call ?_ (by with_reducible assumption) | omega | (simp; omega) | simp)) (fun hHeld4 => ?_)
            try simp only [Act.put, List.setIfInBounds_toArray, List.set_cons_zero, List.set_cons_succ]
            clear hK Kc
            have n_v7_a2 := v7.lt
            have n_v6_a2 := v6.lt
            replace v7 := v7.below hb2
            replace v6 := v6.below hb2
            simp only [World.size_alloc, sz_drew] at qg2 n_v7_a2 n_v6_a2
            have ge2 : w2.heap.size ≤ g2 := by have := hHeld3.2.2.1; simp only [World.size_alloc, sz_drew] at this; omega
            replace n_v7_a2 : w2.heap.size ≠ g2 := by omega
            replace n_v6_a2 : w2.heap.size + 1 ≠ g2 := by omega
            refine wpAnyH_ready (rs := [5]) (by kernel_rfl) (by simp) ?_
            refine AllReadyH.cons rfl (fun Kc hK => ?_) AllReadyH.nil
            go_simp
            go_at_call 73
            refine (text_ab7 K _).mono ?_
            rintro e wt5 ⟨ad5, cap5, rfl, ho5, hb5⟩
            obtain ⟨g5, cur5, rfl, qg5, a5, o5⟩ := at_own ho5
            dsimp only
            refine hK.out _ _ (by repeat' (first | with_reducible assumption | with_reducible exact Old.refl _ | with_reducible refine Old.drewK ?_ | with_reducible refine Old.alloc ?_ _ | with_reducible refine Old.setK ?_ ?_ | with_reducible refine Old.call ?_ (by with_reducible assumption) | omega | (simp; omega) | simp)) (fun hHeld5 => ?_)
            try simp only [Act.put, List.setIfInBounds_toArray, List.set_cons_zero, List.set_cons_succ]
            clear hK Kc
            have n_v7_a5 := v7.lt
            have n_v6_a5 := v6.lt
            have n_a2_a5 := a2.lt
            replace v7 := v7.below hb5
            replace v6 := v6.below hb5
            replace a2 := a2.below hb5
            have ge5 : w2.heap.size ≤ g5 := by have := hHeld4.2.2.1; omega
            replace n_v7_a5 : w2.heap.size ≠ g5 := by omega
            replace n_v6_a5 : w2.heap.size + 1 ≠ g5 := by omega
            replace n_a2_a5 : g2 ≠ g5 := by omega
            have hT := twoVars (W := w2) (WW := wt5) (B5 := w2.heap.size + 1) (B6 := w2.heap.size) (c2 := cap2) (c5 := cap5) K v6 v7 a2 a5 o2 o5 (Ne.symm n_v7_v6) (Ne.symm n_v6_a2) (Ne.symm n_v7_a2) n_a2_a5 (Ne.symm n_v6_a5) (Ne.symm n_v7_a5) ge2 ge6 ge7 hHeld5
            have e50 := v6.cell 0
            have e51 := v6.cell 1
            have e60 := v7.cell 0
            have e61 := v7.cell 1
            have f50 := v6.free 0
            have f51 := v6.free 1
            have f60 := v7.free 0
            have f61 := v7.free 1
            simp only [List.getElem?_toArray, List.getElem?_cons_zero, List.getElem?_cons_succ] at e50 e51 e60 e61
            have n56 := (Ne.symm n_v7_v6)
            have n65 := Ne.symm n56
            refine wpAnyH_ready (rs := [8]) (by kernel_rfl) (by simp) ?_
            refine AllReadyH.cons rfl (fun Kc hK => ?_) AllReadyH.nil
            go_simp
            refine hK.out _ _ (by repeat' (first | with_reducible assumption | with_reducible exact Old.refl _ | with_reducible refine Old.drewK ?_ | with_reducible refine Old.alloc ?_ _ | with_reducible refine Old.setK ?_ ?_ | with_reducible refine Old.call ?_ (by with_reducible assumption) | omega | (simp; omega) | simp)) (fun hHeld6 => ?_)
            try simp only [Act.put, List.setIfInBounds_toArray, List.set_cons_zero, List.set_cons_succ]
            clear hK Kc
            refine wpAnyH_ready (rs := [9]) (by kernel_rfl) (by simp) ?_
            refine AllReadyH.cons rfl (fun Kc hK => ?_) AllReadyH.nil
            go_simp
            refine hK.out _ _ (by repeat' (first | with_reducible assumption | with_reducible exact Old.refl _ | with_reducible refine Old.drewK ?_ | with_reducible refine Old.alloc ?_ _ | with_reducible refine Old.setK ?_ ?_ | with_reducible refine Old.call ?_ (by with_reducible assumption) | omega | (simp; omega) | simp)) (fun hHeld7 => ?_)
            try simp only [Act.put, List.setIfInBounds_toArray, List.set_cons_zero, List.set_cons_succ]
            clear hK Kc
            refine wpAnyH_done (by kernel_rfl) ?_ _
            refine NoPanic.normal ?_
            exact ⟨_, _, _, _, _, _, _, _, _, _, _, _, _, _, _, _, _, _, _, _, _, rfl, rfl, hT⟩
    · go_enter Try.func19, Try.ntmps19
      go_wp2_with fail
      rw [← hW0]
      clear hW0 hR hR'
      obtain ⟨c0, c1, cl⟩ := id hl
      obtain ⟨d0, d1, dl⟩ := id hl'
      refine (few07_any ad n cap K hn _).mono ?_
      rw [decide_eq_true hf]
      rintro e w1 ⟨rfl, hb1⟩
      replace HB := HB.trans (hb1.mono HB.size)
      replace hl' := hl'.below hb1 hl'.2.2
      clear hb1 c0 c1 cl d0 d1 dl hR0 hR0' hl
      obtain ⟨d0, d1, dl⟩ := id hl'
      go_wp2_with (first | (go_at_call 66; refine (few07_any ad' n' cap' K' hn' _).mono ?_; rw [decide_eq_false hf']; rintro e w2 ⟨rfl, hb2⟩) | (go_at_call 67; refine (alive07 _).mono ?_; rintro e w3 ⟨rfl, hb3⟩))
      go_ret
      exact ⟨rfl, HB.trans ((hb2.trans (hb3.mono hb2.size)).mono HB.size)⟩
  · go_enter Try.func19, Try.ntmps19
    go_wp2_with (first | (go_at_call 66; refine (few07_any ad n cap K hn _).mono ?_; rw [decide_eq_false hf]; rintro e w1 ⟨rfl, hb1⟩) | (go_at_call 67; refine (alive07 _).mono ?_; rintro e w2 ⟨rfl, hb2⟩))
    go_ret
    rw [hW0] at HB
    exact ⟨rfl, HB.trans ((hb1.trans (hb2.mono hb1.size)).mono HB.size)⟩
end Go.Proofs.Ytkhcjjdamphbfaa
