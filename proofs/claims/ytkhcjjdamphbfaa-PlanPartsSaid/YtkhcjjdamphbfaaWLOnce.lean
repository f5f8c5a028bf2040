/- Walk of the law LeafOnce. -/
import Derived.Test.YtkhcjjdamphbfaaAl07
import Derived.Deep.OwnRows
import Derived.Maps.AppendAt
namespace Go.Proofs.Ytkhcjjdamphbfaa
open Go.RowKit

/-- How often a class stands in a list. -/
def occ (S : Nat → Bool) (l : List (Nat → Bool)) : Nat := cntN (fun r => clsEq S (gc l r)) l.length
theorem cntN_true {p : Nat → Bool} {k : Nat} (h : cntN p k ≠ 0) : ∃ j, j < k ∧ p j = true := by
  induction k with
  | zero => exact absurd rfl h
  | succ k ih =>
    by_cases hp : p k = true
    · exact ⟨k, by omega, hp⟩
    · simp only [cntN, hp] at h
      obtain ⟨j, hj, hh⟩ := ih (by simpa using h)
      exact ⟨j, by omega, hh⟩
theorem cntN_pos {p : Nat → Bool} {k j : Nat} (hj : j < k) (h : p j = true) : 0 < cntN p k := by
  induction k with
  | zero => omega
  | succ k ih =>
    simp only [cntN]
    by_cases he : j = k
    · subst he; rw [h]; simp
    · have := ih (by omega); omega
theorem ite_toNat (b : Bool) : (if b = true then 1 else 0) = b.toNat := by cases b <;> rfl
theorem occ_snoc (S T : Nat → Bool) (l : List (Nat → Bool)) : occ S (l ++ [T]) = occ S l + (clsEq S T).toNat := by
  unfold occ
  rw [List.length_append, List.length_singleton]
  simp only [cntN, ite_toNat]
  have e : gc (l ++ [T]) l.length = T := by unfold gc; simp
  rw [e]
  congr 1
  exact cntN_congr fun i hi => by rw [gc_snoc l T i hi]
theorem occ_kinds (L : Nat → Nat → Bool) (k : Nat) (S : Nat → Bool) : occ S (kindsTo L k) = (!clsEq S fullS && anyN (fun j => clsEq (L j) S) k).toNat := by
  induction k with
  | zero => simp [kindsTo, occ, cntN, anyN]
  | succ k ih =>
    simp only [kindsTo]
    have ha : anyN (fun j => clsEq (L j) S) (k + 1) = (anyN (fun j => clsEq (L j) S) k || clsEq (L k) S) := rfl
    rw [ha]
    clear ha
    cases hf : clsEq (L k) fullS
    · cases hi : inL (L k) (kindsTo L k)
      · rw [if_neg (by simp), occ_snoc, ih]
        cases hS : clsEq S (L k)
        · rw [clsEq_comm (L k) S, hS, Bool.or_false]; rfl
        · have h0 : occ S (kindsTo L k) = 0 := by
            by_cases hz : occ S (kindsTo L k) = 0
            · exact hz
            · obtain ⟨j, hj, hh⟩ := cntN_true hz
              have h2 : inL (L k) (kindsTo L k) = true := by
                rw [inL_any]
                exact anyN_hit hj (clsEq_trans (by rw [clsEq_comm]; exact hh) hS)
              rw [hi] at h2; cases h2
          rw [ih] at h0
          have hfs : clsEq S fullS = false := by
            rw [Bool.eq_false_iff]
            intro hc
            have := clsEq_trans (by rw [clsEq_comm]; exact hS) hc
            rw [hf] at this; cases this
          rw [h0, hfs, clsEq_comm (L k) S, hS, Bool.or_true]; rfl
      · rw [if_pos (by simp), ih]
        cases hS : clsEq (L k) S
        · rw [Bool.or_false]
        · rw [inL_any] at hi
          obtain ⟨j, hj, hh⟩ := (anyN_iff _ _).1 hi
          have hp : 0 < occ S (kindsTo L k) := cntN_pos hj (by rw [clsEq_comm]; exact clsEq_trans hh hS)
          rw [ih] at hp
          cases hc : (!clsEq S fullS && anyN (fun j => clsEq (L j) S) k)
          · rw [hc] at hp; exact absurd hp (by decide)
          · simp only [Bool.and_eq_true] at hc
            rw [hc.1, Bool.or_true]; rfl
    · rw [if_pos (by simp), ih]
      cases hS : clsEq (L k) S
      · rw [Bool.or_false]
      · have hfs : clsEq S fullS = true := clsEq_trans (by rw [clsEq_comm]; exact hS) hf
        rw [hfs]; rfl
theorem occ_at (L : Nat → Nat → Bool) (n j : Nat) (hj : j < n) : occ (L j) (kindsTo L n) = (!clsEq (L j) fullS).toNat := by
  rw [occ_kinds, anyN_hit hj (clsEq_refl _), Bool.and_true]
theorem where_count (S : Nat → Bool) (L : Nat → Nat → Bool) (k j : Nat) : (whereTo S L k).count (j : Int) = if j < k ∧ clsEq (L j) S = true then 1 else 0 := by
  induction k with
  | zero => simp [whereTo]
  | succ k ih =>
    simp only [whereTo]
    by_cases hk : clsEq (L k) S = true
    · rw [if_pos hk, List.count_append, ih, List.count_singleton]
      by_cases he : j = k
      · subst he; simp [hk]
      · have : ¬ ((k : Int) == (j : Int)) = true := by simp; omega
        rw [if_neg this]
        by_cases hl : j < k ∧ clsEq (L j) S = true
        · rw [if_pos hl, if_pos ⟨by omega, hl.2⟩]
        · rw [if_neg hl, if_neg (fun h => hl ⟨by omega, h.2⟩)]
    · rw [if_neg hk, ih]
      by_cases he : j = k
      · subst he; simp [hk]
      · by_cases hl : j < k ∧ clsEq (L j) S = true
        · rw [if_pos hl, if_pos ⟨by omega, hl.2⟩]
        · rw [if_neg hl, if_neg (fun h => hl ⟨by omega, h.2⟩)]

/-- A row of numbers of the call's own, that is written. -/
structure Nums (w : World) (T n : Nat) (A : Nat → Int) : Prop where
  cells : ∀ j, j < n → w.cell? ⟨T, j, none⟩ = some (.int .i64 (A j))
  free : ∀ j, j < n → w.frozen? ⟨T, j, none⟩ = false
  lt : T < w.heap.size
theorem Nums.congr {w : World} {T n : Nat} {A B : Nat → Int} (h : Nums w T n A) (he : ∀ j, j < n → A j = B j) : Nums w T n B where
  cells j hj := by rw [← he j hj]; exact h.cells j hj
  free := h.free
  lt := h.lt
theorem Nums.below {w w' : World} {T n : Nat} {A : Nat → Int} (h : Nums w T n A) (hb : Below w.heap.size w w') : Nums w' T n A where
  cells j hj := (hb.cell (p := ⟨T, j, none⟩) h.lt).trans (h.cells j hj)
  free j hj := (hb.frozen (p := ⟨T, j, none⟩) h.lt).trans (h.free j hj)
  lt := Nat.lt_of_lt_of_le h.lt hb.size
theorem Nums.set {w : World} {T n : Nat} {A : Nat → Int} (h : Nums w T n A) (i : Nat) (hi : i < n) (x : Int) : Nums (w.setCell ⟨T, i, none⟩ (.int .i64 x)) T n (fun j => if j = i then x else A j) where
  cells j hj := by
    have hc := h.cells i hi
    have hj' := h.cells j hj
    by_cases he : j = i
    · subst he
      simp [go_sem, hc]
    · have : ¬ (i = j) := fun e => he e.symm
      simp [go_sem, he, hj']
  free j hj := by rw [World.frozen?_setCell]; exact h.free j hj
  lt := by simpa using h.lt
theorem Nums.new (w : World) (n : Nat) : Nums (w.alloc (.cells (madeCells #[.int .i64 0] n) 3)) w.heap.size n (fun _ => 0) where
  cells j hj := by
    rw [World.cell?_alloc_new]
    have : (madeCells #[.int .i64 0] n).toList[j]? = some (.int .i64 0) := by
      rw [toList_madeCells_one]
      rw [List.getElem?_replicate, if_pos hj]
    rw [← Array.getElem?_toList, this]
  free j _ := World.frozen?_alloc_new _ _ _ _
  lt := by simp
theorem grown_set (w : World) (T i : Nat) (v : Value) : w.grownBy (w.setCell ⟨T, i, none⟩ v) (some T) :=
  ⟨rfl, rfl, rfl, by simp, fun k _ hk => Below.heap_setCell _ _ _ k (fun e => hk (by rw [e]))⟩
theorem RowC.grown {w w' : World} {ad : Option Addr} {n T : Nat} {L : Nat → Nat → Bool} (h : RowC w ad n L w.heap.size) (hg : w.grownBy w' (some T)) (hT : ∀ b o, ad = some ⟨b, o, none⟩ → 0 < n → b ≠ T) : RowC w' ad n L w.heap.size := by
  rcases Nat.eq_zero_or_pos n with h0 | h0
  · exact .inl h0
  rcases h with h | ⟨b, o, ha, hlt, hc⟩
  · omega
  · have e : ∀ i, w'.cell? ⟨b, i, none⟩ = w.cell? ⟨b, i, none⟩ := fun i => World.cell?_of_block (a := ⟨b, i, none⟩) (hg.block b hlt (fun e => hT b o ha h0 (by cases e; rfl)))
    exact .inr ⟨b, o, ha, hlt, fun j hj => by
      obtain ⟨h0, h1, h2, h3⟩ := hc j hj
      exact ⟨(e _).trans h0, (e _).trans h1, (e _).trans h2, (e _).trans h3⟩⟩
theorem RowI.grown {w w' : World} {ad : Option Addr} {n T : Nat} {A : Nat → Int} (h : RowI w ad n A w.heap.size) (hg : w.grownBy w' (some T)) (hT : ∀ b o, ad = some ⟨b, o, none⟩ → 0 < n → b ≠ T) : RowI w' ad n A w.heap.size := by
  rcases Nat.eq_zero_or_pos n with h0 | h0
  · exact .inl h0
  rcases h with h | ⟨b, o, ha, hlt, hc⟩
  · omega
  · have e : ∀ i, w'.cell? ⟨b, i, none⟩ = w.cell? ⟨b, i, none⟩ := fun i => World.cell?_of_block (a := ⟨b, i, none⟩) (hg.block b hlt (fun e => hT b o ha h0 (by cases e; rfl)))
    exact .inr ⟨b, o, ha, hlt, fun j hj => (e _).trans (hc j hj)⟩
theorem own_apart {w : World} {base : Nat} {e : TypeId} {size n cap : Nat} {ad : Option Addr} {xs : List Value} (h : w.ownsRow base e size (.slice ad n cap) n xs) {T : Nat} (hT : T < base) : ∀ b o, ad = some ⟨b, o, none⟩ → 0 < n → b ≠ T := by
  intro b o ha hn
  obtain ⟨g, cp, hv, hg, _⟩ := own_form h hn
  cases hv
  cases ha
  omega
theorem HoldsL.grown {w w' : World} {B T : Nat} {ad : Option Addr} {n cap : Nat} {K : Int} (h : HoldsL w B ad n cap K) (hg : w.grownBy w' (some T)) (hne : B ≠ T) : HoldsL w' B ad n cap K := by
  have e : ∀ i, w'.cell? ⟨B, i, none⟩ = w.cell? ⟨B, i, none⟩ := fun i => World.cell?_of_block (a := ⟨B, i, none⟩) (hg.block B h.2.2 (fun e => hne (by cases e; rfl)))
  exact ⟨(e _).trans h.1, (e _).trans h.2.1, Nat.lt_of_lt_of_le h.2.2 hg.size⟩

set_option maxRecDepth 100000 in
set_option maxHeartbeats 4000000 in
theorem leafOnce_walk (ad : Option Addr) (n cap : Nat) (K : Int) (L : Nat → Nat → Bool) (hn : (n : Int) ≤ 4611686018427387904) (w : World) (hR : RowC w ad n L w.heap.size) :
    Calls Try.prog 18 #[lv ad n cap K] w fun e w' => e = .returned (.bool true) ∧ Below w.heap.size w w' := by
  have hl := HoldsL.new w ad n cap K
  have HB : Below w.heap.size w (w.alloc (.cells #[.slice ad n cap, .int .i64 K] 43)) := (Below.refl _ _).alloc (Nat.le_refl _) _
  have hR0 := hR.below HB (Nat.le_refl _)
  by_cases hf : n ≤ 100
  · have hmk := run_make_row' (P := Try.prog) 48 3 (.int .i64 0) 8 Try.underlying48 (by kernel_rfl) rfl .i64 .i64 n (by omega) (by omega)
    go_enter Try.func18, Try.ntmps18
    go_wp2_with (go_at_call 66; refine (few07_any ad n cap K hn _).mono ?_; rw [decide_eq_true hf]; rintro e w1 ⟨rfl, hb1⟩; obtain ⟨c0, c1, cl⟩ := hl.below hb1 hl.2.2)
    have HB1 := HB.trans (hb1.mono HB.size)
    have hl1 := hl.below hb1 hl.2.2
    have hc1 : w.heap.size < w1.heap.size := cl
    have hA : Below w1.heap.size w1 (w1.alloc (.cells (madeCells #[.int .i64 0] n) 3)) := (Below.refl _ _).alloc (Nat.le_refl _) _
    have hN0 := Nums.new w1 n
    have hsz : (w1.alloc (.cells (madeCells #[.int .i64 0] n) 3)).heap.size = w1.heap.size + 1 := by simp
    obtain ⟨T, hT⟩ : ∃ T, T = w1.heap.size := ⟨_, rfl⟩
    rw [← hT] at hN0 hsz ⊢
    generalize (w1.alloc (.cells (madeCells #[.int .i64 0] n) 3)) = W1 at hN0 hA hsz ⊢
    have hl2 := hl1.below hA hc1
    have HB2 := HB1.trans (hA.mono HB1.size)
    have hTw : w.heap.size < T := by omega
    have hRw := hR.below HB2 (Nat.le_refl _)
    clear hA hb1 hR0 hl hl1 HB HB1 c0 c1 cl hT hR hc1 w1
    refine (kinds_any ad n cap K L (by omega) _ (hRw.mono HB2.size)).mono ?_
    rintro e w2 ⟨v2, rfl, ho2, hb2⟩
    obtain ⟨adk, cpk, rfl⟩ := own_slice ho2
    have hN2 := hN0.below hb2
    have hRw2 := hRw.below hb2 HB2.size
    have hl3 := hl2.below hb2 hl2.2.2
    have HB3 := HB2.trans (hb2.mono HB2.size)
    have hRk := rowC_of_list ho2
    have hkT := own_apart ho2 (T := T) (by omega)
    have hkl := kindsTo_length L n
    have hz2 : T < w2.heap.size := by have := hb2.size; omega
    have hRb : ∀ b o, ad = some ⟨b, o, none⟩ → 0 < n → b ≠ T := by
      intro b o ha hn0
      rcases hRw with h | ⟨b', o', ha', hlt, _⟩
      · omega
      · rw [ha] at ha'; cases ha'; omega
    have HRB := Lib.hid hRb
    have HKT := Lib.hid hkT
    have HOcc := Lib.hid (occ_at L n)
    obtain ⟨m, hm⟩ : ∃ m, m = (kindsTo L n).length := ⟨_, rfl⟩
    rw [← hm] at hRk hkl ⊢
    have HM := Lib.hid hm
    have HKT' : Hid (∀ b o, adk = some ⟨b, o, none⟩ → 0 < m → b ≠ T) := by rw [hm]; exact HKT
    clear ho2 hb2 hN0 hl2 hRw HB2 hRb hkT hsz hm HKT
    go_wp2_with fail
    go_loopw [23] (fun i wr => ∃ q : Nat, q ≤ m ∧ i = .int .i64 q ∧ Nums wr T n (fun j => ((cntN (fun r => clsEq (L j) (gc (kindsTo L n) r)) q : Nat) : Int)) ∧ w2.grownBy wr (some T)) (fun i _ => m - (intOf i).toNat)
    case atStart => exact ⟨0, by omega, rfl, hN2, ⟨rfl, rfl, rfl, Nat.le_refl _, fun _ _ _ => rfl⟩⟩
    case round =>
      obtain ⟨q, hq, rfl, hN, hg⟩ := hrel
      have hlq := hl3.grown hg (by omega)
      have hRq := (RowC.grown (hRw2.mono HB3.size) hg HRB.out).mono hg.size
      have hRkq := hRk.grown hg HKT'.out
      have HBq := HB3.trans (grown_below hg HB3.size (fun k hk => by cases hk; omega))
      have hzq := hg.size
      obtain ⟨c0, c1, cl⟩ := hlq
      by_cases hlt : q < m
      · obtain ⟨b, o, rfl, hbm, e0, e1, e2, e3⟩ := hRkq.at hlt
        have hlti : (q : Int) < m := by omega
        have hA : Below wr.heap.size wr (wr.alloc (.cells #[.int .u64 (wd (gc (kindsTo L n) q) 0 : Nat), .int .u64 (wd (gc (kindsTo L n) q) 1 : Nat), .int .u64 (wd (gc (kindsTo L n) q) 2 : Nat), .int .u64 (wd (gc (kindsTo L n) q) 3 : Nat)] 26)) := (Below.refl _ _).alloc (Nat.le_refl _) _
        have hRA := (hRq.below hA (Nat.le_refl _)).mono hA.size
        have hsz : (wr.alloc (.cells #[.int .u64 (wd (gc (kindsTo L n) q) 0 : Nat), .int .u64 (wd (gc (kindsTo L n) q) 1 : Nat), .int .u64 (wd (gc (kindsTo L n) q) 2 : Nat), .int .u64 (wd (gc (kindsTo L n) q) 3 : Nat)] 26)).heap.size = wr.heap.size + 1 := by simp
        have hNA := hN.below hA
        have HG := Lib.hid hg
        clear hg hN hRq hRkq
        go_wp2_with (go_at_call 82; refine (where_any ad n cap K L (gc (kindsTo L n) q) (by omega) _ hRA).mono ?_; rintro e w4 ⟨v4, rfl, ho4, hb4⟩; obtain ⟨adw, cpw, rfl⟩ := own_slice ho4)
        have hN4 := hNA.below hb4
        have hRI := rowI_of_ints ho4
        have hwT := Lib.hid (own_apart ho4 (T := T) (by omega))
        have hG4 := Lib.hid ((HG.out.trans (World.grownBy_alloc wr (.cells #[.int .u64 (wd (gc (kindsTo L n) q) 0 : Nat), .int .u64 (wd (gc (kindsTo L n) q) 1 : Nat), .int .u64 (wd (gc (kindsTo L n) q) 2 : Nat), .int .u64 (wd (gc (kindsTo L n) q) 3 : Nat)] 26) (some T))).trans (grown_of_below hb4 (some T)))
        have hwl : (whereTo (gc (kindsTo L n) q) L n).length ≤ n := by rw [whereTo_length]; exact cntN_le _ _
        have hwm := Lib.hid (whereTo_mem (gc (kindsTo L n) q) L n)
        have hwc := Lib.hid (where_count (gc (kindsTo L n) q) L n)
        clear hRA hA hsz hNA ho4 hb4 HG e0 e1 e2 e3 c0 c1 cl
        obtain ⟨Wq, hWq⟩ : ∃ Wq, Wq = whereTo (gc (kindsTo L n) q) L n := ⟨_, rfl⟩
        rw [← hWq] at hRI hwT hwl hwm hwc ⊢
        clear hWq
        have hcq : ∀ j, cntN (fun r => clsEq (L j) (gc (kindsTo L n) r)) q ≤ 100 := fun j => Nat.le_trans (cntN_le _ _) (by omega)
        have HCQ := Lib.hid hcq
        clear hcq
        have hN4' : Nums w4 T n (fun j => ((cntN (fun r => clsEq (L j) (gc (kindsTo L n) r)) q : Nat) : Int) + (((Wq.take 0).count (j : Int) : Nat) : Int)) := hN4.congr fun j _ => by simp
        clear hN4
        go_loopw [31] (fun i w5 => ∃ r : Nat, r ≤ Wq.length ∧ i = .int .i64 r ∧ Nums w5 T n (fun j => ((cntN (fun r => clsEq (L j) (gc (kindsTo L n) r)) q : Nat) : Int) + (((Wq.take r).count (j : Int) : Nat) : Int)) ∧ w4.grownBy w5 (some T)) (fun i _ => Wq.length - (intOf i).toNat)
        case atStart => exact ⟨0, by omega, rfl, hN4', ⟨rfl, rfl, rfl, Nat.le_refl _, fun _ _ _ => rfl⟩⟩
        case round =>
          obtain ⟨r, hr, rfl, hN5, hg5⟩ := hrel
          have hRI5 := hRI.grown hg5 hwT.out
          by_cases hlr : r < Wq.length
          · obtain ⟨bw, ow, rfl, hbw, e0⟩ := hRI5.at hlr
            have hlri : (r : Int) < Wq.length := by omega
            have hgi : gi Wq r = Wq[r] := by unfold gi; rw [List.getElem?_eq_getElem hlr]; rfl
            obtain ⟨j0, hj0, hj0n, -⟩ := (hwm.out (gi Wq r)).1 (by rw [hgi]; exact List.getElem_mem hlr)
            have hgi' : Wq[r] = (j0 : Int) := hgi.symm.trans hj0
            rw [hj0] at e0
            have hcount : (Wq.take r).count (j0 : Int) ≤ 100 := Nat.le_trans (List.count_le_length) (by rw [List.length_take]; omega)
            have hj1 := hN5.cells j0 hj0n
            have hj2 := hN5.free j0 hj0n
            have hx := HCQ.out j0
            obtain ⟨x, hxx⟩ : ∃ x : Int, x = ((cntN (fun r => clsEq (L j0) (gc (kindsTo L n) r)) q : Nat) : Int) + (((Wq.take r).count (j0 : Int) : Nat) : Int) := ⟨_, rfl⟩
            rw [← hxx] at hj1
            have hw : IntKind.i64.wrap (x + 1) = x + 1 := by rw [IntKind.wrap_i64]; omega
            have hj0i : (j0 : Int) < n := by omega
            have hj00 : (0 : Int) ≤ j0 := by omega
            have hN6 := hN5.set j0 hj0n (x + 1)
            have HX := Lib.hid hxx
            have HGI := Lib.hid hgi'
            have hN7 : Nums (wr.setCell ⟨T, j0, none⟩ (.int .i64 (x + 1))) T n (fun j => ((cntN (fun r => clsEq (L j) (gc (kindsTo L n) r)) q : Nat) : Int) + (((Wq.take (r + 1)).count (j : Int) : Nat) : Int)) := by
              refine hN6.congr fun j _ => ?_
              rw [List.take_succ_eq_append_getElem hlr, List.count_append, HGI.out, List.count_singleton]
              by_cases he : j = j0
              · subst he
                rw [if_pos rfl, HX.out, if_pos (by simp)]
                omega
              · rw [if_neg he, if_neg (by simp; omega)]
                omega
            have hTl := hN5.lt
            clear hgi hgi' hj0 hxx hcount hN6 hRI5 hRI
            go_wp2
            exact ⟨⟨r + 1, by omega, by go_num, hN7, hg5.trans (grown_set _ _ _ _)⟩, by simp [intOf]; omega⟩
          · obtain rfl : r = Wq.length := by omega
            go_wp2
            refine ⟨⟨q + 1, by omega, by go_num, hN5.congr fun j hj => ?_, hG4.out.trans hg5⟩, by simp [intOf]; omega⟩
            rw [List.take_length, hwc.out j]
            simp only [cntN]
            by_cases hcl : clsEq (L j) (gc (kindsTo L n) q) = true
            · rw [if_pos ⟨hj, hcl⟩, if_pos hcl]; omega
            · rw [if_neg (fun h => hcl h.2), if_neg hcl]; omega
      · obtain rfl : q = m := by omega
        have hNf : Nums wr T n (fun j => (((!clsEq (L j) fullS).toNat : Nat) : Int)) := hN.congr fun j hj => by rw [← HOcc.out j hj]; unfold occ; rw [← HM.out]
        clear hN hRkq hRk
        have hlf : Hid (HoldsL wr w.heap.size ad n cap K) := Lib.hid ⟨c0, c1, cl⟩
        obtain ⟨wz, hwz⟩ : ∃ wz, wz = wr := ⟨_, rfl⟩
        subst hwz
        go_wp2_with fail
        go_loopw [8, 54] (fun x i w6 => ∃ k : Nat, k ≤ n ∧ i = .int .i64 k ∧ x = .int .i64 (boundN L k : Nat) ∧ Old wz w6) (fun _ i _ => n - (intOf i).toNat)
        case atStart => exact ⟨0, by omega, rfl, rfl, Old.refl _⟩
        case round =>
          obtain ⟨k, hk, rfl, rfl, hO⟩ := hrel
          have hRk := hRq.below hO.2.2.2 (Nat.le_refl _)
          have hNk := hNf.below hO.2.2.2
          have hlk := HoldsL.below hlf.out hO.2.2.2 hlf.out.2.2
          have HBk := HBq.trans (hO.2.2.2.mono HBq.size)
          have hRk' := Lib.hid (hRk.mono hO.2.2.1)
          have HO := Lib.hid hO
          clear hO hRq hNf hlf c0 c1 cl hlt
          have hxk : boundN L k ≤ k := cntN_le _ _
          by_cases hlt : k < n
          · obtain ⟨b, o, rfl, hbm, e0, e1, e2, e3⟩ := hRk.at hlt
            have hlti : (k : Int) < n := by omega
            have hkk : (0 : Int) ≤ k := by omega
            have hA : Below wr.heap.size wr (wr.alloc (.cells #[.int .u64 (wd (L k) 0 : Nat), .int .u64 (wd (L k) 1 : Nat), .int .u64 (wd (L k) 2 : Nat), .int .u64 (wd (L k) 3 : Nat)] 26)) := (Below.refl _ _).alloc (Nat.le_refl _) _
            have hs : boundN L (k + 1) = boundN L k + (if (!clsEq (L k) fullS) = true then 1 else 0) := rfl
            have hfc := free_cnt (L k)
            have hcl := cntN_le (L k) 256
            have hNA := hNk.below hA
            have HZ := Lib.hid (fun w' : World => rsize_any (L k) w')
            obtain ⟨x, hx⟩ : ∃ x, x = boundN L k := ⟨_, rfl⟩
            rw [← hx] at hs hxk ⊢
            clear hx
            change cnt (L k) ≤ 256 at hcl
            generalize cnt (L k) = c at hfc hcl HZ
            have HNk := Lib.hid hNA
            clear hNA hNk
            cases hfu : clsEq (L k) fullS
            · rw [hfu] at hs hfc
              have hc : (c : Int) < 256 := by simp at hfc; omega
              have HS := Lib.hid hs
              have HF := Lib.hid hfu
              clear hs hfc hfu hcl
              go_wp2_with (go_at_call 49; refine (HZ.out _).mono ?_; rintro e w7 ⟨rfl, hb7⟩; have hn7 := HNk.out.below hb7; have e9 := hn7.cells k hlt; rw [HF.out] at e9; simp only [Bool.not_false, Bool.toNat_true] at e9)
              exact ⟨⟨k + 1, by omega, by go_num, by rw [HS.out]; go_num, HO.out.trans (Old.of (hA.trans (hb7.mono hA.size)))⟩, by simp [intOf]; omega⟩
            · rw [hfu] at hs hfc
              have hc : (c : Int) = 256 := by simp at hfc; omega
              have HS := Lib.hid hs
              have HF := Lib.hid hfu
              clear hs hfc hfu hcl
              go_wp2_with (go_at_call 49; refine (HZ.out _).mono ?_; rintro e w7 ⟨rfl, hb7⟩; have hn7 := HNk.out.below hb7; have e9 := hn7.cells k hlt; rw [HF.out] at e9; simp only [Bool.not_true, Bool.toNat_false] at e9)
              exact ⟨⟨k + 1, by omega, by go_num, by rw [HS.out]; go_num, HO.out.trans (Old.of (hA.trans (hb7.mono hA.size)))⟩, by simp [intOf]; omega⟩
          · obtain rfl : k = n := by omega
            obtain ⟨c0, c1, cl⟩ := hlk
            go_wp2_with (first | (go_at_call 67; refine (alive07 _).mono ?_; rintro e w7 ⟨rfl, hb7⟩; obtain ⟨d0, d1, dl⟩ := HoldsL.below (ad := ad) (n := k) (cap := cap) (K := K) ⟨c0, c1, cl⟩ hb7 cl) | (go_at_call 71; refine (bound_any ad k cap K L (by omega) _ ((hRk'.out.below hb7 (Nat.le_refl _)).mono hb7.size)).mono ?_; rintro e w8 ⟨rfl, hb8⟩))
            go_ret
            exact ⟨rfl, HBk.trans ((hb7.trans (hb8.mono hb7.size)).mono HBk.size)⟩
  · go_enter Try.func18, Try.ntmps18
    go_wp2_with (first | (go_at_call 66; refine (few07_any ad n cap K hn _).mono ?_; rw [decide_eq_false hf]; rintro e w1 ⟨rfl, hb1⟩) | (go_at_call 67; refine (alive07 _).mono ?_; rintro e w2 ⟨rfl, hb2⟩))
    go_ret
    exact ⟨rfl, HB.trans ((hb1.trans (hb2.mono hb1.size)).mono HB.size)⟩
end Go.Proofs.Ytkhcjjdamphbfaa
