/- Walk of the law NaiveGreater. -/
import Derived.Test.YtkhcjjdamphbfaaAl08
import Derived.Test.YtkhcjjdamphbfaaGp
import Derived.Deep.OwnRows
import Derived.Maps.AppendAt
namespace Go.Proofs.Ytkhcjjdamphbfaa
open Go.RowKit

theorem Old.drewG {W w : World} (h : Old W w) : Old W w.drew := .of h.2.2.2.drew
theorem Old.setG {W w : World} {p : Addr} {v : Value} (h : Old W w) (hp : W.heap.size ≤ p.block) : Old W (w.setCell p v) := .of (h.2.2.2.setCell hp v)
theorem holdsL_grw {w w' : World} {B b n cap : Nat} {ad : Option Addr} {K : Int} (h : HoldsL w B ad n cap K) (hg : w.grownBy w' (some b)) (hne : B ≠ b) : HoldsL w' B ad n cap K := by
  have hk := hg.block B h.2.2 (fun e => hne (by cases e; rfl))
  obtain ⟨h0, h1, h2⟩ := h
  refine ⟨?_, ?_, Nat.lt_of_lt_of_le h2 hg.size⟩
  · rw [← h0]; unfold World.cell?; rw [hk]
  · rw [← h1]; unfold World.cell?; rw [hk]
theorem rowC_grw {w w' : World} {ad : Option Addr} {n m b : Nat} {L : Nat → Nat → Bool} (h : RowC w ad n L m) (hg : w.grownBy w' (some b)) (hm : m ≤ w.heap.size) (hb : m ≤ b) : RowC w' ad n L m := by
  rcases Nat.eq_zero_or_pos n with h0 | h0
  · exact .inl h0
  · rcases h with h | ⟨c, o, ha, hlt, hc⟩
    · omega
    · have hk := hg.block c (by omega) (fun e => by cases e; omega)
      have hcell : ∀ j, w'.cell? ⟨c, j, none⟩ = w.cell? ⟨c, j, none⟩ := fun j => by unfold World.cell?; rw [hk]
      refine .inr ⟨c, o, ha, hlt, fun j hj => ?_⟩
      obtain ⟨h0, h1, h2, h3⟩ := hc j hj
      exact ⟨(hcell _).trans h0, (hcell _).trans h1, (hcell _).trans h2, (hcell _).trans h3⟩
theorem grw_set (w : World) (g i : Nat) (v : Value) : w.grownBy (w.setCell ⟨g, i, none⟩ v) (some g) :=
  ⟨rfl, rfl, rfl, by simp, fun k _ hk => Below.heap_setCell _ _ _ k (fun e => hk (by rw [e]))⟩
theorem grw_below {a w w' : World} {b n : Nat} (h : a.grownBy w (some b)) (hb : Below n w w') (hn : a.heap.size ≤ n) : a.grownBy w' (some b) :=
  ⟨hb.os.trans h.os, hb.tape.trans h.tape, hb.output.trans h.output, Nat.le_trans h.size hb.size, fun k hk hne => (hb.block k (by omega)).trans (h.block k hk hne)⟩

/-- Three leaves in new variables. -/
structure Var3 (W w' : World) (B7 B8 B9 : Nat) (ad : Option Addr) (n cap : Nat) (K : Int) : Prop where
  h7 : HoldsL w' B7 ad n cap K
  h8 : HoldsL w' B8 ad n cap K
  h9 : HoldsL w' B9 none 0 0 0
  z7 : w'.frozen? ⟨B7, 1, none⟩ = false
  z8 : w'.frozen? ⟨B8, 1, none⟩ = false
  z9 : w'.frozen? ⟨B9, 0, none⟩ = false
  d78 : B7 ≠ B8
  d79 : B7 ≠ B9
  d89 : B8 ≠ B9
  g7 : W.heap.size ≤ B7
  g8 : W.heap.size ≤ B8
  g9 : W.heap.size ≤ B9
  old : Old W w'

set_option maxRecDepth 100000 in
set_option maxHeartbeats 8000000 in
theorem naiveGreater_walk (ad : Option Addr) (n cap : Nat) (K : Int) (L : Nat → Nat → Bool) (hn : (n : Int) ≤ 4611686018427387904) (t : ByteArray) (ht : t.size ≤ 140737488351232) (k : Int) (_ : -9223372036854775808 ≤ k) (_ : k ≤ 9223372036854775807) (w : World) (hR : RowC w ad n L w.heap.size) :
    Calls Try.prog 20 #[lv ad n cap K, .string t, .int .i64 k] w fun e w' => e = .returned (.bool true) ∧ Below w.heap.size w w' := by
  obtain ⟨W0, hW0⟩ : ∃ W0, W0 = (w.alloc (.cells #[.slice ad n cap, .int .i64 K] 43)) := ⟨_, rfl⟩
  have HB : Below w.heap.size w W0 := by rw [hW0]; exact ((Below.refl _ _).alloc (Nat.le_refl _) _)
  have hR0 := (hR.below HB (Nat.le_refl _)).mono HB.size
  have hl : HoldsL W0 (w.heap.size) ad n cap K := by rw [hW0]; exact HoldsL.new w ad n cap K
  have hfew := few08_any ad n cap K hn t ht
  cases hf : (decide (n ≤ 100) && decide (t.size ≤ 300))
  · rw [hf] at hfew
    have HF := Lib.hid hfew
    clear hfew
    go_enter Try.func20, Try.ntmps20
    go_wp2_with (first | (go_at_call 52; refine (HF.out _).mono ?_; rintro e w1 ⟨rfl, hb1⟩) | (go_at_call 53; refine (alive08 _).mono ?_; rintro e w2 ⟨rfl, hb2⟩))
    go_ret
    rw [hW0] at HB
    exact ⟨rfl, HB.trans ((hb1.trans (hb2.mono hb1.size)).mono HB.size)⟩
  · rw [hf] at hfew
    have HF := Lib.hid hfew
    clear hfew
    simp only [Bool.and_eq_true, decide_eq_true_eq] at hf
    obtain ⟨hf1, hf2⟩ := hf
    have hr := fun w' h' => rright_any ad n cap K L hn w' h'
    cases hri : rightB n L K
    · rw [hri] at hr
      have HR := Lib.hid hr
      clear hr hri
      go_enter Try.func20, Try.ntmps20
      go_wp2_with fail
      rw [← hW0]
      clear hW0 hR
      obtain ⟨c0, c1, cl⟩ := id hl
      refine (HF.out _).mono ?_
      rintro e w1 ⟨rfl, hb1⟩
      replace HB := HB.trans (hb1.mono HB.size)
      replace hR0 := (hR0.below hb1 (Nat.le_refl _)).mono hb1.size
      replace hl := hl.below hb1 hl.2.2
      clear hb1 c0 c1 cl
      obtain ⟨c0, c1, cl⟩ := id hl
      go_wp2_with fail
      refine (HR.out _ hR0).mono ?_
      rintro e w2 ⟨rfl, hb2⟩
      replace HB := HB.trans (hb2.mono HB.size)
      replace hR0 := (hR0.below hb2 (Nat.le_refl _)).mono hb2.size
      replace hl := hl.below hb2 hl.2.2
      clear hb2 c0 c1 cl
      obtain ⟨c0, c1, cl⟩ := id hl
      go_wp2_with (first | (go_at_call 53; refine (alive08 _).mono ?_; rintro e w3 ⟨rfl, hb3⟩))
      go_ret
      exact ⟨rfl, HB.trans (hb3.mono HB.size)⟩
    · rw [hri] at hr
      have HR := Lib.hid hr
      obtain ⟨⟨r1, r2⟩, r3, r4⟩ := right_in hri
      by_cases hk1 : k < K
      · clear hr hri
        go_enter Try.func20, Try.ntmps20
        go_wp2_with fail
        rw [← hW0]
        clear hW0 hR
        obtain ⟨c0, c1, cl⟩ := id hl
        refine (HF.out _).mono ?_
        rintro e w1 ⟨rfl, hb1⟩
        replace HB := HB.trans (hb1.mono HB.size)
        replace hR0 := (hR0.below hb1 (Nat.le_refl _)).mono hb1.size
        replace hl := hl.below hb1 hl.2.2
        clear hb1 c0 c1 cl
        obtain ⟨c0, c1, cl⟩ := id hl
        go_wp2_with fail
        refine (HR.out _ hR0).mono ?_
        rintro e w2 ⟨rfl, hb2⟩
        replace HB := HB.trans (hb2.mono HB.size)
        replace hR0 := (hR0.below hb2 (Nat.le_refl _)).mono hb2.size
        replace hl := hl.below hb2 hl.2.2
        clear hb2 c0 c1 cl
        obtain ⟨c0, c1, cl⟩ := id hl
        go_wp2_with (first | (go_at_call 53; refine (alive08 _).mono ?_; rintro e w3 ⟨rfl, hb3⟩))
        go_ret
        exact ⟨rfl, HB.trans (hb3.mono HB.size)⟩
      · by_cases hk2 : 64 < k
        · clear hr hri
          go_enter Try.func20, Try.ntmps20
          go_wp2_with fail
          rw [← hW0]
          clear hW0 hR
          obtain ⟨c0, c1, cl⟩ := id hl
          refine (HF.out _).mono ?_
          rintro e w1 ⟨rfl, hb1⟩
          replace HB := HB.trans (hb1.mono HB.size)
          replace hR0 := (hR0.below hb1 (Nat.le_refl _)).mono hb1.size
          replace hl := hl.below hb1 hl.2.2
          clear hb1 c0 c1 cl
          obtain ⟨c0, c1, cl⟩ := id hl
          go_wp2_with fail
          refine (HR.out _ hR0).mono ?_
          rintro e w2 ⟨rfl, hb2⟩
          replace HB := HB.trans (hb2.mono HB.size)
          replace hR0 := (hR0.below hb2 (Nat.le_refl _)).mono hb2.size
          replace hl := hl.below hb2 hl.2.2
          clear hb2 c0 c1 cl
          obtain ⟨c0, c1, cl⟩ := id hl
          go_wp2_with (first | (go_at_call 53; refine (alive08 _).mono ?_; rintro e w3 ⟨rfl, hb3⟩))
          go_ret
          exact ⟨rfl, HB.trans (hb3.mono HB.size)⟩
        · have hkK : K ≤ k := by omega
          have hn2 : (n : Int) ≤ 1000 := by omega
          have ht2 : t.size ≤ 1000 := by omega
          have hD : ∀ (L' : Nat → Nat → Bool) (K' : Int), rightB n L' K' = true → many t n L' K' 0 = t.size + 1 - n := fun L' K' h => many_len h
          have m1 := hD L K hri
          have m2 := hD L k (right_K hri (by omega) (by omega))
          have m3 := hD L n (right_K hri (by omega) (by omega))
          have m4 := hD (fun _ _ => true) 0 (right_free r1 r2)
          have f1 := fun w' h' => find_any ad n cap k L hn2 t ht2 w' h'
          have f2 := fun w' h' => find_any ad n cap K L hn2 t ht2 w' h'
          have f3 := fun w' h' => find_any ad n cap n L hn2 t ht2 w' h'
          have f4 := fun ad2 cp2 w' h' => find_any ad2 n cp2 0 (fun _ _ => true) hn2 t ht2 w' h'
          have l3 : (fnd t n L n (plc 0 (many t n L n 0))).length = t.size + 1 - n := by rw [fnd_all (fun q => by have := mis_le t L q n; omega), plc_length, m3]
          have l4 : (fnd t n (fun _ _ => true) 0 (plc 0 (many t n (fun _ _ => true) 0 0))).length = t.size + 1 - n := by rw [fnd_all (fun q => by have := mis_free t q n; unfold fullS at this; omega), plc_length, m4]
          rw [m1] at f2
          rw [m2] at f1
          have hsub : ∀ j, j < (fnd t n L K (plc 0 (t.size + 1 - n))).length → ∃ p, p < (fnd t n L k (plc 0 (t.size + 1 - n))).length ∧ gi (fnd t n L k (plc 0 (t.size + 1 - n))) p = gi (fnd t n L K (plc 0 (t.size + 1 - n))) j := fun j hj => sub_at hkK hj
          have pF := fnd_pairwise t n L k 0 (t.size + 1 - n)
          have pG := fnd_pairwise t n L K 0 (t.size + 1 - n)
          have lF := fnd_length t n L k (plc 0 (t.size + 1 - n))
          have lG := fnd_length t n L K (plc 0 (t.size + 1 - n))
          rw [plc_length] at lF lG
          generalize fnd t n L k (plc 0 (t.size + 1 - n)) = F at f1 hsub pF lF
          generalize fnd t n L K (plc 0 (t.size + 1 - n)) = G at f2 hsub pG lG
          rw [l3] at f3
          rw [l4] at f4
          generalize fnd t n L n (plc 0 (many t n L n 0)) = X3 at f3
          generalize fnd t n (fun _ _ => true) 0 (plc 0 (many t n (fun _ _ => true) 0 0)) = X4 at f4
          have F1 := Lib.hid f1
          have F2 := Lib.hid f2
          have F3 := Lib.hid f3
          have F4 := Lib.hid f4
          have SUB := Lib.hid hsub
          have PF := Lib.hid (fun a b (h1 : a < b) (h2 : b < F.length) => gi_lt pF h1 h2)
          have PG := Lib.hid (fun a b (h1 : a < b) (h2 : b < G.length) => gi_lt pG h1 h2)
          obtain ⟨D, hDD⟩ : ∃ D, D = t.size + 1 - n := ⟨_, rfl⟩
          rw [← hDD] at F3 F4
          have hmx : max 0 ((t.size : Int) - n + 1) = (D : Int) := by omega
          have HMX := Lib.hid hmx
          have lF2 : F.length ≤ 301 := by omega
          have lG2 : G.length ≤ 301 := by omega
          clear hr hri hD m1 m2 m3 m4 f1 f2 f3 f4 l3 l4 hsub pF pG lF lG hmx hDD
          go_enter Try.func20, Try.ntmps20
          go_wp2_with fail
          rw [← hW0]
          clear hW0 hR
          obtain ⟨c0, c1, cl⟩ := id hl
          refine (HF.out _).mono ?_
          rintro e w1 ⟨rfl, hb1⟩
          replace HB := HB.trans (hb1.mono HB.size)
          replace hR0 := (hR0.below hb1 (Nat.le_refl _)).mono hb1.size
          replace hl := hl.below hb1 hl.2.2
          clear hb1 c0 c1 cl
          obtain ⟨c0, c1, cl⟩ := id hl
          go_wp2_with fail
          refine (HR.out _ hR0).mono ?_
          rintro e w2 ⟨rfl, hb2⟩
          replace HB := HB.trans (hb2.mono HB.size)
          replace hR0 := (hR0.below hb2 (Nat.le_refl _)).mono hb2.size
          replace hl := hl.below hb2 hl.2.2
          clear hb2 c0 c1 cl
          obtain ⟨c0, c1, cl⟩ := id hl
          go_wp2_with fail
          refine Code.wp_mono (Q := fun e a w' => ∃ (B7 B8 B9 : Nat) (u15 u16 u17 u18 u19 u20 u21 u22 u23 u24 u25 u26 u27 u28 u29 u30 u31 u32 u33 u34 u35 u36 u37 : Value), e = .normal ∧ a = { tmps := List.toArray (lv ad n cap K :: .string t :: .int .i64 k :: .pointer (some ⟨w.heap.size, 0, none⟩) :: undef :: undef :: .bool false :: .pointer (some ⟨B7, 0, none⟩) :: .pointer (some ⟨B8, 0, none⟩) :: .pointer (some ⟨B9, 0, none⟩) :: undef :: undef :: undef :: undef :: undef :: u15 :: u16 :: u17 :: u18 :: u19 :: u20 :: u21 :: u22 :: u23 :: u24 :: u25 :: u26 :: u27 :: u28 :: u29 :: u30 :: u31 :: u32 :: u33 :: u34 :: u35 :: u36 :: u37 :: undef :: undef :: undef :: undef :: undef :: undef :: undef :: undef :: undef :: undef :: undef :: undef :: undef :: undef :: undef :: undef :: undef :: undef :: undef :: undef :: undef :: undef :: undef :: undef :: undef :: undef :: undef :: undef :: undef :: undef :: undef :: undef :: undef :: undef :: undef :: undef :: undef :: undef :: undef :: undef :: undef :: undef :: undef :: undef :: undef :: undef :: undef :: undef :: undef :: undef :: undef :: undef :: undef :: undef :: undef :: undef :: undef :: undef :: undef :: undef :: undef :: undef :: undef :: undef :: undef :: undef :: undef :: undef :: undef :: undef :: undef :: undef :: undef :: undef :: undef :: undef :: undef :: undef :: undef :: undef :: undef :: []), defers := [] } ∧ Var3 w2 w' B7 B8 B9 ad n cap K) ?_ ?_
          · rintro e a w3 ⟨B7, B8, B9, u15, u16, u17, u18, u19, u20, u21, u22, u23, u24, u25, u26, u27, u28, u29, u30, u31, u32, u33, u34, u35, u36, u37, rfl, rfl, hV⟩
            have hl3 := hl.below hV.old.2.2.2 hl.2.2
            have hR3 := hR0.below hV.old.2.2.2 (Nat.le_refl _)
            have HB3 := HB.trans (hV.old.2.2.2.mono HB.size)
            have hsz := hV.old.2.2.1
            have hg7 := hV.g7
            have hg8 := hV.g8
            have hg9 := hV.g9
            have q1 : w.heap.size < w2.heap.size := hl.2.2
            have h7 := hV.h7
            have h8 := hV.h8
            have h9 := hV.h9
            have z7 := hV.z7
            have z8 := hV.z8
            have z9 := hV.z9
            have d78 := hV.d78
            have d79 := hV.d79
            have d89 := hV.d89
            have e7 : ¬ (B7 = w.heap.size) := by omega
            have e8 : ¬ (B8 = w.heap.size) := by omega
            have e87 : ¬ (B8 = B7) := fun e => d78 e.symm
            clear hV hR0 hl HB
            clear c0 c1 cl
            obtain ⟨c0, c1, cl⟩ := id hl3
            obtain ⟨x0, x1, xl⟩ := id h7
            obtain ⟨y0, y1, yl⟩ := id h8
            go_wp2_with fail
            go_region_held3 (fun w' => w'.cell? ⟨w.heap.size, 0, none⟩ = some (.slice ad n cap)) (first | assumption | (simp [go_sem, *]; done) | go_keep) (fail)
            go_wp2_with fail
            obtain ⟨W4, hW4⟩ : ∃ W4, W4 = ((w3.setCell ⟨B7, 1, none⟩ (.int .i64 k)).setCell ⟨B8, 1, none⟩ (.int .i64 n)).drew := ⟨_, rfl⟩
            have h74 : HoldsL W4 B7 ad n cap k := by rw [hW4]; exact ⟨by simp [go_sem, x0], by simp [go_sem, x1], by simpa using xl⟩
            have h84 : HoldsL W4 B8 ad n cap n := by rw [hW4]; exact ⟨by simp [go_sem, y0], by simp [go_sem, y1], by simpa using yl⟩
            have h94 : HoldsL W4 B9 none 0 0 0 := by rw [hW4]; exact ⟨by simp [go_sem, h9.1], by simp [go_sem, h9.2.1], by simpa using h9.2.2⟩
            have hl4 : HoldsL W4 w.heap.size ad n cap K := by rw [hW4]; exact ⟨by simp [go_sem, c0], by simp [go_sem, c1], by simpa using cl⟩
            have z94 : W4.frozen? ⟨B9, 0, none⟩ = false := by rw [hW4]; simp [go_sem, z9]
            have hO4 : Below w2.heap.size w3 W4 := by rw [hW4]; exact (((Below.refl _ _).setCell (p := ⟨B7, 1, none⟩) hg7 _).setCell (p := ⟨B8, 1, none⟩) hg8 _).drew
            have hR4 := hR3.below hO4 (Nat.le_refl _)
            have HB4 := HB3.trans (hO4.mono (by omega))
            have hsz4 : w2.heap.size ≤ W4.heap.size := Nat.le_trans hsz hO4.size
            rw [← hW4]
            clear hW4 hO4 hR3 HB3 h7 h8 h9 z7 z8 z9 c0 c1 cl x0 x1 xl y0 y1 yl hl3 hsz
            go_loopw [47] (fun i wr => ∃ (q : Nat) (ada : Option Addr) (cpa : Nat), q ≤ n ∧ i = .int .i64 q ∧ HoldsL wr B9 ada q cpa 0 ∧ wr.frozen? ⟨B9, 0, none⟩ = false ∧ wr.ownsRow W4.heap.size 26 4 (.slice ada q cpa) q (clsCells (fun _ _ => true) q) ∧ W4.grownBy wr (some B9)) (fun i _ => n - (intOf i).toNat)
            case atStart => exact ⟨0, none, 0, by omega, rfl, h94, z94, World.ownsRow_nil _ _ _ _, World.grownBy.refl _ _⟩
            case round =>
              obtain ⟨q, ada, cpa, hq, rfl, hc, hfr, hown, hgr⟩ := hrel
              have hgz := hgr.size
              have h9lt := h94.2.2
              by_cases hlt : q < n
              · have hq0 : (0 : Int) ≤ q := by omega
                have hlti : (q : Int) < n := by omega
                have hc' := Lib.hid hc
                have hown' := Lib.hid hown
                have HGR := Lib.hid hgr
                obtain ⟨c0, c1, cl⟩ := hc
                clear h74 h84 h94 hl4 z94 hR4 HB4 hown hgr
                go_wp2_with fail
                go_region_law (first | ((refine step_app elem41 (by with_reducible rfl) (.tmp 50) (.tmp 52) (by with_reducible rfl) (v := .slice ada q cpa) (n := q) (xs := clsCells (fun _ _ => true) q) (base := W4.heap.size) (w0 := wa) (by rfl) hown1 [.int .u64 (wd (fun _ => true) 0 : Nat), .int .u64 (wd (fun _ => true) 1 : Nat), .int .u64 (wd (fun _ => true) 2 : Nat), .int .u64 (wd (fun _ => true) 3 : Nat)] (by rfl) (by rfl) (by simp [Value.oneCell']) (by unfold maxLen; omega) (by omega) (by simp at hz1; omega) ?_; intro v5 w5 hown5 hb5; obtain ⟨ad5, cap5, rfl⟩ := own_slice hown5; have hc5 := HoldsL.below hc1 hb5 h9lt; have hf5 := (hb5.frozen (p := ⟨B9, 0, none⟩) h9lt).trans hf1)) | ((refine step_is 38 (by with_reducible rfl) ?_; go_simp; go_at_call 38; refine (full_any _).mono ?_; rintro e wa ⟨rfl, hba⟩; have hc1 := HoldsL.below (w := wr.drew) hc'.out hba cl; have hf1 := (hba.frozen (p := ⟨B9, 0, none⟩) cl).trans hfr; have hown1 := own_below hown'.out.drew hba; have hz1 := hba.size; dsimp only)))
                all_goals go_wp2
                all_goals exact ⟨⟨q + 1, ad5, cap5, by omega, by go_num, HoldsL.set hc5 _ _ _, by rw [World.frozen?_setCell]; exact hf5, ownsRow_setCell_below hown5 h9lt _, (grw_below (grw_below HGR.out (Old.calld (Old.refl wr) hba).2.2.2 hgz) hb5 (Nat.le_refl _)).trans (grw_set _ B9 0 _)⟩, by simp [intOf]; omega⟩
              · obtain rfl : n = q := by omega
                have hl5 := holdsL_grw hl4 hgr (by omega)
                have h75 := holdsL_grw h74 hgr d79
                have h85 := holdsL_grw h84 hgr d89
                have h95 := hc
                have hR5 := (rowC_grw hR4 hgr hsz4 hg9).mono (Nat.le_trans hsz4 hgz)
                have hRf := rowC_of_own hown
                have HB5 : Below w.heap.size w wr := HB4.trans (grown_below hgr (by omega) (fun j hj => by cases hj; omega))
                clear hl4 h74 h84 h94 hc hR4 HB4 hown hgr hfr z94 h9lt hgz hsz4 hg7 hg8 hg9 d78 d79 d89 e7 e8 e87
                obtain ⟨c0, c1, cl⟩ := id hl5
                obtain ⟨x0, x1, xl⟩ := id h75
                obtain ⟨y0, y1, yl⟩ := id h85
                obtain ⟨z0, z1, zl⟩ := id h95
                go_wp2_with fail
                refine (F1.out _ hR5).mono ?_
                rintro e w6 ⟨v6, rfl, ho6, hb6⟩
                obtain ⟨ad6, cp6, rfl⟩ := own_slice ho6
                clear c0 c1 cl x0 x1 xl y0 y1 yl z0 z1 zl
                replace HB5 := HB5.trans (hb6.mono HB5.size)
                replace hR5 := (hR5.below hb6 (Nat.le_refl _)).mono hb6.size
                replace hRf := (hRf.below hb6 (Nat.le_refl _)).mono hb6.size
                replace hl5 := hl5.below hb6 hl5.2.2
                replace h75 := h75.below hb6 h75.2.2
                replace h85 := h85.below hb6 h85.2.2
                replace h95 := h95.below hb6 h95.2.2
                obtain ⟨c0, c1, cl⟩ := id hl5
                obtain ⟨x0, x1, xl⟩ := id h75
                obtain ⟨y0, y1, yl⟩ := id h85
                obtain ⟨z0, z1, zl⟩ := id h95
                go_wp2_with fail
                refine (F2.out _ hR5).mono ?_
                rintro e w7 ⟨v7, rfl, ho7, hb7⟩
                obtain ⟨ad7, cp7, rfl⟩ := own_slice ho7
                have hRF := rowI_of_ints (own_below ho6 hb7)
                have hRG := rowI_of_ints ho7
                clear c0 c1 cl x0 x1 xl y0 y1 yl z0 z1 zl
                replace HB5 := HB5.trans (hb7.mono HB5.size)
                replace hR5 := (hR5.below hb7 (Nat.le_refl _)).mono hb7.size
                replace hRf := (hRf.below hb7 (Nat.le_refl _)).mono hb7.size
                replace hl5 := hl5.below hb7 hl5.2.2
                replace h75 := h75.below hb7 h75.2.2
                replace h85 := h85.below hb7 h85.2.2
                replace h95 := h95.below hb7 h95.2.2
                clear hb6 hb7 ho6 ho7
                obtain ⟨fL, hfL⟩ : ∃ fL, fL = F.length := ⟨_, rfl⟩
                obtain ⟨gL, hgL⟩ : ∃ gL, gL = G.length := ⟨_, rfl⟩
                rw [← hfL] at hRF SUB PF lF2 ⊢
                rw [← hgL] at hRG SUB PG lG2 ⊢
                clear hfL hgL
                go_wp2_with fail
                go_loopw [10, 63] (fun a i wr => ∃ p q : Nat, q ≤ gL ∧ p ≤ fL ∧ a = .int .i64 p ∧ i = .int .i64 q ∧ Hid (∀ j, j < p → q < gL → gi F j < gi G q) ∧ Old w7 wr) (fun _ i _ => gL - (intOf i).toNat)
                case atStart => exact ⟨0, 0, by omega, by omega, rfl, rfl, Lib.hid (fun j h => by omega), Old.refl _⟩
                case round =>
                  obtain ⟨p, q, hq, hp, rfl, rfl, hinv, hO⟩ := hrel
                  obtain ⟨wx, rfl⟩ : ∃ wx, wx = wr := ⟨wr, rfl⟩
                  by_cases hlt : q < gL
                  · have hRFx := (hRF.below hO.2.2.2 (Nat.le_refl _)).mono hO.2.2.1
                    have hRGx := (hRG.below hO.2.2.2 (Nat.le_refl _)).mono hO.2.2.1
                    have HO := Lib.hid hO
                    clear hO
                    obtain ⟨bg, og, rfl, hbg, eg⟩ := hRGx.at hlt
                    have hlti : (q : Int) < gL := by omega
                    have hq0 : (0 : Int) ≤ q := by omega
                    obtain ⟨pm, hpm, hpe⟩ := SUB.out q hlt
                    have hppm : p ≤ pm := by
                      rcases Nat.lt_or_ge pm p with h | h
                      · have := hinv.out pm h hlt; omega
                      · exact h
                    obtain ⟨gv, hgv⟩ : ∃ gv, gv = gi G q := ⟨_, rfl⟩
                    have hnext : q + 1 < gL → gv < gi G (q + 1) := fun h => by rw [hgv]; exact PG.out q (q + 1) (by omega) h
                    have HNX := Lib.hid hnext
                    have hin2 : ∀ j, j < p → gi F j < gv := fun j h => by rw [hgv]; exact hinv.out j h hlt
                    have HIN := Lib.hid hin2
                    rw [← hgv] at eg hpe
                    have HPE := Lib.hid hpe
                    clear hinv hnext hin2 hgv hpe hRGx
                    go_wp2_with fail
                    go_loopw [10] (fun a wr => ∃ p' : Nat, p' ≤ pm ∧ a = .int .i64 p' ∧ Hid (∀ j, j < p' → gi F j < gv) ∧ Old wx wr) (fun a _ => fL - (intOf a).toNat)
                    case atStart => exact ⟨p, hppm, rfl, HIN, Old.refl _⟩
                    case round =>
                      obtain ⟨p', hp', rfl, hinw, hOy⟩ := hrel
                      have hRFy := (hRFx.below hOy.2.2.2 (Nat.le_refl _)).mono hOy.2.2.1
                      have HOy := Lib.hid hOy
                      clear hOy
                      have hpf : p' < fL := by omega
                      obtain ⟨bf, of, rfl, hbf, ef⟩ := hRFy.at hpf
                      have hpfi : (p' : Int) < fL := by omega
                      have hp0 : (0 : Int) ≤ p' := by omega
                      have hpge : ¬ ((fL : Int) ≤ p') := by omega
                      clear hRFy hRFx
                      by_cases hlt2 : gi F p' < gv
                      · have hne : p' ≠ pm := fun e => by have := HPE.out; rw [e] at hlt2; omega
                        have hin3 : ∀ j, j < p' + 1 → gi F j < gv := fun j h => by
                          by_cases he : j = p'
                          · rw [he]; exact hlt2
                          · exact hinw.out j (by omega)
                        have HI3 := Lib.hid hin3
                        have hb : decide (gi F p' < gv) = true := decide_eq_true hlt2
                        clear hin3
                        generalize gi F p' = fv at ef hb hlt2
                        go_wp2_with fail
                        exact ⟨⟨p' + 1, by omega, by go_num, HI3, HOy.out⟩, by simp [intOf]; omega⟩
                      · have hep : p' = pm := by
                          rcases Nat.lt_or_ge p' pm with h | h
                          · have h1 := PF.out p' pm h hpm
                            have h2 := HPE.out
                            omega
                          · omega
                        subst hep
                        have hve := HPE.out
                        rw [hve] at ef
                        have hb : decide (gv < gv) = false := decide_eq_false (by omega)
                        have hin4 : ∀ j, j < p' → q + 1 < gL → gi F j < gi G (q + 1) := fun j h h2 => by
                          have h3 := hinw.out j h
                          have h4 := HNX.out h2
                          omega
                        have HI4 := Lib.hid hin4
                        clear hin4 hve hlt2
                        go_wp2_with fail
                        exact ⟨⟨p', q + 1, by omega, by omega, rfl, by go_num, HI4, HO.out.trans HOy.out⟩, by simp [intOf]; omega⟩
                  · obtain rfl : gL = q := by omega
                    replace HB5 := HB5.trans (hO.2.2.2.mono HB5.size)
                    replace hRf := (hRf.below hO.2.2.2 (Nat.le_refl _)).mono hO.2.2.1
                    replace hR5 := (hR5.below hO.2.2.2 (Nat.le_refl _)).mono hO.2.2.1
                    replace hl5 := hl5.below hO.2.2.2 hl5.2.2
                    replace h85 := h85.below hO.2.2.2 h85.2.2
                    replace h95 := h95.below hO.2.2.2 h95.2.2
                    clear hRF hRG hO hinv h75
                    by_cases hx : (t.size : Int) - n + 1 ≤ 0
                    · have hD0 : D = 0 := by have := HMX.out; omega
                      subst hD0
                      obtain ⟨c0, c1, cl⟩ := id hl5
                      obtain ⟨y0, y1, yl⟩ := id h85
                      obtain ⟨z0, z1, zl⟩ := id h95
                      go_wp2_with fail
                      clear c0 c1 cl y0 y1 yl z0 z1 zl
                      refine (alive08 _).mono ?_
                      rintro e w8 ⟨rfl, hb8⟩
                      replace HB5 := HB5.trans (hb8.mono HB5.size)
                      replace hRf := (hRf.below hb8 (Nat.le_refl _)).mono hb8.size
                      replace hR5 := (hR5.below hb8 (Nat.le_refl _)).mono hb8.size
                      replace h85 := h85.below hb8 h85.2.2
                      replace h95 := h95.below hb8 h95.2.2
                      obtain ⟨y0, y1, yl⟩ := id h85
                      go_wp2_with fail
                      clear y0 y1 yl
                      refine (F3.out _ hR5).mono ?_
                      rintro e w9 ⟨v9, rfl, ho9, hb9⟩
                      obtain ⟨ad9, cp9, rfl⟩ := own_slice ho9
                      replace HB5 := HB5.trans (hb9.mono HB5.size)
                      replace hRf := (hRf.below hb9 (Nat.le_refl _)).mono hb9.size
                      replace h95 := h95.below hb9 h95.2.2
                      obtain ⟨z0, z1, zl⟩ := id h95
                      go_wp2_with fail
                      refine (F4.out _ _ _ hRf).mono ?_
                      rintro e w10 ⟨v10, rfl, ho10, hb10⟩
                      obtain ⟨ad10, cp10, rfl⟩ := own_slice ho10
                      go_wp2_with fail
                      go_ret
                      exact ⟨rfl, HB5.trans (hb10.mono HB5.size)⟩
                    · have hDe : (((D : Nat) : Int) == (t.size : Int) - n + 1) = true := by rw [beq_iff_eq]; have := HMX.out; omega
                      have HDE := Lib.hid hDe
                      clear hDe
                      obtain ⟨c0, c1, cl⟩ := id hl5
                      obtain ⟨y0, y1, yl⟩ := id h85
                      obtain ⟨z0, z1, zl⟩ := id h95
                      go_wp2_with fail
                      clear c0 c1 cl y0 y1 yl z0 z1 zl
                      refine (alive08 _).mono ?_
                      rintro e w8 ⟨rfl, hb8⟩
                      replace HB5 := HB5.trans (hb8.mono HB5.size)
                      replace hRf := (hRf.below hb8 (Nat.le_refl _)).mono hb8.size
                      replace hR5 := (hR5.below hb8 (Nat.le_refl _)).mono hb8.size
                      replace h85 := h85.below hb8 h85.2.2
                      replace h95 := h95.below hb8 h95.2.2
                      obtain ⟨y0, y1, yl⟩ := id h85
                      go_wp2_with fail
                      clear y0 y1 yl
                      have hDe := HDE.out
                      refine (F3.out _ hR5).mono ?_
                      rintro e w9 ⟨v9, rfl, ho9, hb9⟩
                      obtain ⟨ad9, cp9, rfl⟩ := own_slice ho9
                      replace HB5 := HB5.trans (hb9.mono HB5.size)
                      replace hRf := (hRf.below hb9 (Nat.le_refl _)).mono hb9.size
                      replace h95 := h95.below hb9 h95.2.2
                      obtain ⟨z0, z1, zl⟩ := id h95
                      go_wp2_with fail
                      clear hDe
                      have hDe := HDE.out
                      refine (F4.out _ _ _ hRf).mono ?_
                      rintro e w10 ⟨v10, rfl, ho10, hb10⟩
                      obtain ⟨ad10, cp10, rfl⟩ := own_slice ho10
                      go_wp2_with fail
                      go_ret
                      exact ⟨rfl, HB5.trans (hb10.mono HB5.size)⟩
          · go_region_held3 (fun w' => Old w2 w') (repeat' (first | with_reducible assumption | with_reducible exact Old.refl _ | with_reducible exact Old.start _ | with_reducible refine Old.drewG ?_ | with_reducible refine Old.alloc ?_ _ | with_reducible refine Old.setG ?_ ?_ | with_reducible refine Old.call ?_ (by with_reducible assumption) | omega | (simp; omega) | simp)) (fail)
            all_goals
              refine ⟨_, _, _, _, _, _, _, _, _, _, _, _, _, _, _, _, _, _, _, _, _, _, _, _, _, _, rfl, rfl, ?_⟩
              exact ⟨⟨by simp [go_sem], by simp [go_sem], by simp <;> omega⟩, ⟨by simp [go_sem], by simp [go_sem], by simp <;> omega⟩, ⟨by simp [go_sem], by simp [go_sem], by simp <;> omega⟩, by simp [go_sem], by simp [go_sem], by simp [go_sem], by first | omega | (simp; done) | (simp; omega), by first | omega | (simp; done) | (simp; omega), by first | omega | (simp; done) | (simp; omega), by first | omega | (simp; done) | (simp; omega), by first | omega | (simp; done) | (simp; omega), by first | omega | (simp; done) | (simp; omega), by with_reducible assumption⟩
end Go.Proofs.Ytkhcjjdamphbfaa
