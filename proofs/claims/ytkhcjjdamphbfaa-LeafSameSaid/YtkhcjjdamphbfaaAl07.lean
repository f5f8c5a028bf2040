/- Walk of beaglelaw07.alive: it returns true. -/
import Derived.Test.YtkhcjjdamphbfaaL5
import Derived.Test.YtkhcjjdamphbfaaN3
namespace Go.Proofs.Ytkhcjjdamphbfaa
open Go.RowKit

def s1a : ByteArray := ⟨#[97]⟩
def s1b : ByteArray := ⟨#[98]⟩
def sab : ByteArray := ⟨#[97, 98]⟩
def sxyz : ByteArray := ⟨#[120, 121, 122]⟩
/-- a alone; b alone; both. -/
def a1 : Nat → Bool := strSet s1a 1
def b1 : Nat → Bool := strSet s1b 1
def ab1 : Nat → Bool := strSet sab 2
/-- a, any, b, a. -/
def La : Nat → Nat → Bool
  | 0 => a1
  | 1 => fun _ => true
  | 2 => b1
  | _ => a1
theorem of_a (w : World) : Calls Try.prog 34 #[.string ⟨#[97]⟩] w fun e w' => e = .returned (cv a1) ∧ Below w.heap.size w w' := of_any s1a (by decide) w
theorem of_b (w : World) : Calls Try.prog 34 #[.string ⟨#[98]⟩] w fun e w' => e = .returned (cv b1) ∧ Below w.heap.size w w' := of_any s1b (by decide) w
theorem of_ab (w : World) : Calls Try.prog 34 #[.string ⟨#[97, 98]⟩] w fun e w' => e = .returned (cv ab1) ∧ Below w.heap.size w w' := of_any sab (by decide) w
theorem text_xyz (K : Int) (w : World) : Calls Try.prog 73 #[.string ⟨#[120, 121, 122]⟩, .int .i64 K] w fun e w' => ∃ ad cap, e = .returned (lv ad 3 cap K) ∧ w'.ownsRow w.heap.size 26 4 (.slice ad 3 cap) 3 (clsCells (byteS sxyz) 3) ∧ Below w.heap.size w w' :=
  text_any sxyz (by decide) K w
theorem al_letters : lettersB (byteS sxyz) 3 = true := by decide +kernel
theorem al_txt : txt (byteS sxyz) 3 = ⟨#[120, 121, 122]⟩ := by
  unfold txt; rw [al_letters]
  rw [if_pos rfl]
  exact congrArg ByteArray.mk (by decide +kernel)
theorem al_none : lettersB La 4 = false := by decide +kernel
theorem al_kinds : kindsTo La 4 = [a1, b1] := by
  have h0 : clsEq a1 fullS = false := by decide +kernel
  have h1 : clsEq (fun _ => true) fullS = true := by decide +kernel
  have h2 : clsEq b1 fullS = false := by decide +kernel
  have h3 : clsEq a1 b1 = false := by decide +kernel
  have h4 : clsEq a1 a1 = true := clsEq_refl _
  simp [kindsTo, La, inL, h0, h1, h2, h3, h4]
theorem al_where : whereTo a1 La 4 = [0, 3] := by decide +kernel
theorem al_right : rightB 4 La 1 = true := by decide +kernel
theorem al_right0 (L : Nat → Nat → Bool) : rightB 0 L 0 = false := by simp [rightB]
theorem al_plain : plainB La 4 = true := by decide +kernel
theorem al_plain0 : plainB (fun _ => ab1) 1 = false := by decide +kernel
theorem al_bound : boundN La 4 = 3 := by decide +kernel
theorem al_same (n : Nat) (L : Nat → Nat → Bool) (K : Int) : sameB n L K n L K = true := by unfold sameB; rw [agC_refl]; simp
theorem al_other : sameB 4 La 1 3 (byteS sxyz) 1 = false := by simp [sameB]

theorem takeD {P : Program} {ops : Array Oper} {Q : Exit → Act → World → Prop} {md : Region.Mode} {S : World → Prop} (i d : Nat) (v : Value) {oi : Oper} {fuel : Nat} {listed : Array Bool} {a : Act} {w : World} (hi : ops[i]? = some oi) (hd : oi.dst = some d)
    (hs : Region.noSelect ops = true) (hf : Region.free md ops listed i = true) (hr : (Region.ready md ops listed).contains i = true)
    (hQ : ∀ c a w, Q (.panic c) (a.put (some d) v) w → Q (.panic c) a w) (hy : YieldsIf P ops S oi v a) (hS : S w)
    (h : wpAnyH P md ops Q S fuel (listed.setIfInBounds i true) (a.put (some d) v) w) : wpAnyH P md ops Q S (fuel + 1) listed a w :=
  wpAnyH_take hi hs hf hr (by rw [hd]; exact hQ) hy hS (by rw [hd]; exact h)

theorem rowC_new1 (w : World) (S : Nat → Bool) : RowC (w.alloc (.cells #[.int .u64 (wd S 0 : Nat), .int .u64 (wd S 1 : Nat), .int .u64 (wd S 2 : Nat), .int .u64 (wd S 3 : Nat)] 26)) (some ⟨w.heap.size, 0, none⟩) 1 (fun _ => S) (w.alloc (.cells #[.int .u64 (wd S 0 : Nat), .int .u64 (wd S 1 : Nat), .int .u64 (wd S 2 : Nat), .int .u64 (wd S 3 : Nat)] 26)).heap.size :=
  .inr ⟨w.heap.size, 0, rfl, by simp, fun j hj => by
    obtain rfl : j = 0 := by omega
    exact ⟨by simp [go_sem], by simp [go_sem], by simp [go_sem], by simp [go_sem]⟩⟩
theorem Old.drewK {W w : World} (h : Old W w) : Old W w.drew := .of h.2.2.2.drew
theorem Old.setK {W w : World} {p : Addr} {v : Value} (h : Old W w) (hp : W.heap.size ≤ p.block) : Old W (w.setCell p v) := .of (h.2.2.2.setCell hp v)

set_option maxHeartbeats 8000000 in
set_option maxRecDepth 100000 in
theorem alive07 (w : World) : Calls Try.prog 67 #[] w fun e w' => e = .returned (.bool true) ∧ Below w.heap.size w w' := by
  go_enter Try.func67, Try.ntmps67
  go_wp2_with fail
  refine (of_a _).mono ?_
  rintro e w1 ⟨rfl, hb1⟩
  go_wp2_with fail
  refine (of_b _).mono ?_
  rintro e w2 ⟨rfl, hb2⟩
  have hA := HoldsC.new w2 a1
  have hA' := hA.alloc (.cells #[.int .u64 (wd b1 0 : Nat), .int .u64 (wd b1 1 : Nat), .int .u64 (wd b1 2 : Nat), .int .u64 (wd b1 3 : Nat)] 26)
  have hC := HoldsC.new (w2.alloc (.cells #[.int .u64 (wd a1 0 : Nat), .int .u64 (wd a1 1 : Nat), .int .u64 (wd a1 2 : Nat), .int .u64 (wd a1 3 : Nat)] 26)) b1
  go_wp2_with fail
  obtain ⟨c, hc⟩ : ∃ c, c = w2.heap.size := ⟨_, rfl⟩
  rw [World.size_alloc] at hC
  have HBc : Below w.heap.size w ((w2.alloc (.cells #[.int .u64 (wd a1 0 : Nat), .int .u64 (wd a1 1 : Nat), .int .u64 (wd a1 2 : Nat), .int .u64 (wd a1 3 : Nat)] 26)).alloc (.cells #[.int .u64 (wd b1 0 : Nat), .int .u64 (wd b1 1 : Nat), .int .u64 (wd b1 2 : Nat), .int .u64 (wd b1 3 : Nat)] 26)) :=
    ((hb1.trans (hb2.mono hb1.size)).alloc (Nat.le_trans hb1.size hb2.size) _).alloc (by have := Nat.le_trans hb1.size hb2.size; simp; omega) _
  have hsz : ((w2.alloc (.cells #[.int .u64 (wd a1 0 : Nat), .int .u64 (wd a1 1 : Nat), .int .u64 (wd a1 2 : Nat), .int .u64 (wd a1 3 : Nat)] 26)).alloc (.cells #[.int .u64 (wd b1 0 : Nat), .int .u64 (wd b1 1 : Nat), .int .u64 (wd b1 2 : Nat), .int .u64 (wd b1 3 : Nat)] 26)).heap.size = c + 2 := by rw [hc]; simp
  have hwc : w.heap.size ≤ c := by rw [hc]; exact Nat.le_trans hb1.size hb2.size
  rw [← hc] at hA' hC ⊢
  generalize ((w2.alloc (.cells #[.int .u64 (wd a1 0 : Nat), .int .u64 (wd a1 1 : Nat), .int .u64 (wd a1 2 : Nat), .int .u64 (wd a1 3 : Nat)] 26)).alloc (.cells #[.int .u64 (wd b1 0 : Nat), .int .u64 (wd b1 1 : Nat), .int .u64 (wd b1 2 : Nat), .int .u64 (wd b1 3 : Nat)] 26)) = W2 at hA' hC HBc hsz ⊢
  clear hA hb1 hb2 hc
  refine Code.wp_mono (Q := fun e a w' => ∃ (g B : Nat) (u10 u11 u12 u13 u14 u15 u16 u17 : Value), e = .normal ∧
    a = { tmps := List.toArray (.bool false :: .pointer (some ⟨c, 0, none⟩) :: .pointer (some ⟨c + 1, 0, none⟩) :: .pointer (some ⟨B, 0, none⟩) :: undef :: undef :: undef :: undef :: undef :: undef :: u10 :: u11 :: u12 :: u13 :: u14 :: u15 :: u16 :: u17 :: undef :: undef :: undef :: undef :: undef :: undef :: undef :: undef :: undef :: undef :: undef :: undef :: undef :: undef :: undef :: undef :: undef :: undef :: undef :: undef :: undef :: undef :: undef :: undef :: undef :: undef :: undef :: undef :: undef :: undef :: undef :: undef :: undef :: undef :: undef :: undef :: undef :: undef :: undef :: undef :: undef :: undef :: undef :: undef :: undef :: undef :: undef :: undef :: undef :: undef :: undef :: undef :: undef :: undef :: undef :: undef :: undef :: undef :: undef :: undef :: undef :: undef :: undef :: undef :: undef :: undef :: undef :: undef :: undef :: undef :: undef :: undef :: undef :: undef :: undef :: undef :: undef :: undef :: undef :: undef :: undef :: undef :: undef :: undef :: undef :: undef :: undef :: undef :: undef :: undef :: []), defers := [] } ∧
    HoldsL w' B (some ⟨g, 0, none⟩) 4 4 1 ∧ RowC w' (some ⟨g, 0, none⟩) 4 La w'.heap.size ∧ Below (c + 2) W2 w' ∧ c + 2 ≤ B) ?_ ?_
  · rintro e a w3 ⟨g, B, u10, u11, u12, u13, u14, u15, u16, u17, rfl, rfl, hB, hRow, hb3, hcB⟩
    have hA3 := hA'.below hb3 (by omega)
    have hC3 := hC.below hb3 (by omega)
    have HB3 : Below w.heap.size w w3 := HBc.trans (hb3.mono (by omega))
    clear hA' hC HBc hb3
    have l1 := al_letters
    have l2 := al_txt
    have l3 := al_none
    go_wp2_with (go_at_call 73; refine (text_xyz 0 _).mono ?_; rintro e w4 ⟨ad4, cap4, rfl, ho4, hb4⟩)
    have hB4 := hB.below hb4 hB.2.2
    have hR4 := rowC_of_own ho4
    refine (letters_any ad4 3 cap4 0 (byteS sxyz) (by omega) w4 hR4).mono ?_
    rw [l1, l2]
    rintro e w5 ⟨rfl, hb5⟩
    have hB5 := hB4.below hb5 hB4.2.2
    obtain ⟨b50, b51, b5l⟩ := hB5
    have hRow5 := (hRow.below (hb4.trans (hb5.mono hb4.size)) (Nat.le_refl _)).mono (Nat.le_trans hb4.size hb5.size)
    go_wp2_with fail
    refine (letters_any (some ⟨g, 0, none⟩) 4 4 1 La (by omega) w5 hRow5).mono ?_
    rw [l3]
    rintro e w6 ⟨rfl, hb6⟩
    have hbb := (hb4.trans (hb5.mono hb4.size)).trans (hb6.mono (Nat.le_trans hb4.size hb5.size))
    have hA6 := hA3.below hbb hA3.2.2
    have hC6 := hC3.below hbb hC3.2.2
    have hB6 := hB.below hbb hB.2.2
    have HB6 := HB3.trans (hbb.mono HB3.size)
    have hRow6 := (hRow.below hbb (Nat.le_refl _)).mono hbb.size
    clear hA3 hC3 hB HB3 hRow hRow5 hb4 hb5 hb6 hbb ho4 hB4 hR4 b50 b51 b5l
    go_wp2_with fail
    have qa := hA6.2.2
    have qc := hC6.2.2
    have qb := hB6.2.2
    refine Code.wp_mono (Q := fun e a w' => ∃ (gk ck gw cw : Nat) (u6 v10 v11 v12 v13 v14 v15 v16 v17 v18 v19 v20 v21 v22 v23 v24 v25 v26 v27 v28 v29 v30 v31 v32 : Value), e = .normal ∧
      a = { tmps := List.toArray (.bool false :: .pointer (some ⟨c, 0, none⟩) :: .pointer (some ⟨c + 1, 0, none⟩) :: .pointer (some ⟨B, 0, none⟩) :: .string ⟨#[120, 121, 122]⟩ :: .bool true :: u6 :: .bool false :: .slice (some ⟨gk, 0, none⟩) 2 ck :: .slice (some ⟨gw, 0, none⟩) 2 cw :: v10 :: v11 :: v12 :: v13 :: v14 :: v15 :: v16 :: v17 :: v18 :: v19 :: v20 :: v21 :: v22 :: v23 :: v24 :: v25 :: v26 :: v27 :: v28 :: v29 :: v30 :: v31 :: v32 :: undef :: undef :: undef :: undef :: undef :: undef :: undef :: undef :: undef :: undef :: undef :: undef :: undef :: undef :: undef :: undef :: undef :: undef :: undef :: undef :: undef :: undef :: undef :: undef :: undef :: undef :: undef :: undef :: undef :: undef :: undef :: undef :: undef :: undef :: undef :: undef :: undef :: undef :: undef :: undef :: undef :: undef :: undef :: undef :: undef :: undef :: undef :: undef :: undef :: undef :: undef :: undef :: undef :: undef :: undef :: undef :: undef :: undef :: undef :: undef :: undef :: undef :: undef :: undef :: undef :: undef :: undef :: undef :: undef :: undef :: undef :: undef :: undef :: undef :: undef :: []), defers := [] } ∧ RowC w' (some ⟨gk, 0, none⟩) 2 (gc [a1, b1]) w'.heap.size ∧ RowI w' (some ⟨gw, 0, none⟩) 2 (gi [0, 3]) w'.heap.size ∧ Old w6 w') ?_ ?_
    · rintro e a w7 ⟨gk, ck, gw, cw, u6, v10, v11, v12, v13, v14, v15, v16, v17, v18, v19, v20, v21, v22, v23, v24, v25, v26, v27, v28, v29, v30, v31, v32, rfl, rfl, hK7, hW7, hO7⟩
      have hRow7 := (hRow6.below hO7.2.2.2 (Nat.le_refl _)).mono hO7.2.2.1
      have hA7 := hA6.below hO7.2.2.2 qa
      have hC7 := hC6.below hO7.2.2.2 qc
      have hB7 := hB6.below hO7.2.2.2 qb
      have HB7 := HB6.trans (hO7.2.2.2.mono HB6.size)
      clear hRow6 hA6 hC6 hB6 HB6 hO7 qa qc qb
      obtain ⟨⟨x0, x1, x2, x3⟩, -, qa⟩ := hA7
      obtain ⟨⟨y0, y1, y2, y3⟩, -, qc⟩ := hC7
      obtain ⟨z0, z1, qb⟩ := hB7
      obtain ⟨bk, ok, hbk, qk, k0, k1, k2, k3⟩ := hK7.at (show 0 < 2 by omega)
      obtain ⟨bk', ok', hbk', -, m0, m1, m2, m3⟩ := hK7.at (show 1 < 2 by omega)
      obtain ⟨bw, ow, hbw, qw, n1⟩ := hW7.at (show 1 < 2 by omega)
      cases hbk
      cases hbk'
      cases hbw
      clear hK7 hW7
      simp only [Nat.zero_add, Nat.zero_mul, Nat.one_mul, Nat.add_zero] at k0 k1 k2 k3 m0 m1 m2 m3 n1
      have g0 : gc [a1, b1] 0 = a1 := rfl
      have g1 : gc [a1, b1] 1 = b1 := rfl
      have g2 : gi [0, 3] 1 = 3 := rfl
      rw [g0] at k0 k1 k2 k3
      rw [g1] at m0 m1 m2 m3
      rw [g2] at n1
      clear g0 g1 g2 l1 l2 l3
      have p1 := al_right
      have p2 := al_plain
      have p3 := al_plain0
      have p4 := al_bound
      have p5 := al_other
      have e1 := clsEq_refl a1
      have e2 := clsEq_refl b1
      go_wp2_with fail
      dsimp only [List.append]
      go_region_held3 (fun w' => Old w7 w') (first | with_reducible exact Old.start _ | with_reducible exact Old.calld (Old.refl _) (by assumption) | with_reducible exact Old.call (by assumption) (by assumption) | with_reducible exact Old.alloc (by assumption) _) (first | (go_at_call 68; first | (with_reducible refine (right_any none 0 0 0 La (by omega) _ (.inl rfl)).mono ?_; rw [al_right0]; rintro e w' ⟨rfl, hb'⟩) | (with_reducible refine (right_any (some ⟨g, 0, none⟩) 4 4 1 La (by omega) _ ((hRow7.below (show Old w7 _ by with_reducible assumption).2.2.2 (Nat.le_refl _)).mono (show Old w7 _ by with_reducible assumption).2.2.1)).mono ?_; rw [p1]; rintro e w' ⟨rfl, hb'⟩)) | (go_at_call 34; refine (of_ab _).mono ?_; rintro e w' ⟨rfl, hb'⟩) | (go_at_call 69; first | (with_reducible refine (plain_any (some ⟨g, 0, none⟩) 4 4 1 La (by omega) _ ((hRow7.below (show Old w7 _ by with_reducible assumption).2.2.2 (Nat.le_refl _)).mono (show Old w7 _ by with_reducible assumption).2.2.1)).mono ?_; rw [p2]; rintro e w' ⟨rfl, hb'⟩) | (with_reducible refine (plain_any _ 1 1 0 (fun _ => ab1) (by omega) _ (rowC_new1 _ _)).mono ?_; rw [p3]; rintro e w' ⟨rfl, hb'⟩)) | (go_at_call 71; refine (bound_any (some ⟨g, 0, none⟩) 4 4 1 La (by omega) _ ((hRow7.below (show Old w7 _ by with_reducible assumption).2.2.2 (Nat.le_refl _)).mono (show Old w7 _ by with_reducible assumption).2.2.1)).mono ?_; rw [p4]; rintro e w' ⟨rfl, hb'⟩) | (go_at_call 73; refine (text_xyz 1 _).mono ?_; rintro e w' ⟨ad', cap', rfl, ho', hb'⟩; have hR' := rowC_of_own ho') | (go_at_call 78; first | (with_reducible refine (same_any (some ⟨g, 0, none⟩) 4 4 1 La (some ⟨g, 0, none⟩) 4 4 1 La (by omega) (by omega) _ ((hRow7.below (show Old w7 _ by with_reducible assumption).2.2.2 (Nat.le_refl _)).mono (show Old w7 _ by with_reducible assumption).2.2.1) ((hRow7.below (show Old w7 _ by with_reducible assumption).2.2.2 (Nat.le_refl _)).mono (show Old w7 _ by with_reducible assumption).2.2.1)).mono ?_; rw [al_same]; rintro e w' ⟨rfl, hb'⟩) | (with_reducible refine (same_any (some ⟨g, 0, none⟩) 4 4 1 La _ 3 _ 1 (byteS sxyz) (by omega) (by omega) _ ((hRow7.below (show Old w7 _ by with_reducible assumption).2.2.2 (Nat.le_refl _)).mono (show Old w7 _ by with_reducible assumption).2.2.1) (by assumption)).mono ?_; rw [p5]; rintro e w' ⟨rfl, hb'⟩)))
      go_wp2
      go_ret
      exact ⟨rfl, HB7.trans ((show Old w7 _ by assumption).2.2.2.mono HB7.size)⟩
    · have k1 := al_kinds
      have k2 := al_where
      go_region_held3 (fun w' => Old w6 w') (first | with_reducible exact Old.start _ | with_reducible exact Old.calld (Old.refl _) (by assumption) | with_reducible exact Old.call (by assumption) (by assumption) | with_reducible exact Old.alloc (by assumption) _) (first | (go_at_call 80; refine (kinds_any (some ⟨g, 0, none⟩) 4 4 1 La (by omega) _ ((hRow6.below (show Old w6 _ by with_reducible assumption).2.2.2 (Nat.le_refl _)).mono (show Old w6 _ by with_reducible assumption).2.2.1)).mono ?_; rw [k1]; rintro e wk ⟨vk, rfl, hok, hbk⟩; obtain ⟨gk, ck, rfl, hgk, hgk2⟩ := own_form hok (by decide)) | (go_at_call 82; refine (where_any (some ⟨g, 0, none⟩) 4 4 1 La a1 (by omega) _ ((hRow6.below (show Old w6 _ by with_reducible assumption).2.2.2 (Nat.le_refl _)).mono (show Old w6 _ by with_reducible assumption).2.2.1)).mono ?_; rw [k2]; rintro e ww ⟨vw, rfl, how, hbw⟩; obtain ⟨gw, cw, rfl, hgw, hgw2⟩ := own_form how (by decide)))
      all_goals
        have fk := rowC_of_list hok
        have fw := rowI_of_ints how
        first
          | exact ⟨gk, ck, gw, cw, _, _, _, _, _, _, _, _, _, _, _, _, _, _, _, _, _, _, _, _, _, _, _, _, rfl, rfl, (fk.below hbw (Nat.le_refl _)).mono hbw.size, fw, by assumption⟩
          | exact ⟨gk, ck, gw, cw, _, _, _, _, _, _, _, _, _, _, _, _, _, _, _, _, _, _, _, _, _, _, _, _, rfl, rfl, fk, (fw.below hbk (Nat.le_refl _)).mono hbk.size, by assumption⟩
  · have hc0 := hA'.1
    have hc1 := hC.1
    have q0 := hA'.2.2
    have q1 := hC.2.2
    obtain ⟨⟨x0, x1, x2, x3⟩, -, -⟩ := hA'
    obtain ⟨⟨y0, y1, y2, y3⟩, -, -⟩ := hC
    have HSZ := Lib.hid hsz
    clear hsz
    refine wp_region_noPanic ?_
    refine wp_region_held_drew (S := fun w' => Old W2 w') (by kernel_rfl) (Old.start _) (fun hHeld => ?_)
    refine takeD 0 12 (cv a1) rfl rfl (by kernel_rfl) (by kernel_rfl) (by kernel_rfl) (fun _ _ _ h => h) (Or.inl ⟨by rfl, by intro w' hSw; go_simp⟩) hHeld ?_
    simp only [Act.put, List.setIfInBounds_toArray, List.set_cons_zero, List.set_cons_succ]
    refine takeD 2 14 (cv b1) rfl rfl (by kernel_rfl) (by kernel_rfl) (by kernel_rfl) (fun _ _ _ h => h) (Or.inl ⟨by rfl, by intro w' hSw; go_simp⟩) hHeld ?_
    simp only [Act.put, List.setIfInBounds_toArray, List.set_cons_zero, List.set_cons_succ]
    refine takeD 3 15 (cv a1) rfl rfl (by kernel_rfl) (by kernel_rfl) (by kernel_rfl) (fun _ _ _ h => h) (Or.inl ⟨by rfl, by intro w' hSw; go_simp⟩) hHeld ?_
    simp only [Act.put, List.setIfInBounds_toArray, List.set_cons_zero, List.set_cons_succ]
    refine wpAnyH_ready (rs := [1, 6]) (by kernel_rfl) (by simp) ?_
    refine AllReadyH.cons rfl (fun K hK => ?_) (AllReadyH.cons rfl (fun K hK => ?_) AllReadyH.nil)
    · go_simp
      go_at_call 38
      refine (full_any _).mono ?_
      rintro e w' ⟨rfl, hb'⟩
      dsimp only
      refine hK.out _ _ (by repeat' (first | with_reducible assumption | with_reducible exact Old.refl _ | with_reducible refine Old.drewK ?_ | with_reducible refine Old.alloc ?_ _ | with_reducible refine Old.setK ?_ ?_ | with_reducible refine Old.call ?_ (by with_reducible assumption) | omega | (simp; omega) | simp)) (fun hHeld2 => ?_)
      try simp only [Act.put, List.setIfInBounds_toArray, List.set_cons_zero, List.set_cons_succ]
      clear hK K
      refine wpAnyH_ready (rs := [4, 6]) (by kernel_rfl) (by simp) ?_
      refine AllReadyH.cons rfl (fun K hK => ?_) (AllReadyH.cons rfl (fun K hK => ?_) AllReadyH.nil)
      · go_simp
        refine hK.out _ _ (by repeat' (first | with_reducible assumption | with_reducible exact Old.refl _ | with_reducible refine Old.drewK ?_ | with_reducible refine Old.alloc ?_ _ | with_reducible refine Old.setK ?_ ?_ | with_reducible refine Old.call ?_ (by with_reducible assumption) | omega | (simp; omega) | simp)) (fun hHeld3 => ?_)
        try simp only [Act.put, List.setIfInBounds_toArray, List.set_cons_zero, List.set_cons_succ]
        clear hK K
        refine wpAnyH_ready (rs := [5, 6]) (by kernel_rfl) (by simp) ?_
        refine AllReadyH.cons rfl (fun K hK => ?_) (AllReadyH.cons rfl (fun K hK => ?_) AllReadyH.nil)
        · go_simp
          refine hK.out _ _ (by repeat' (first | with_reducible assumption | with_reducible exact Old.refl _ | with_reducible refine Old.drewK ?_ | with_reducible refine Old.alloc ?_ _ | with_reducible refine Old.setK ?_ ?_ | with_reducible refine Old.call ?_ (by with_reducible assumption) | omega | (simp; omega) | simp)) (fun hHeld4 => ?_)
          try simp only [Act.put, List.setIfInBounds_toArray, List.set_cons_zero, List.set_cons_succ]
          clear hK K
          refine wpAnyH_ready (rs := [6]) (by kernel_rfl) (by simp) ?_
          refine AllReadyH.cons rfl (fun K hK => ?_) AllReadyH.nil
          go_simp
          refine hK.out _ _ (by repeat' (first | with_reducible assumption | with_reducible exact Old.refl _ | with_reducible refine Old.drewK ?_ | with_reducible refine Old.alloc ?_ _ | with_reducible refine Old.setK ?_ ?_ | with_reducible refine Old.call ?_ (by with_reducible assumption) | omega | (simp; omega) | simp)) (fun hHeld5 => ?_)
          try simp only [Act.put, List.setIfInBounds_toArray, List.set_cons_zero, List.set_cons_succ]
          clear hK K
          refine wpAnyH_ready (rs := [7]) (by kernel_rfl) (by simp) ?_
          refine AllReadyH.cons rfl (fun K hK => ?_) AllReadyH.nil
          go_simp
          refine hK.out _ _ (by repeat' (first | with_reducible assumption | with_reducible exact Old.refl _ | with_reducible refine Old.drewK ?_ | with_reducible refine Old.alloc ?_ _ | with_reducible refine Old.setK ?_ ?_ | with_reducible refine Old.call ?_ (by with_reducible assumption) | omega | (simp; omega) | simp)) (fun hHeld6 => ?_)
          try simp only [Act.put, List.setIfInBounds_toArray, List.set_cons_zero, List.set_cons_succ]
          clear hK K
          refine wpAnyH_done (by kernel_rfl) ?_ _
          refine NoPanic.normal ?_
          have hOO := hHeld6
          have hge : W2.heap.size ≤ w'.heap.size := by have := (show Old W2 w' by assumption).2.2.1; exact this
          refine ⟨w'.heap.size, _, _, _, _, _, _, _, _, _, rfl, rfl, ⟨by simp [go_sem], by simp [go_sem], by simp <;> omega⟩, .inr ⟨w'.heap.size, 0, rfl, by simp <;> omega, fun j hj => ?_⟩, hOO.2.2.2.mono (Nat.le_of_eq HSZ.out.symm), by have := HSZ.out; omega⟩
          have hj4 : j = 0 ∨ j = 1 ∨ j = 2 ∨ j = 3 := by omega
          rcases hj4 with rfl | rfl | rfl | rfl <;> exact ⟨by simp [go_sem, La], by simp [go_sem, La], by simp [go_sem, La], by simp [go_sem, La]⟩
        · go_simp
          refine hK.out _ _ (by repeat' (first | with_reducible assumption | with_reducible exact Old.refl _ | with_reducible refine Old.drewK ?_ | with_reducible refine Old.alloc ?_ _ | with_reducible refine Old.setK ?_ ?_ | with_reducible refine Old.call ?_ (by with_reducible assumption) | omega | (simp; omega) | simp)) (fun hHeld4 => ?_)
          try simp only [Act.put, List.setIfInBounds_toArray, List.set_cons_zero, List.set_cons_succ]
          clear hK K
          refine wpAnyH_ready (rs := [5]) (by kernel_rfl) (by simp) ?_
          refine AllReadyH.cons rfl (fun K hK => ?_) AllReadyH.nil
          go_simp
          refine hK.out _ _ (by repeat' (first | with_reducible assumption | with_reducible exact Old.refl _ | with_reducible refine Old.drewK ?_ | with_reducible refine Old.alloc ?_ _ | with_reducible refine Old.setK ?_ ?_ | with_reducible refine Old.call ?_ (by with_reducible assumption) | omega | (simp; omega) | simp)) (fun hHeld5 => ?_)
          try simp only [Act.put, List.setIfInBounds_toArray, List.set_cons_zero, List.set_cons_succ]
          clear hK K
          refine wpAnyH_ready (rs := [7]) (by kernel_rfl) (by simp) ?_
          refine AllReadyH.cons rfl (fun K hK => ?_) AllReadyH.nil
          go_simp
          refine hK.out _ _ (by repeat' (first | with_reducible assumption | with_reducible exact Old.refl _ | with_reducible refine Old.drewK ?_ | with_reducible refine Old.alloc ?_ _ | with_reducible refine Old.setK ?_ ?_ | with_reducible refine Old.call ?_ (by with_reducible assumption) | omega | (simp; omega) | simp)) (fun hHeld6 => ?_)
          try simp only [Act.put, List.setIfInBounds_toArray, List.set_cons_zero, List.set_cons_succ]
          clear hK K
          refine wpAnyH_done (by kernel_rfl) ?_ _
          refine NoPanic.normal ?_
          have hOO := hHeld6
          have hge : W2.heap.size ≤ w'.heap.size := by have := (show Old W2 w' by assumption).2.2.1; exact this
          refine ⟨w'.heap.size, _, _, _, _, _, _, _, _, _, rfl, rfl, ⟨by simp [go_sem], by simp [go_sem], by simp <;> omega⟩, .inr ⟨w'.heap.size, 0, rfl, by simp <;> omega, fun j hj => ?_⟩, hOO.2.2.2.mono (Nat.le_of_eq HSZ.out.symm), by have := HSZ.out; omega⟩
          have hj4 : j = 0 ∨ j = 1 ∨ j = 2 ∨ j = 3 := by omega
          rcases hj4 with rfl | rfl | rfl | rfl <;> exact ⟨by simp [go_sem, La], by simp [go_sem, La], by simp [go_sem, La], by simp [go_sem, La]⟩
      · go_simp
        refine hK.out _ _ (by repeat' (first | with_reducible assumption | with_reducible exact Old.refl _ | with_reducible refine Old.drewK ?_ | with_reducible refine Old.alloc ?_ _ | with_reducible refine Old.setK ?_ ?_ | with_reducible refine Old.call ?_ (by with_reducible assumption) | omega | (simp; omega) | simp)) (fun hHeld3 => ?_)
        try simp only [Act.put, List.setIfInBounds_toArray, List.set_cons_zero, List.set_cons_succ]
        clear hK K
        refine wpAnyH_ready (rs := [4]) (by kernel_rfl) (by simp) ?_
        refine AllReadyH.cons rfl (fun K hK => ?_) AllReadyH.nil
        go_simp
        refine hK.out _ _ (by repeat' (first | with_reducible assumption | with_reducible exact Old.refl _ | with_reducible refine Old.drewK ?_ | with_reducible refine Old.alloc ?_ _ | with_reducible refine Old.setK ?_ ?_ | with_reducible refine Old.call ?_ (by with_reducible assumption) | omega | (simp; omega) | simp)) (fun hHeld4 => ?_)
        try simp only [Act.put, List.setIfInBounds_toArray, List.set_cons_zero, List.set_cons_succ]
        clear hK K
        refine wpAnyH_ready (rs := [5]) (by kernel_rfl) (by simp) ?_
        refine AllReadyH.cons rfl (fun K hK => ?_) AllReadyH.nil
        go_simp
        refine hK.out _ _ (by repeat' (first | with_reducible assumption | with_reducible exact Old.refl _ | with_reducible refine Old.drewK ?_ | with_reducible refine Old.alloc ?_ _ | with_reducible refine Old.setK ?_ ?_ | with_reducible refine Old.call ?_ (by with_reducible assumption) | omega | (simp; omega) | simp)) (fun hHeld5 => ?_)
        try simp only [Act.put, List.setIfInBounds_toArray, List.set_cons_zero, List.set_cons_succ]
        clear hK K
        refine wpAnyH_ready (rs := [7]) (by kernel_rfl) (by simp) ?_
        refine AllReadyH.cons rfl (fun K hK => ?_) AllReadyH.nil
        go_simp
        refine hK.out _ _ (by repeat' (first | with_reducible assumption | with_reducible exact Old.refl _ | with_reducible refine Old.drewK ?_ | with_reducible refine Old.alloc ?_ _ | with_reducible refine Old.setK ?_ ?_ | with_reducible refine Old.call ?_ (by with_reducible assumption) | omega | (simp; omega) | simp)) (fun hHeld6 => ?_)
        try simp only [Act.put, List.setIfInBounds_toArray, List.set_cons_zero, List.set_cons_succ]
        clear hK K
        refine wpAnyH_done (by kernel_rfl) ?_ _
        refine NoPanic.normal ?_
        have hOO := hHeld6
        have hge : W2.heap.size ≤ w'.heap.size := by have := (show Old W2 w' by assumption).2.2.1; exact this
        refine ⟨(w'.heap.size + 1), _, _, _, _, _, _, _, _, _, rfl, rfl, ⟨by simp [go_sem], by simp [go_sem], by simp <;> omega⟩, .inr ⟨(w'.heap.size + 1), 0, rfl, by simp <;> omega, fun j hj => ?_⟩, hOO.2.2.2.mono (Nat.le_of_eq HSZ.out.symm), by have := HSZ.out; omega⟩
        have hj4 : j = 0 ∨ j = 1 ∨ j = 2 ∨ j = 3 := by omega
        rcases hj4 with rfl | rfl | rfl | rfl <;> exact ⟨by simp [go_sem, La], by simp [go_sem, La], by simp [go_sem, La], by simp [go_sem, La]⟩
    · go_simp
      refine hK.out _ _ (by repeat' (first | with_reducible assumption | with_reducible exact Old.refl _ | with_reducible refine Old.drewK ?_ | with_reducible refine Old.alloc ?_ _ | with_reducible refine Old.setK ?_ ?_ | with_reducible refine Old.call ?_ (by with_reducible assumption) | omega | (simp; omega) | simp)) (fun hHeld2 => ?_)
      try simp only [Act.put, List.setIfInBounds_toArray, List.set_cons_zero, List.set_cons_succ]
      clear hK K
      refine wpAnyH_ready (rs := [1]) (by kernel_rfl) (by simp) ?_
      refine AllReadyH.cons rfl (fun K hK => ?_) AllReadyH.nil
      go_simp
      go_at_call 38
      refine (full_any _).mono ?_
      rintro e w' ⟨rfl, hb'⟩
      dsimp only
      have z4 : W2.heap.size < w'.heap.size := Nat.lt_of_lt_of_le (by simp) hb'.size
      have z0 : w'.cell? ⟨W2.heap.size, 0, none⟩ = some (.slice none 0 0) := (hb'.cell (p := ⟨W2.heap.size, 0, none⟩) (by simp)).trans (by simp [go_sem])
      have z1 : w'.cell? ⟨W2.heap.size, 1, none⟩ = some (.int .i64 0) := (hb'.cell (p := ⟨W2.heap.size, 1, none⟩) (by simp)).trans (by simp [go_sem])
      have z2 : w'.frozen? ⟨W2.heap.size, 0, none⟩ = false := (hb'.frozen (p := ⟨W2.heap.size, 0, none⟩) (by simp)).trans (by simp [go_sem])
      have z3 : w'.frozen? ⟨W2.heap.size, 1, none⟩ = false := (hb'.frozen (p := ⟨W2.heap.size, 1, none⟩) (by simp)).trans (by simp [go_sem])
      refine hK.out _ _ (by repeat' (first | with_reducible assumption | with_reducible exact Old.refl _ | with_reducible refine Old.drewK ?_ | with_reducible refine Old.alloc ?_ _ | with_reducible refine Old.setK ?_ ?_ | with_reducible refine Old.call ?_ (by with_reducible assumption) | omega | (simp; omega) | simp)) (fun hHeld3 => ?_)
      try simp only [Act.put, List.setIfInBounds_toArray, List.set_cons_zero, List.set_cons_succ]
      clear hK K
      refine wpAnyH_ready (rs := [4]) (by kernel_rfl) (by simp) ?_
      refine AllReadyH.cons rfl (fun K hK => ?_) AllReadyH.nil
      go_simp
      refine hK.out _ _ (by repeat' (first | with_reducible assumption | with_reducible exact Old.refl _ | with_reducible refine Old.drewK ?_ | with_reducible refine Old.alloc ?_ _ | with_reducible refine Old.setK ?_ ?_ | with_reducible refine Old.call ?_ (by with_reducible assumption) | omega | (simp; omega) | simp)) (fun hHeld4 => ?_)
      try simp only [Act.put, List.setIfInBounds_toArray, List.set_cons_zero, List.set_cons_succ]
      clear hK K
      refine wpAnyH_ready (rs := [5]) (by kernel_rfl) (by simp) ?_
      refine AllReadyH.cons rfl (fun K hK => ?_) AllReadyH.nil
      go_simp
      refine hK.out _ _ (by repeat' (first | with_reducible assumption | with_reducible exact Old.refl _ | with_reducible refine Old.drewK ?_ | with_reducible refine Old.alloc ?_ _ | with_reducible refine Old.setK ?_ ?_ | with_reducible refine Old.call ?_ (by with_reducible assumption) | omega | (simp; omega) | simp)) (fun hHeld5 => ?_)
      try simp only [Act.put, List.setIfInBounds_toArray, List.set_cons_zero, List.set_cons_succ]
      clear hK K
      refine wpAnyH_ready (rs := [7]) (by kernel_rfl) (by simp) ?_
      refine AllReadyH.cons rfl (fun K hK => ?_) AllReadyH.nil
      go_simp
      refine hK.out _ _ (by repeat' (first | with_reducible assumption | with_reducible exact Old.refl _ | with_reducible refine Old.drewK ?_ | with_reducible refine Old.alloc ?_ _ | with_reducible refine Old.setK ?_ ?_ | with_reducible refine Old.call ?_ (by with_reducible assumption) | omega | (simp; omega) | simp)) (fun hHeld6 => ?_)
      try simp only [Act.put, List.setIfInBounds_toArray, List.set_cons_zero, List.set_cons_succ]
      clear hK K
      refine wpAnyH_done (by kernel_rfl) ?_ _
      refine NoPanic.normal ?_
      have hOO := hHeld6
      have hge := Nat.le_of_lt z4
      refine ⟨w'.heap.size, _, _, _, _, _, _, _, _, _, rfl, rfl, ⟨by simp [go_sem, z0, z4], by simp [go_sem, z1, z4], by simp; omega⟩, .inr ⟨w'.heap.size, 0, rfl, by simp <;> omega, fun j hj => ?_⟩, hOO.2.2.2.mono (Nat.le_of_eq HSZ.out.symm), by have := HSZ.out; omega⟩
      have hj4 : j = 0 ∨ j = 1 ∨ j = 2 ∨ j = 3 := by omega
      rcases hj4 with rfl | rfl | rfl | rfl <;> exact ⟨by simp [go_sem, La], by simp [go_sem, La], by simp [go_sem, La], by simp [go_sem, La]⟩

end Go.Proofs.Ytkhcjjdamphbfaa
