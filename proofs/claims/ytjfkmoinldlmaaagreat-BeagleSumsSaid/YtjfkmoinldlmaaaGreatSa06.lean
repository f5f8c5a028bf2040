/- Walks of the leaf package and of beagleref07: Plain, Where, Bound, Letters. -/
import Derived.Test.YtjfkmoinldlmaaaGreatSa05
import Derived.Laws.BytesString
import Derived.Laws.BytesArg
namespace Go.Proofs.YtjfkmoinldlmaaaGreat
open Go.RowKit

set_option maxRecDepth 100000 in
set_option maxHeartbeats 4000000 in
theorem plain_any (ad : Option Addr) (n cap : Nat) (K : Int) (L : Nat → Nat → Bool) (hn : (n : Int) ≤ 4611686018427387904) (w : World) (hR : RowC w ad n L w.heap.size) :
    Calls Tryz.prog 136 #[lv ad n cap K] w fun e w' => e = .returned (.bool (plainB L n)) ∧ Below w.heap.size w w' := by
  have hl := HoldsL.new w ad n cap K
  go_enter Tryz.func136, Tryz.ntmps136
  go_wp2_with fail
  obtain ⟨W0, hW0⟩ : ∃ W0 : World, w.alloc (.cells #[.slice ad n cap, .int .i64 K] 52) = W0 := ⟨_, rfl⟩
  have HB : Below w.heap.size w W0 := by subst hW0; exact (Below.refl _ _).alloc (Nat.le_refl _) _
  have hR0 := hR.below HB (Nat.le_refl _)
  rw [hW0] at hl ⊢
  clear hW0 hR
  obtain ⟨c0, c1, l0⟩ := hl
  go_wp2_with fail
  go_loopw [10] (fun j wr => ∃ k : Nat, k ≤ n ∧ j = .int .i64 k ∧ plainB L k = true ∧ Old W0 wr) (fun j _ => n - (intOf j).toNat)
  case atStart => exact ⟨0, by omega, rfl, rfl, Old.refl _⟩
  case round =>
    obtain ⟨k, hk, rfl, hp, hO⟩ := hrel
    have hR1 := hR0.below hO.2.2.2 (Nat.le_of_lt l0)
    have HB1 := HB.trans (hO.2.2.2.mono HB.size)
    have HO := Lib.hid hO
    have HP := Lib.hid hp
    clear hO hp
    by_cases hlt : k < n
    · obtain ⟨b, o, rfl, hb, e0, e1, e2, e3⟩ := hR1.at hlt
      clear hR1 hR0
      have hlti : (k : Int) < n := by omega
      have hA : Below wr.heap.size wr (wr.alloc (.cells #[.int .u64 (wd (L k) 0 : Nat), .int .u64 (wd (L k) 1 : Nat), .int .u64 (wd (L k) 2 : Nat), .int .u64 (wd (L k) 3 : Nat)] 100)) := (Below.refl _ _).alloc (Nat.le_refl _) _
      have hN := HoldsC.new wr (L k)
      cases hq : one (L k)
      · cases hf : clsEq (L k) fullS
        · go_wp2_with (first | (go_at_call 177; refine (single_any _ _).mono ?_; rw [hq]; rintro e w1 ⟨rfl, hb1⟩; obtain ⟨⟨d0, d1, d2, d3⟩, -, dl⟩ := hN.below hb1 hN.2.2) | (go_at_call 178; refine (free_any _ _).mono ?_; rw [hf]; rintro e w2 ⟨rfl, hb2⟩))
          try rw [Exit.noGoto_ret]
          go_ret
          exact ⟨by rw [show plainB L n = false from allN_miss hlt (by rw [hq, hf]; rfl)]; rfl, HB1.trans ((hA.trans (hb1.mono hA.size) |>.trans (hb2.mono (Nat.le_trans hA.size hb1.size))).mono HB1.size)⟩
        · go_wp2_with (first | (go_at_call 177; refine (single_any _ _).mono ?_; rw [hq]; rintro e w1 ⟨rfl, hb1⟩; obtain ⟨⟨d0, d1, d2, d3⟩, -, dl⟩ := hN.below hb1 hN.2.2) | (go_at_call 178; refine (free_any _ _).mono ?_; rw [hf]; rintro e w2 ⟨rfl, hb2⟩))
          refine ⟨⟨k + 1, by omega, by go_num, ?_, HO.out.trans (Old.of (hA.trans (hb1.mono hA.size) |>.trans (hb2.mono (Nat.le_trans hA.size hb1.size))))⟩, by simp [intOf]; omega⟩
          show (plainB L k && (one (L k) || clsEq (L k) fullS)) = true
          rw [HP.out, hq, hf]; rfl
      · go_wp2_with (first | (go_at_call 177; refine (single_any _ _).mono ?_; rw [hq]; rintro e w1 ⟨rfl, hb1⟩; obtain ⟨⟨d0, d1, d2, d3⟩, -, dl⟩ := hN.below hb1 hN.2.2))
        refine ⟨⟨k + 1, by omega, by go_num, ?_, HO.out.trans (Old.of (hA.trans (hb1.mono hA.size)))⟩, by simp [intOf]; omega⟩
        show (plainB L k && (one (L k) || clsEq (L k) fullS)) = true
        rw [HP.out, hq]; rfl
    · obtain rfl : k = n := by omega
      go_wp2
      try rw [Exit.noGoto_ret]
      go_ret
      exact ⟨by rw [HP.out]; rfl, HB1⟩

set_option maxRecDepth 100000 in
set_option maxHeartbeats 4000000 in
theorem where_any (ad : Option Addr) (n cap : Nat) (K : Int) (L : Nat → Nat → Bool) (S : Nat → Bool) (hn : (n : Int) ≤ 100000) (w : World) (hR : RowC w ad n L w.heap.size) :
    Calls Tryz.prog 180 #[lv ad n cap K, cv S] w fun e w' => ∃ v, e = .returned v ∧ w'.ownsRow w.heap.size 3 1 v (whereTo S L n).length (ints (whereTo S L n)) ∧ Below w.heap.size w w' := by
  have hl := HoldsL.new w ad n cap K
  have hS := HoldsC.new (w.alloc (.cells #[.slice ad n cap, .int .i64 K] 52)) S
  go_enter Tryz.func180, Tryz.ntmps180
  go_wp2_with fail
  obtain ⟨W0, hW0⟩ : ∃ W0 : World, (w.alloc (.cells #[.slice ad n cap, .int .i64 K] 52)).alloc (.cells #[.int .u64 (wd S 0 : Nat), .int .u64 (wd S 1 : Nat), .int .u64 (wd S 2 : Nat), .int .u64 (wd S 3 : Nat)] 100) = W0 := ⟨_, rfl⟩
  have HB : Below w.heap.size w W0 := by subst hW0; exact ((Below.refl _ _).alloc (Nat.le_refl _) _).alloc (by simp) _
  have hs0 : W0.heap.size = w.heap.size + 2 := by subst hW0; simp
  have hl2 : HoldsL W0 w.heap.size ad n cap K := by subst hW0; exact hl.below ((Below.refl _ _).alloc (Nat.le_refl _) _) hl.2.2
  have hR0 := hR.below HB (Nat.le_refl _)
  rw [hW0] at hS ⊢
  rw [World.size_alloc] at hS
  clear hW0 hR hl
  obtain ⟨c0, c1, l0⟩ := hl2
  go_wp2_with fail
  go_loopw [5, 11] (fun v j wr => ∃ k : Nat, k ≤ n ∧ j = .int .i64 k ∧ wr.ownsRow (w.heap.size + 2) 3 1 v (whereTo S L k).length (ints (whereTo S L k)) ∧ Below (w.heap.size + 2) W0 wr) (fun _ j _ => n - (intOf j).toNat)
  case atStart => exact ⟨0, by omega, rfl, World.ownsRow_nil _ _ _ _, Below.refl _ _⟩
  case round =>
    obtain ⟨k, hk, rfl, hown, hb⟩ := hrel
    have hR1 := hR0.below hb (by omega)
    have hS1 := hS.below hb (by omega)
    have hz := hb.size
    have hlen : (whereTo S L k).length ≤ k := by rw [whereTo_length]; exact cntN_le _ _
    by_cases hlt : k < n
    · obtain ⟨b, o, rfl, hbm, e0, e1, e2, e3⟩ := hR1.at hlt
      clear hR1 hR0
      have hlti : (k : Int) < n := by omega
      have hA : Below (w.heap.size + 2) wr (wr.alloc (.cells #[.int .u64 (wd (L k) 0 : Nat), .int .u64 (wd (L k) 1 : Nat), .int .u64 (wd (L k) 2 : Nat), .int .u64 (wd (L k) 3 : Nat)] 100)) := (Below.refl _ _).alloc (by omega) _
      have hown1 := hown.alloc (.cells #[.int .u64 (wd (L k) 0 : Nat), .int .u64 (wd (L k) 1 : Nat), .int .u64 (wd (L k) 2 : Nat), .int .u64 (wd (L k) 3 : Nat)] 100)
      have hsz1 : (wr.alloc (.cells #[.int .u64 (wd (L k) 0 : Nat), .int .u64 (wd (L k) 1 : Nat), .int .u64 (wd (L k) 2 : Nat), .int .u64 (wd (L k) 3 : Nat)] 100)).heap.size = wr.heap.size + 1 := by simp
      cases hq : clsEq (L k) S
      · have hs : whereTo S L (k + 1) = whereTo S L k := by simp only [whereTo]; rw [hq, if_neg (by decide)]
        have HS := Lib.hid hs
        clear hs
        go_wp2_with fail
        exact ⟨⟨k + 1, by omega, by go_num, by rw [HS.out]; exact hown1, hb.trans hA⟩, by simp [intOf]; omega⟩
      · have hs : whereTo S L (k + 1) = whereTo S L k ++ [(k : Int)] := by simp only [whereTo]; rw [hq, if_pos rfl]
        have HS := Lib.hid hs
        clear hs
        go_wp2_with (first | (at_builtin; refine wpList_app elem24 rfl _ _ rfl rfl hown1 [.int .i64 (k : Nat)] (by rw [hsz1]; rfl) rfl (by simp [Value.oneCell']) (by unfold maxLen; omega) (by omega) (by omega) ?_; intro v3 w3 hown3 hb3))
        exact ⟨⟨k + 1, by omega, by go_num, by rw [HS.out, ints_snoc, List.length_append]; exact hown3, (hb.trans hA).trans hb3⟩, by simp [intOf]; omega⟩
    · obtain rfl : k = n := by omega
      go_wp2
      go_ret
      exact ⟨_, rfl, own_le hown (by omega), HB.trans (hb.mono (by omega))⟩

set_option maxRecDepth 100000 in
set_option maxHeartbeats 4000000 in
theorem bound_any (ad : Option Addr) (n cap : Nat) (K : Int) (L : Nat → Nat → Bool) (hn : (n : Int) ≤ 100000) (w : World) (hR : RowC w ad n L w.heap.size) :
    Calls Tryz.prog 144 #[lv ad n cap K] w fun e w' => e = .returned (.int .i64 (boundN L n : Nat)) ∧ Below w.heap.size w w' := by
  have hl := HoldsL.new w ad n cap K
  have hbw := bound_where L n
  generalize boundN L n = x at hbw ⊢
  go_enter Tryz.func144, Tryz.ntmps144
  go_wp2_with fail
  obtain ⟨W0, hW0⟩ : ∃ W0 : World, w.alloc (.cells #[.slice ad n cap, .int .i64 K] 52) = W0 := ⟨_, rfl⟩
  have HB : Below w.heap.size w W0 := by subst hW0; exact (Below.refl _ _).alloc (Nat.le_refl _) _
  have hR0 := (hR.below HB (Nat.le_refl _)).mono HB.size
  rw [hW0] at hl ⊢
  clear hW0 hR
  obtain ⟨c0, c1, l0⟩ := hl
  have hww := Lib.hid (show ∀ w' : World, RowC w' ad n L w'.heap.size → _ from fun w' h => where_any ad n cap K L fullS hn w' h)
  obtain ⟨y, hy⟩ : ∃ y, y = (whereTo fullS L n).length := ⟨_, rfl⟩
  rw [← hy] at hbw hww
  clear hy
  have hwr : IntKind.i64.wrap ((n : Int) - y) = x := by rw [IntKind.wrap_i64]; omega
  have HBW := Lib.hid hbw
  clear hbw
  go_region_held3 (fun w' => Old W0 w') (first | with_reducible exact Old.start _ | with_reducible exact Old.calld (Old.refl _) (by assumption) | with_reducible exact Old.call (by assumption) (by assumption)) (first | (go_at_call 93; refine (full_any _).mono ?_; rintro e w1 ⟨rfl, hb1⟩) | (go_at_call 180; refine (hww.out _ ((hR0.below (show Old W0 _ by with_reducible assumption).2.2.2 (Nat.le_refl _)).mono (show Old W0 _ by with_reducible assumption).2.2.1)).mono ?_; rintro e w2 ⟨v2, rfl, ho2, hb2⟩; obtain ⟨ad2, cap2, rfl⟩ := own_slice ho2))
  go_wp2
  go_ret
  exact ⟨rfl, HB.trans ((show Old W0 _ by assumption).2.2.2.mono HB.size)⟩

end Go.Proofs.YtjfkmoinldlmaaaGreat
