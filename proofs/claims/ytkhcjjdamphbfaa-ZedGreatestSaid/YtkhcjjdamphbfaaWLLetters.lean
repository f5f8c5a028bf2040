/- Walk of the law LeafLetters. -/
import Derived.Test.YtkhcjjdamphbfaaWLTexts
namespace Go.Proofs.Ytkhcjjdamphbfaa
open Go.RowKit

theorem txt_size (L : Nat → Nat → Bool) (n : Nat) (h : lettersB L n = true) : (txt L n).size = n := by
  unfold txt
  rw [h, if_pos rfl, strOfNums_size, lets_length]
theorem sgl_lt (S : Nat → Bool) : sgl S < 256 ∨ one S = false := by
  unfold sgl
  cases h : one S
  · exact .inr rfl
  · have : cnt S = 1 := by unfold one at h; simpa using h
    have := ((one_iff S).1 this).1
    exact .inl (by rw [if_pos rfl]; exact this)
theorem txt_same (L : Nat → Nat → Bool) (n : Nat) (h : lettersB L n = true) : agC (byteS (txt L n)) L n = true := by
  rw [agC_iff]
  intro j hj
  have ho := (allN_iff _ _).1 h j hj
  have ho' : one (L j) = true := ho
  have hc : cnt (L j) = 1 := by unfold one at ho'; simpa using ho'
  obtain ⟨hf, hS⟩ := (one_iff (L j)).1 hc
  have hsg : sgl (L j) = first (L j) := by unfold sgl; rw [ho', if_pos rfl]
  rw [clsEq_iff]
  intro m hm
  rw [hS m hm]
  unfold byteS txt
  rw [h, if_pos rfl, strOfNums_data]
  simp only [lets, List.map_map, List.getElem?_map, List.getElem?_range hj, Option.map_some, Function.comp_apply, Int.toNat_natCast, hsg]
  have e : (UInt8.ofNat (first (L j))).toNat = first (L j) := by rw [UInt8.toNat_ofNat']; omega
  rw [e, Bool.eq_iff_iff, decide_eq_true_eq, beq_iff_eq, Option.some.injEq]
  exact eq_comm

set_option maxRecDepth 100000 in
set_option maxHeartbeats 4000000 in
theorem leafLetters_walk (ad : Option Addr) (n cap : Nat) (K : Int) (L : Nat → Nat → Bool) (hn : (n : Int) ≤ 4611686018427387904) (w : World) (hR : RowC w ad n L w.heap.size) :
    Calls Try.prog 16 #[lv ad n cap K] w fun e w' => e = .returned (.bool true) ∧ Below w.heap.size w w' := by
  have hl := HoldsL.new w ad n cap K
  have HB : Below w.heap.size w (w.alloc (.cells #[.slice ad n cap, .int .i64 K] 43)) := (Below.refl _ _).alloc (Nat.le_refl _) _
  have hR0 := (hR.below HB (Nat.le_refl _)).mono HB.size
  by_cases hf : n ≤ 100
  · go_enter Try.func16, Try.ntmps16
    go_wp2_with (go_at_call 66; refine (few07_any ad n cap K hn _).mono ?_; rw [decide_eq_true hf]; rintro e w1 ⟨rfl, hb1⟩; obtain ⟨c0, c1, cl⟩ := hl.below hb1 hl.2.2)
    have hl1 := hl.below hb1 hl.2.2
    have hR1 := (hR0.below hb1 (Nat.le_refl _)).mono hb1.size
    have HB1 := HB.trans (hb1.mono HB.size)
    clear hl HB hR0 hb1 hR c0 c1
    refine (letters_any ad n cap K L (by omega) _ hR1).mono ?_
    rintro e w2 ⟨rfl, hb2⟩
    have hl2 := hl1.below hb2 cl
    have hR2 := (hR1.below hb2 (Nat.le_refl _)).mono hb2.size
    have HB2 := HB1.trans (hb2.mono HB1.size)
    clear hl1 hR1 HB1 hb2 cl
    obtain ⟨c0, c1, cl⟩ := hl2
    have hl2' : Hid (HoldsL w2 w.heap.size ad n cap K) := Lib.hid ⟨c0, c1, cl⟩
    cases hlet : lettersB L n
    · go_wp2_with (go_at_call 77; refine (rletters_any ad n cap K L (by omega) _ hR2).mono ?_; rw [hlet]; rintro e w3 ⟨rfl, hb3⟩)
      have hl3 := HoldsL.below hl2'.out hb3 cl
      have HB3 := HB2.trans (hb3.mono HB2.size)
      clear hl2' HB2 hb3 cl c0 c1 hlet
      obtain ⟨c0, c1, cl⟩ := hl3
      refine wp_region_noPanic ?_
      refine wp_region_held_drew (S := fun w' => Old w3 w') (by kernel_rfl) (Old.start _) (fun hHeld => ?_)
      refine wpAnyH_ready (rs := [0]) (by kernel_rfl) (by simp) ?_
      refine AllReadyH.cons rfl (fun K hK => ?_) AllReadyH.nil
      go_simp
      go_at_call 67
      refine (alive07 _).mono ?_
      rintro e w' ⟨rfl, hb'⟩
      dsimp only
      refine hK.out _ _ (Old.calld (Old.refl _) hb') (fun hHeld2 => ?_)
      try simp only [Act.put, List.setIfInBounds_toArray, List.set_cons_zero, List.set_cons_succ]
      clear hK K hHeld
      refine takeD 1 22 (.bool true) rfl rfl (by kernel_rfl) (by kernel_rfl) (by kernel_rfl) (fun _ _ _ h => h) (Or.inl ⟨by rfl, by intro w' hSw; go_simp⟩) hHeld2 ?_
      try simp only [Act.put, List.setIfInBounds_toArray, List.set_cons_zero, List.set_cons_succ]
      refine takeD 2 23 (.string (txt L n)) rfl rfl (by kernel_rfl) (by kernel_rfl) (by kernel_rfl) (fun _ _ _ h => h) (Or.inl ⟨by rfl, by intro w' hSw; go_simp⟩) hHeld2 ?_
      try simp only [Act.put, List.setIfInBounds_toArray, List.set_cons_zero, List.set_cons_succ]
      refine takeD 3 24 (.string (txt L n)) rfl rfl (by kernel_rfl) (by kernel_rfl) (by kernel_rfl) (fun _ _ _ h => h) (Or.inl ⟨by rfl, by intro w' hSw; go_simp⟩) hHeld2 ?_
      try simp only [Act.put, List.setIfInBounds_toArray, List.set_cons_zero, List.set_cons_succ]
      refine takeD 4 25 (.bool true) rfl rfl (by kernel_rfl) (by kernel_rfl) (by kernel_rfl) (fun _ _ _ h => h) (Or.inl ⟨by rfl, by intro w' hSw; go_simp⟩) hHeld2 ?_
      try simp only [Act.put, List.setIfInBounds_toArray, List.set_cons_zero, List.set_cons_succ]
      refine takeD 5 26 (.bool true) rfl rfl (by kernel_rfl) (by kernel_rfl) (by kernel_rfl) (fun _ _ _ h => h) (Or.inl ⟨by rfl, by intro w' hSw; go_simp⟩) hHeld2 ?_
      try simp only [Act.put, List.setIfInBounds_toArray, List.set_cons_zero, List.set_cons_succ]
      refine takeD 6 27 (.bool true) rfl rfl (by kernel_rfl) (by kernel_rfl) (by kernel_rfl) (fun _ _ _ h => h) (Or.inl ⟨by rfl, by intro w' hSw; go_simp⟩) hHeld2 ?_
      try simp only [Act.put, List.setIfInBounds_toArray, List.set_cons_zero, List.set_cons_succ]
      refine takeD 7 28 (.bool false) rfl rfl (by kernel_rfl) (by kernel_rfl) (by kernel_rfl) (fun _ _ _ h => h) (Or.inl ⟨by rfl, by intro w' hSw; go_simp⟩) hHeld2 ?_
      try simp only [Act.put, List.setIfInBounds_toArray, List.set_cons_zero, List.set_cons_succ]
      refine takeD 8 29 (.bool false) rfl rfl (by kernel_rfl) (by kernel_rfl) (by kernel_rfl) (fun _ _ _ h => h) (Or.inl ⟨by rfl, by intro w' hSw; go_simp⟩) hHeld2 ?_
      try simp only [Act.put, List.setIfInBounds_toArray, List.set_cons_zero, List.set_cons_succ]
      refine takeD 9 30 (.bool true) rfl rfl (by kernel_rfl) (by kernel_rfl) (by kernel_rfl) (fun _ _ _ h => h) (Or.inl ⟨by rfl, by intro w' hSw; go_simp⟩) hHeld2 ?_
      try simp only [Act.put, List.setIfInBounds_toArray, List.set_cons_zero, List.set_cons_succ]
      refine takeD 10 31 (.bool true) rfl rfl (by kernel_rfl) (by kernel_rfl) (by kernel_rfl) (fun _ _ _ h => h) (Or.inl ⟨by rfl, by intro w' hSw; go_simp⟩) hHeld2 ?_
      try simp only [Act.put, List.setIfInBounds_toArray, List.set_cons_zero, List.set_cons_succ]
      refine takeD 11 32 (.bool true) rfl rfl (by kernel_rfl) (by kernel_rfl) (by kernel_rfl) (fun _ _ _ h => h) (Or.inl ⟨by rfl, by intro w' hSw; go_simp⟩) hHeld2 ?_
      try simp only [Act.put, List.setIfInBounds_toArray, List.set_cons_zero, List.set_cons_succ]
      refine takeD 12 33 (.bool false) rfl rfl (by kernel_rfl) (by kernel_rfl) (by kernel_rfl) (fun _ _ _ h => h) (Or.inl ⟨by rfl, by intro w' hSw; go_simp⟩) hHeld2 ?_
      try simp only [Act.put, List.setIfInBounds_toArray, List.set_cons_zero, List.set_cons_succ]
      refine takeD 13 34 (.bool true) rfl rfl (by kernel_rfl) (by kernel_rfl) (by kernel_rfl) (fun _ _ _ h => h) (Or.inl ⟨by rfl, by intro w' hSw; go_simp⟩) hHeld2 ?_
      try simp only [Act.put, List.setIfInBounds_toArray, List.set_cons_zero, List.set_cons_succ]
      refine takeD 14 35 (.bool true) rfl rfl (by kernel_rfl) (by kernel_rfl) (by kernel_rfl) (fun _ _ _ h => h) (Or.inl ⟨by rfl, by intro w' hSw; go_simp⟩) hHeld2 ?_
      try simp only [Act.put, List.setIfInBounds_toArray, List.set_cons_zero, List.set_cons_succ]
      refine takeD 15 36 undef rfl rfl (by kernel_rfl) (by kernel_rfl) (by kernel_rfl) (fun _ _ _ h => h) (Or.inr ⟨by rfl, rfl⟩) hHeld2 ?_
      try simp only [Act.put, List.setIfInBounds_toArray, List.set_cons_zero, List.set_cons_succ]
      refine takeD 16 37 undef rfl rfl (by kernel_rfl) (by kernel_rfl) (by kernel_rfl) (fun _ _ _ h => h) (Or.inr ⟨by rfl, rfl⟩) hHeld2 ?_
      try simp only [Act.put, List.setIfInBounds_toArray, List.set_cons_zero, List.set_cons_succ]
      refine takeD 17 38 undef rfl rfl (by kernel_rfl) (by kernel_rfl) (by kernel_rfl) (fun _ _ _ h => h) (Or.inr ⟨by rfl, rfl⟩) hHeld2 ?_
      try simp only [Act.put, List.setIfInBounds_toArray, List.set_cons_zero, List.set_cons_succ]
      refine takeD 18 39 undef rfl rfl (by kernel_rfl) (by kernel_rfl) (by kernel_rfl) (fun _ _ _ h => h) (Or.inr ⟨by rfl, rfl⟩) hHeld2 ?_
      try simp only [Act.put, List.setIfInBounds_toArray, List.set_cons_zero, List.set_cons_succ]
      refine takeD 19 40 undef rfl rfl (by kernel_rfl) (by kernel_rfl) (by kernel_rfl) (fun _ _ _ h => h) (Or.inr ⟨by rfl, rfl⟩) hHeld2 ?_
      try simp only [Act.put, List.setIfInBounds_toArray, List.set_cons_zero, List.set_cons_succ]
      refine takeD 20 41 undef rfl rfl (by kernel_rfl) (by kernel_rfl) (by kernel_rfl) (fun _ _ _ h => h) (Or.inr ⟨by rfl, rfl⟩) hHeld2 ?_
      try simp only [Act.put, List.setIfInBounds_toArray, List.set_cons_zero, List.set_cons_succ]
      refine takeD 21 42 (.bool true) rfl rfl (by kernel_rfl) (by kernel_rfl) (by kernel_rfl) (fun _ _ _ h => h) (Or.inl ⟨by rfl, by intro w' hSw; go_simp⟩) hHeld2 ?_
      try simp only [Act.put, List.setIfInBounds_toArray, List.set_cons_zero, List.set_cons_succ]
      refine takeD 22 43 (.bool true) rfl rfl (by kernel_rfl) (by kernel_rfl) (by kernel_rfl) (fun _ _ _ h => h) (Or.inl ⟨by rfl, by intro w' hSw; go_simp⟩) hHeld2 ?_
      try simp only [Act.put, List.setIfInBounds_toArray, List.set_cons_zero, List.set_cons_succ]
      refine takeD 23 2 (.bool true) rfl rfl (by kernel_rfl) (by kernel_rfl) (by kernel_rfl) (fun _ _ _ h => h) (Or.inl ⟨by rfl, by intro w' hSw; go_simp⟩) hHeld2 ?_
      try simp only [Act.put, List.setIfInBounds_toArray, List.set_cons_zero, List.set_cons_succ]
      refine wpAnyH_done (by kernel_rfl) ?_ _
      refine NoPanic.normal ?_
      go_wp2
      go_ret
      exact ⟨rfl, HB3.trans ((show Old w3 _ by assumption).2.2.2.mono HB3.size)⟩
    · have hts := txt_size L n hlet
      have hsame : sameB (txt L n).size (byteS (txt L n)) K n L K = true := by unfold sameB; rw [hts, txt_same L n hlet]; simp
      obtain ⟨t, ht⟩ : ∃ t, t = txt L n := ⟨_, rfl⟩
      rw [← ht] at hts hsame ⊢
      have HT := Lib.hid ht
      clear ht
      have HTS := Lib.hid hts
      have hle : t.size ≤ 1000 := by omega
      clear hts
      go_wp2_with (go_at_call 77; refine (rletters_any ad n cap K L (by omega) _ hR2).mono ?_; rw [hlet, ← HT.out]; rintro e w3 ⟨rfl, hb3⟩)
      have hl3 := HoldsL.below hl2'.out hb3 cl
      have hR3 := (hR2.below hb3 (Nat.le_refl _)).mono hb3.size
      have HB3 := HB2.trans (hb3.mono HB2.size)
      clear hl2' HB2 hb3 cl c0 c1 hlet hR2
      obtain ⟨c0, c1, cl⟩ := hl3
      go_region_held3 (fun w' => Old w3 w') (first | with_reducible exact Old.start _ | with_reducible exact Old.calld (Old.refl _) (by assumption) | with_reducible exact Old.call (by assumption) (by assumption)) (first | (go_at_call 67; refine (alive07 _).mono ?_; rintro e w' ⟨rfl, hb'⟩) | (go_at_call 73; refine (text_any t hle K _).mono ?_; rintro e w' ⟨ad', cap', rfl, ho', hb'⟩; have hR' := rowC_of_own ho') | (go_at_call 78; refine (same_any _ t.size _ K (byteS t) ad n cap K L (by omega) (by omega) _ (by assumption) ((hR3.below (show Old w3 _ by with_reducible assumption).2.2.2 (Nat.le_refl _)).mono (show Old w3 _ by with_reducible assumption).2.2.1)).mono ?_; rw [hsame]; rintro e w' ⟨rfl, hb'⟩))
      go_wp2
      go_ret
      exact ⟨rfl, HB3.trans ((show Old w3 _ by assumption).2.2.2.mono HB3.size)⟩
  · go_enter Try.func16, Try.ntmps16
    go_wp2_with (first | (go_at_call 66; refine (few07_any ad n cap K hn _).mono ?_; rw [decide_eq_false hf]; rintro e w1 ⟨rfl, hb1⟩) | (go_at_call 67; refine (alive07 _).mono ?_; rintro e w2 ⟨rfl, hb2⟩))
    go_ret
    exact ⟨rfl, HB.trans ((hb1.trans (hb2.mono hb1.size)).mono HB.size)⟩
end Go.Proofs.Ytkhcjjdamphbfaa
