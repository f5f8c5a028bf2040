/- Walk of the law LeafTexts. -/
import Derived.Test.YtkhcjjdamphbfaaAl07
namespace Go.Proofs.Ytkhcjjdamphbfaa
open Go.RowKit

theorem cnt_one_byte (m : Nat) (hm : m < 256) (S : Nat → Bool) (h : ∀ n, n < 256 → S n = (n == m)) : one S = true ∧ sgl S = m ∧ clsEq S fullS = false := by
  have hf : first S = m := by
    refine first_eq S m (by omega) (fun _ => by rw [h m hm]; simp) (fun i hi => ?_)
    rw [h i (by omega)]
    simp; omega
  have ho : one S = true := by
    unfold one
    rw [decide_eq_true_eq]
    exact (one_iff S).2 ⟨by omega, by rw [hf]; exact h⟩
  refine ⟨ho, by unfold sgl; rw [ho, if_pos rfl, hf], ?_⟩
  rw [Bool.eq_false_iff]
  intro hc
  have e := (clsEq_iff _ _).1 hc
  have e0 := e 0 (by omega)
  have e1 := e 1 (by omega)
  rw [h 0 (by omega)] at e0
  rw [h 1 (by omega)] at e1
  simp [fullS] at e0 e1
  omega

theorem byteS_single (s : ByteArray) (j : Nat) (hj : j < s.size) : one (byteS s j) = true ∧ sgl (byteS s j) = s[j].toNat ∧ clsEq (byteS s j) fullS = false := by
  have h : j < s.data.toList.length := by simpa using hj
  refine cnt_one_byte _ (by have := s[j].toNat_lt; omega) _ (fun n _ => ?_)
  unfold byteS
  rw [List.getElem?_eq_getElem h]
  simp only [Option.map_some, Option.some.injEq]
  have e : s.data.toList[j] = s[j] := rfl
  rw [e, Bool.eq_iff_iff, decide_eq_true_eq, beq_iff_eq]
  exact eq_comm

theorem byteS_letters (s : ByteArray) : lettersB (byteS s) s.size = true := (allN_iff _ _).2 fun j hj => (byteS_single s j hj).1
theorem byteS_plain (s : ByteArray) : plainB (byteS s) s.size = true := (allN_iff _ _).2 fun j hj => by rw [(byteS_single s j hj).1]; rfl
theorem byteS_bound (s : ByteArray) : boundN (byteS s) s.size = s.size := (cntN_full _ _).2 fun j hj => by rw [(byteS_single s j hj).2.2]; rfl
theorem byteS_txt (s : ByteArray) : txt (byteS s) s.size = s := by
  unfold txt
  rw [byteS_letters, if_pos rfl]
  have hd : s.data.toList = (lets (byteS s) s.size).map fun x => UInt8.ofNat x.toNat := by
    refine List.ext_getElem (by simp [lets]) fun j h1 h2 => ?_
    have hj : j < s.size := by simpa using h1
    simp only [lets, List.getElem_map, List.getElem_range, Int.toNat_natCast, (byteS_single s j hj).2.1]
    show s[j] = _
    exact (UInt8.ofNat_toNat).symm
  unfold strOfNums
  rw [← hd]

set_option maxRecDepth 100000 in
set_option maxHeartbeats 4000000 in
theorem leafTexts_walk (s : ByteArray) (hs : s.size ≤ 140737488351232) (K : Int) (_ : -9223372036854775808 ≤ K) (_ : K ≤ 9223372036854775807) (w : World) :
    Calls Try.prog 15 #[.string s, .int .i64 K] w fun e w' => e = .returned (.bool true) ∧ Below w.heap.size w w' := by
  by_cases hf : ((s.size : Nat) : Int) ≤ 100
  · have hle : s.size ≤ 1000 := by omega
    have l1 := byteS_letters s
    have l2 := byteS_plain s
    have l3 := byteS_bound s
    have l4 := byteS_txt s
    have L1 := Lib.hid l1
    have L2 := Lib.hid l2
    have L3 := Lib.hid l3
    have L4 := Lib.hid l4
    clear l1 l2 l3 l4
    go_enter Try.func15, Try.ntmps15
    go_wp2_with fail
    refine (text_any s hle K _).mono ?_
    rintro e w1 ⟨ad, cap, rfl, ho1, hb1⟩
    have hl := HoldsL.new w1 ad s.size cap K
    have hA : Below w1.heap.size w1 (w1.alloc (.cells #[.slice ad s.size cap, .int .i64 K] 43)) := (Below.refl _ _).alloc (Nat.le_refl _) _
    have hR := ((rowC_of_own ho1).below hA (Nat.le_refl _)).mono hA.size
    have HB := hb1.trans (hA.mono hb1.size)
    clear ho1 hb1
    go_wp2_with (go_at_call 74; refine (letters_any ad s.size cap K (byteS s) (by omega) _ hR).mono ?_; rw [L1.out, L4.out]; rintro e w2 ⟨rfl, hb2⟩)
    have hl2 := hl.below hb2 hl.2.2
    have hR2 := (hR.below hb2 (Nat.le_refl _)).mono hb2.size
    have HB2 := HB.trans (hb2.mono HB.size)
    clear hl HB hR hb2 hA
    obtain ⟨c0, c1, cl⟩ := hl2
    have sm := al_same s.size (byteS s) K
    go_region_held3 (fun w' => Old w2 w') (first | with_reducible exact Old.start _ | with_reducible exact Old.calld (Old.refl _) (by assumption) | with_reducible exact Old.call (by assumption) (by assumption)) (first | (go_at_call 67; refine (alive07 _).mono ?_; rintro e w' ⟨rfl, hb'⟩) | (go_at_call 76; refine (rtext_any s hle K _).mono ?_; rintro e w' ⟨ad', cap', rfl, ho', hb'⟩; have hR' := rowC_of_own ho') | (go_at_call 75; refine (rsame_any ad s.size cap K (byteS s) _ s.size _ K (byteS s) (by omega) (by omega) _ ((hR2.below (show Old w2 _ by with_reducible assumption).2.2.2 (Nat.le_refl _)).mono (show Old w2 _ by with_reducible assumption).2.2.1) (by assumption)).mono ?_; rw [sm]; rintro e w' ⟨rfl, hb'⟩) | (go_at_call 69; refine (plain_any ad s.size cap K (byteS s) (by omega) _ ((hR2.below (show Old w2 _ by with_reducible assumption).2.2.2 (Nat.le_refl _)).mono (show Old w2 _ by with_reducible assumption).2.2.1)).mono ?_; rw [L2.out]; rintro e w' ⟨rfl, hb'⟩) | (go_at_call 71; refine (bound_any ad s.size cap K (byteS s) (by omega) _ ((hR2.below (show Old w2 _ by with_reducible assumption).2.2.2 (Nat.le_refl _)).mono (show Old w2 _ by with_reducible assumption).2.2.1)).mono ?_; rw [L3.out]; rintro e w' ⟨rfl, hb'⟩))
    go_wp2
    go_ret
    exact ⟨rfl, HB2.trans ((show Old w2 _ by assumption).2.2.2.mono HB2.size)⟩
  · have hgt : (100 : Int) < (s.size : Nat) := by omega
    go_enter Try.func15, Try.ntmps15
    go_wp2_with (go_at_call 67; refine (alive07 _).mono ?_; rintro e w2 ⟨rfl, hb2⟩)
    go_ret
    exact ⟨rfl, hb2⟩
end Go.Proofs.Ytkhcjjdamphbfaa
