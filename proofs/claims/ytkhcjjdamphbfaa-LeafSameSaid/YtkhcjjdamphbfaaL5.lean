/- Walk of beagleref07.Kinds. -/
import Derived.Test.YtkhcjjdamphbfaaL4
import Derived.BigQuiet
import Derived.Deep.QuietTactic
namespace Go.Proofs.Ytkhcjjdamphbfaa
open Go.RowKit

theorem gc_snoc (l : List (Nat → Bool)) (T : Nat → Bool) (j : Nat) (hj : j < l.length) : gc (l ++ [T]) j = gc l j := by
  unfold gc
  rw [List.getElem?_append_left hj]
theorem inL_any (S : Nat → Bool) (l : List (Nat → Bool)) : inL S l = anyN (fun j => clsEq (gc l j) S) l.length := by
  rw [Bool.eq_iff_iff, anyN_iff]
  unfold inL
  rw [List.any_eq_true]
  constructor
  · rintro ⟨T, hT, h⟩
    obtain ⟨j, hj, rfl⟩ := List.getElem_of_mem hT
    exact ⟨j, hj, by unfold gc; rw [List.getElem?_eq_getElem hj]; exact h⟩
  · rintro ⟨j, hj, h⟩
    unfold gc at h
    rw [List.getElem?_eq_getElem hj] at h
    exact ⟨l[j], List.getElem_mem hj, h⟩

set_option maxRecDepth 100000 in
set_option maxHeartbeats 4000000 in
theorem rkinds_any (ad : Option Addr) (n cap : Nat) (K : Int) (L : Nat → Nat → Bool) (hn : (n : Int) ≤ 100000) (w : World) (hR : RowC w ad n L w.heap.size) :
    Calls Try.prog 81 #[lv ad n cap K] w fun e w' => ∃ v, e = .returned v ∧ w'.ownsRow w.heap.size 26 4 v (kindsTo L n).length (clsL (kindsTo L n)) ∧ Below w.heap.size w w' := by
  have hl := HoldsL.new w ad n cap K
  go_enter Try.func81, Try.ntmps81
  go_wp2_with fail
  obtain ⟨W0, hW0⟩ : ∃ W0 : World, w.alloc (.cells #[.slice ad n cap, .int .i64 K] 43) = W0 := ⟨_, rfl⟩
  have HB : Below w.heap.size w W0 := by subst hW0; exact (Below.refl _ _).alloc (Nat.le_refl _) _
  have hs0 : W0.heap.size = w.heap.size + 1 := by subst hW0; simp
  have hR0 := hR.below HB (Nat.le_refl _)
  rw [hW0] at hl ⊢
  clear hW0 hR
  go_loopw [3, 4] (fun v j wr => ∃ k : Nat, k ≤ n ∧ j = .int .i64 k ∧ wr.ownsRow (w.heap.size + 1) 26 4 v (kindsTo L k).length (clsL (kindsTo L k)) ∧ Below (w.heap.size + 1) W0 wr) (fun _ j _ => n - (intOf j).toNat)
  case atStart => exact ⟨0, by omega, rfl, World.ownsRow_nil _ _ _ _, Below.refl _ _⟩
  case round =>
    obtain ⟨k, hk, rfl, hown, hb⟩ := hrel
    have hR1 := hR0.below hb (by omega)
    have hl1 := hl.below hb (by omega)
    have hz := hb.size
    have hlen := kindsTo_length L k
    clear hR0 hl
    by_cases hlt : k < n
    · have hl1' := Lib.hid hl1
      have hR1' := Lib.hid hR1
      obtain ⟨b, o, rfl, hbm, e0, e1, e2, e3⟩ := hR1.at hlt
      clear hR1
      obtain ⟨c0, c1, cl⟩ := hl1
      have hlti : (k : Int) < n := by omega
      have hkk : (0 : Int) ≤ k := by omega
      have hstep : kindsTo L (k + 1) = if clsEq (L k) fullS || inL (L k) (kindsTo L k) then kindsTo L k else kindsTo L k ++ [L k] := rfl
      rw [inL_any] at hstep
      have HS := Lib.hid hstep
      clear hstep
      go_wp2_with (first | (go_at_call 112; refine (rfree_any _ _).mono ?_; rintro e w1 ⟨rfl, hb1⟩))
      have hown1 := own_below hown hb1
      have hB1 := hb.trans (hb1.mono (by omega))
      have hl2 := HoldsL.below hl1'.out hb1 (by omega)
      have hR2 := RowC.below hR1'.out hb1 (by omega)
      obtain ⟨ado, capo, rfl⟩ := own_slice hown1
      have hRo := rowC_of_list hown1
      clear hown hb e0 e1 e2 e3 c0 c1 cl hb1
      have hl3 := Lib.hid hl2
      have hR3 := Lib.hid hR2
      clear hl2 hR2 hl1' hR1'
      go_loopw [5, 6] (fun m q w2 => ∃ r : Nat, r ≤ (kindsTo L k).length ∧ q = .int .i64 r ∧ m = .bool (clsEq (L k) fullS || anyN (fun j => clsEq (gc (kindsTo L k) j) (L k)) r) ∧ Old w1 w2) (fun _ q _ => (kindsTo L k).length - (intOf q).toNat)
      case atStart => exact ⟨0, by omega, rfl, by simp [anyN], Old.refl _⟩
      case round =>
        obtain ⟨r, hr, rfl, rfl, hO⟩ := hrel
        have hlw := HoldsL.below hl3.out hO.2.2.2 (by have := hl3.out.2.2; omega)
        have hRw := RowC.below hR3.out hO.2.2.2 (by have := hl3.out.2.2; omega)
        have hRo2 := hRo.below hO.2.2.2 (Nat.le_refl _)
        have hownw := own_below hown1 hO.2.2.2
        have hbw := hB1.trans (hO.2.2.2.mono (by have := hB1.size; omega))
        have hsw := hbw.size
        have HO := Lib.hid hO
        clear hO hRo hown1 hB1
        obtain ⟨c0, c1, cl⟩ := hlw
        obtain ⟨b', o', hbo, hbm', e0, e1, e2, e3⟩ := hRw.at hlt
        cases hbo
        clear hRw
        by_cases hlr : r < (kindsTo L k).length
        · have hlri : (r : Int) < (kindsTo L k).length := by omega
          have hrr : (0 : Int) ≤ r := by omega
          have hnx : anyN (fun j => clsEq (gc (kindsTo L k) j) (L k)) (r + 1) = (anyN (fun j => clsEq (gc (kindsTo L k) j) (L k)) r || clsEq (gc (kindsTo L k) r) (L k)) := rfl
          obtain ⟨bq, oq, rfl, hbq, f0, f1, f2, f3⟩ := hRo2.at hlr
          clear hRo2
          have HN := Lib.hid hnx
          clear hnx
          cases hm : (clsEq (L k) fullS || anyN (fun j => clsEq (gc (kindsTo L k) j) (L k)) r)
          · have HM := Lib.hid hm
            clear hm
            cases hq : clsEq (gc (kindsTo L k) r) (L k)
            · go_wp2_with fail
              go_region
              go_wp2
              exact ⟨⟨r + 1, by omega, by go_num, by rw [HN.out, ← Bool.or_assoc, HM.out, hq]; rfl, Old.trans HO.out (Old.of (below_drewN (Below.refl _ _) _))⟩, by simp [intOf]; omega⟩
            · go_wp2_with fail
              go_region
              go_wp2
              exact ⟨⟨r + 1, by omega, by go_num, by rw [HN.out, ← Bool.or_assoc, HM.out, hq]; rfl, Old.trans HO.out (Old.of (below_drewN (Below.refl _ _) _))⟩, by simp [intOf]; omega⟩
          · have HM := Lib.hid hm
            clear hm
            go_wp2_with fail
            first | (go_quiet (fail)) | fail
            go_wp2
            exact ⟨⟨r + 1, by omega, by go_num, by rw [HN.out, ← Bool.or_assoc, HM.out]; rfl, Old.trans HO.out (Old.of (below_drewN (Below.refl _ _) _))⟩, by simp [intOf]; omega⟩
        · obtain rfl : r = (kindsTo L k).length := by omega
          clear hRo2
          cases hm : (clsEq (L k) fullS || anyN (fun j => clsEq (gc (kindsTo L k) j) (L k)) (kindsTo L k).length)
          · have HM := Lib.hid hm
            clear hm
            go_wp2_with (first | (at_builtin; refine wpList_app elem41 rfl _ _ rfl rfl hownw [.int .u64 (wd (L k) 0 : Nat), .int .u64 (wd (L k) 1 : Nat), .int .u64 (wd (L k) 2 : Nat), .int .u64 (wd (L k) 3 : Nat)] rfl rfl (by simp [Value.oneCell']) (by unfold maxLen; omega) (by omega) (by omega) ?_; intro v4 w4 hown4 hb4))
            exact ⟨⟨k + 1, by omega, by go_num, by rw [HS.out, HM.out, if_neg (by decide), clsL_snoc, List.length_append]; exact hown4, hbw.trans hb4⟩, by simp [intOf]; omega⟩
          · have HM := Lib.hid hm
            clear hm
            go_wp2
            exact ⟨⟨k + 1, by omega, by go_num, by rw [HS.out, HM.out, if_pos rfl]; exact hownw, hbw⟩, by simp [intOf]; omega⟩
    · obtain rfl : k = n := by omega
      obtain ⟨c0, c1, cl⟩ := hl1
      go_wp2
      go_ret
      exact ⟨_, rfl, own_le hown (by omega), HB.trans (hb.mono (by omega))⟩
end Go.Proofs.Ytkhcjjdamphbfaa
