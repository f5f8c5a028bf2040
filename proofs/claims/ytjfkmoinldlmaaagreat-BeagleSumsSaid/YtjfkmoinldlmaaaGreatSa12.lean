/- Walks of the leaf package and of beagleref07: Letters, Kinds. -/
import Derived.Test.YtjfkmoinldlmaaaGreatSa06
import Derived.Test.YtjfkmoinldlmaaaGreatSa10
import Derived.Laws.BytesArg
import Derived.BigQuiet
import Derived.Deep.QuietTactic
namespace Go.Proofs.YtjfkmoinldlmaaaGreat
open Go.RowKit

theorem u8s_get (l : List Int) (i : Nat) (h : i < l.length) : (u8s l)[i]? = some (.int .u8 (l.getD i 0)) := by
  simp [u8s, List.getElem?_map, List.getElem?_eq_getElem h, List.getD]
set_option maxRecDepth 100000 in
/-- Bytes that the call has laid, as a text. -/
theorem conv_own {w : World} {base : Nat} {v : Value} (xs : List Int) {n : Nat} (hn : xs.length = n) (h : w.ownsRow base 5 1 v n (u8s xs)) : (convert 118 9 v).run Tryz.prog w = .ok (.string (strOfNums xs)) w := by
  subst hn
  rcases h.2 with ⟨rfl, hx⟩ | ⟨g, cap, cur, rfl, _⟩
  · have hx0 : xs = [] := by
      cases xs with
      | nil => rfl
      | cons a r => simp at hx
    subst hx0
    exact run_convert_bytes_nil w 118 5 Tryz.underlying118 Tryz.underlying5 0 0 9 Tryz.underlying9
  · refine run_convert_bytes_arg w 118 5 Tryz.underlying118 Tryz.underlying5 g 0 xs.length cap xs rfl (fun i hi => ?_) 9 Tryz.underlying9
    rw [Nat.zero_add, h.cellAt i (by omega)]
    exact u8s_get xs i hi

/-- The text of a leaf of letters. -/
def txt (L : Nat → Nat → Bool) (n : Nat) : ByteArray := if lettersB L n then strOfNums (lets L n) else ByteArray.empty

set_option maxRecDepth 100000 in
set_option maxHeartbeats 4000000 in
theorem letters_any (ad : Option Addr) (n cap : Nat) (K : Int) (L : Nat → Nat → Bool) (hn : (n : Int) ≤ 100000) (w : World) (hR : RowC w ad n L w.heap.size) :
    Calls Tryz.prog 135 #[lv ad n cap K] w fun e w' => e = .returned (.tuple #[.string (txt L n), .bool (lettersB L n)]) ∧ Below w.heap.size w w' := by
  have hl := HoldsL.new w ad n cap K
  go_enter Tryz.func135, Tryz.ntmps135
  go_wp2_with fail
  obtain ⟨W0, hW0⟩ : ∃ W0 : World, w.alloc (.cells #[.slice ad n cap, .int .i64 K] 52) = W0 := ⟨_, rfl⟩
  have HB : Below w.heap.size w W0 := by subst hW0; exact (Below.refl _ _).alloc (Nat.le_refl _) _
  have hs0 : W0.heap.size = w.heap.size + 1 := by subst hW0; simp
  have hR0 := hR.below HB (Nat.le_refl _)
  rw [hW0] at hl ⊢
  clear hW0 hR
  obtain ⟨c0, c1, l0⟩ := hl
  go_wp2_with fail
  go_loopw [4, 12] (fun v j wr => ∃ k : Nat, k ≤ n ∧ j = .int .i64 k ∧ lettersB L k = true ∧ wr.ownsRow (w.heap.size + 1) 5 1 v k (u8s (lets L k)) ∧ Below (w.heap.size + 1) W0 wr) (fun _ j _ => n - (intOf j).toNat)
  case atStart => exact ⟨0, by omega, rfl, rfl, World.ownsRow_nil _ _ _ _, Below.refl _ _⟩
  case round =>
    obtain ⟨k, hk, rfl, hp, hown, hb⟩ := hrel
    have hR1 := hR0.below hb (by omega)
    have hz := hb.size
    have HB1 := HB.trans (hb.mono (by omega))
    have HP := Lib.hid hp
    clear hp
    by_cases hlt : k < n
    · obtain ⟨b, o, rfl, hbm, e0, e1, e2, e3⟩ := hR1.at hlt
      clear hR1 hR0
      have hlti : (k : Int) < n := by omega
      have hA : Below wr.heap.size wr (wr.alloc (.cells #[.int .u64 (wd (L k) 0 : Nat), .int .u64 (wd (L k) 1 : Nat), .int .u64 (wd (L k) 2 : Nat), .int .u64 (wd (L k) 3 : Nat)] 100)) := (Below.refl _ _).alloc (Nat.le_refl _) _
      cases hq : one (L k)
      · go_wp2_with (first | (go_at_call 177; refine (single_any _ _).mono ?_; rw [hq]; rintro e w1 ⟨rfl, hb1⟩))
        try rw [Exit.noGoto_ret]
        go_ret2
        have hfl : lettersB L n = false := allN_miss hlt hq
        exact ⟨by unfold txt; rw [hfl]; rfl, HB1.trans ((hA.trans (hb1.mono hA.size)).mono (by omega))⟩
      · go_wp2_with (first | (go_at_call 177; refine (single_any _ _).mono ?_; rw [hq]; rintro e w1 ⟨rfl, hb1⟩; have hown1 := own_below hown (hA.trans (hb1.mono hA.size)); have hz1 := (hA.trans (hb1.mono hA.size)).size) | (at_builtin; refine wpList_app elem118 rfl _ _ rfl rfl hown1 [.int .u8 (sgl (L k) : Nat)] rfl rfl (by simp [Value.oneCell']) (by unfold maxLen; omega) (by omega) (by omega) ?_; intro v3 w3 hown3 hb3))
        refine ⟨⟨k + 1, by omega, by go_num, ?_, by rw [lets_succ, u8s_snoc]; exact hown3, (hb.trans ((hA.trans (hb1.mono hA.size)).mono (by omega))).trans hb3⟩, by simp [intOf]; omega⟩
        show (lettersB L k && one (L k)) = true
        rw [HP.out, hq]; rfl
    · obtain rfl : k = n := by omega
      have hcv := conv_own (lets L k) (lets_length L k) hown
      go_wp2
      go_ret2
      exact ⟨by unfold txt; rw [HP.out]; rfl, HB1⟩

theorem inL_snoc (S T : Nat → Bool) (l : List (Nat → Bool)) : inL S (l ++ [T]) = (inL S l || clsEq T S) := by simp [inL]

set_option maxRecDepth 100000 in
set_option maxHeartbeats 4000000 in
theorem kinds_any (ad : Option Addr) (n cap : Nat) (K : Int) (L : Nat → Nat → Bool) (hn : (n : Int) ≤ 100000) (w : World) (hR : RowC w ad n L w.heap.size) :
    Calls Tryz.prog 179 #[lv ad n cap K] w fun e w' => ∃ v, e = .returned v ∧ w'.ownsRow w.heap.size 100 4 v (kindsTo L n).length (clsL (kindsTo L n)) ∧ Below w.heap.size w w' := by
  have hl := HoldsL.new w ad n cap K
  have hmm := @run_makeMap Tryz.prog
  go_enter Tryz.func179, Tryz.ntmps179
  go_wp2_with fail
  obtain ⟨W0, hW0⟩ : ∃ W0 : World, w.alloc (.cells #[.slice ad n cap, .int .i64 K] 52) = W0 := ⟨_, rfl⟩
  have HB : Below w.heap.size w W0 := by subst hW0; exact (Below.refl _ _).alloc (Nat.le_refl _) _
  have hs0 : W0.heap.size = w.heap.size + 1 := by subst hW0; simp
  have hR0 := hR.below HB (Nat.le_refl _)
  rw [hW0] at hl ⊢
  clear hW0 hR
  have hM0 := MapS.made W0
  rw [hs0] at hM0
  refine (full_any _).mono ?_
  rintro e w1 ⟨rfl, hb1⟩
  have hM1 := hM0.below hb1
  have hl1 := hl.below ((Below.refl _ W0).alloc (Nat.le_refl _) _ |>.trans (hb1.mono (by simp))) (by omega)
  have hbb : Below (w.heap.size + 1) W0 w1 := (Below.refl _ W0).alloc (by omega) _ |>.trans (hb1.mono (by simp; omega))
  have hz1 : w.heap.size + 2 ≤ w1.heap.size := by have := hb1.size; simp at this; omega
  clear hb1 hM0 hl
  go_wp2_with (refine wpList_put _ rfl _ _ _ (.inr rfl) rfl hM1 (by unfold maxLen; omega) fullS rfl rfl ?_; intro w2 hM2 hg2; have hl2 : HoldsL w2 w.heap.size ad n cap K := hl1.below (grown_below (base := w.heap.size + 1) hg2 (by omega) (fun k hk => by cases hk; exact Nat.le_refl _)) (by omega); have c0 := hl2.1)
  have hbb2 : Below (w.heap.size + 1) W0 w2 := hbb.trans (grown_below hg2 (by omega) (fun k hk => by cases hk; exact Nat.le_refl _))
  have hz2 : w.heap.size + 2 ≤ w2.heap.size := Nat.le_trans hz1 hg2.size
  have hM2' : MapS w2 (w.heap.size + 1) 1 (fun T => clsEq fullS T || inL T (kindsTo L 0)) := hM2.congr (by omega) (fun T => by simp [kindsTo, inL])
  clear hM1 hM2 hg2 hl1 hbb hl2
  go_loopw [4, 13] (fun v j wr => ∃ k : Nat, k ≤ n ∧ j = .int .i64 k ∧ MapS wr (w.heap.size + 1) (k + 1) (fun T => clsEq fullS T || inL T (kindsTo L k)) ∧ wr.ownsRow (w.heap.size + 2) 100 4 v (kindsTo L k).length (clsL (kindsTo L k)) ∧ Below (w.heap.size + 1) W0 wr ∧ w.heap.size + 2 ≤ wr.heap.size) (fun _ j _ => n - (intOf j).toNat)
  case atStart => exact ⟨0, by omega, rfl, hM2', World.ownsRow_nil _ _ _ _, hbb2, hz2⟩
  case round =>
    obtain ⟨k, hk, rfl, hM, hown, hb, hz⟩ := hrel
    have hR1 := hR0.below hb (by omega)
    have hlen := kindsTo_length L k
    by_cases hlt : k < n
    · obtain ⟨b, o, rfl, hbm, e0, e1, e2, e3⟩ := hR1.at hlt
      clear hR1 hR0 c0
      have hlti : (k : Int) < n := by omega
      have hA : Below wr.heap.size wr (wr.alloc (.cells #[.int .u64 (wd (L k) 0 : Nat), .int .u64 (wd (L k) 1 : Nat), .int .u64 (wd (L k) 2 : Nat), .int .u64 (wd (L k) 3 : Nat)] 100)) := (Below.refl _ _).alloc (Nat.le_refl _) _
      have hN := HoldsC.new wr (L k)
      have hM1 := hM.alloc (.cells #[.int .u64 (wd (L k) 0 : Nat), .int .u64 (wd (L k) 1 : Nat), .int .u64 (wd (L k) 2 : Nat), .int .u64 (wd (L k) 3 : Nat)] 100)
      have hown1 := hown.alloc (.cells #[.int .u64 (wd (L k) 0 : Nat), .int .u64 (wd (L k) 1 : Nat), .int .u64 (wd (L k) 2 : Nat), .int .u64 (wd (L k) 3 : Nat)] 100)
      have hb1 := hb.trans (hA.mono (by omega))
      have hstep : kindsTo L (k + 1) = if clsEq (L k) fullS || inL (L k) (kindsTo L k) then kindsTo L k else kindsTo L k ++ [L k] := rfl
      have hcm := clsEq_comm (L k) fullS
      rw [hcm] at hstep
      clear hcm
      have hN' := Lib.hid hN
      obtain ⟨⟨d0, d1, d2, d3⟩, -, dl⟩ := hN
      cases hq : (clsEq fullS (L k) || inL (L k) (kindsTo L k))
      · rw [hq, if_neg (by decide)] at hstep
        have HS := Lib.hid hstep
        have HQ := Lib.hid hq
        clear hstep hq
        have hne : some wr.heap.size ≠ some (w.heap.size + 1) := by intro e; simp at e; omega
        go_wp2_with (first | (refine wpList_look _ rfl _ _ rfl rfl hM1 (L k) rfl false HQ.out ?_) | (refine wpList_put _ rfl _ _ _ (.inl rfl) rfl hM1 (by unfold maxLen; omega) (L k) rfl rfl ?_; intro w3 hM3 hg3; obtain ⟨⟨d0, d1, d2, d3⟩, -, dl⟩ := HoldsC.grown hN'.out hg3 hne; have hz3 := hg3.size; have hown3 := hown1.kept hg3 (.inr fun e => by have := (hown1.lt _ e).1; omega)) | (at_builtin; refine wpList_app elem50 rfl _ _ rfl rfl hown3 [.int .u64 (wd (L k) 0 : Nat), .int .u64 (wd (L k) 1 : Nat), .int .u64 (wd (L k) 2 : Nat), .int .u64 (wd (L k) 3 : Nat)] rfl rfl (by simp [Value.oneCell']) (by unfold maxLen; omega) (by omega) (by omega) ?_; intro v4 w4 hown4 hb4))
        have hM4 := MapS.of_block hM3 (hb4.block (w.heap.size + 1) (by omega))
        exact ⟨⟨k + 1, by omega, by go_num, hM4.congr (by omega) (fun T => by rw [HS.out, inL_snoc, Bool.or_assoc]), by rw [HS.out, clsL_snoc, List.length_append]; exact hown4,
          (hb1.trans (grown_below hg3 (by omega) (fun q hq => by cases hq; exact Nat.le_refl _))).trans (hb4.mono (by omega)), by have := hb4.size; omega⟩, by simp [intOf]; omega⟩
      · rw [hq, if_pos rfl] at hstep
        have HS := Lib.hid hstep
        have HQ := Lib.hid hq
        clear hstep hq
        go_wp2_with (first | (refine wpList_look _ rfl _ _ rfl rfl hM1 (L k) rfl true HQ.out ?_))
        exact ⟨⟨k + 1, by omega, by go_num, hM1.congr (by omega) (fun T => by rw [HS.out]), by rw [HS.out]; exact hown1, hb1, Nat.le_trans hz hA.size⟩, by simp [intOf]; omega⟩
    · obtain rfl : k = n := by omega
      go_wp2
      go_ret
      exact ⟨_, rfl, own_le hown (by omega), HB.trans (hb.mono (by omega))⟩
end Go.Proofs.YtjfkmoinldlmaaaGreat

/- Walk of beagleref07.Kinds. -/
namespace Go.Proofs.YtjfkmoinldlmaaaGreat
open Go.RowKit

theorem gc_snoc (l : List (Nat → Bool)) (T : Nat → Bool) (j : Nat) (hj : j < l.length) : gc (l ++ [T]) j = gc l j := by
  unfold gc
  rw [List.getElem?_append_left hj]
theorem inL_any (S : Nat → Bool) (l : List (Nat → Bool)) : inL S l = anyN (fun j => clsEq (gc l j) S) l.length := by
  rw [Bool.eq_iff_iff, anyN_iff]
  unfold inL
  rw [List.any_eq_true]
  constructor
  · rintro ⟨T, hT, h⟩
    obtain ⟨j, hj, rfl⟩ := List.getElem_of_mem hT
    exact ⟨j, hj, by unfold gc; rw [List.getElem?_eq_getElem hj]; exact h⟩
  · rintro ⟨j, hj, h⟩
    unfold gc at h
    rw [List.getElem?_eq_getElem hj] at h
    exact ⟨l[j], List.getElem_mem hj, h⟩

end Go.Proofs.YtjfkmoinldlmaaaGreat
