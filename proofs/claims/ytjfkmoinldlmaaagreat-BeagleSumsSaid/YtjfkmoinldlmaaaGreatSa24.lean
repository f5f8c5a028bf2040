/- Walk of split.Parts. -/
import Derived.Test.YtjfkmoinldlmaaaGreatSa23
import Derived.Laws.EntriesVeiled
namespace Go.Proofs.YtjfkmoinldlmaaaGreat
open Go.RowKit Go.Shelf

set_option maxRecDepth 100000 in
set_option maxHeartbeats 8000000 in
theorem parts_split (ad : Option Addr) (n cap : Nat) (K least : Int) (L : Nat → Nat → Bool) (hn : (n : Int) ≤ 1000) (w : World) (hR : RowC w ad n L w.heap.size) :
    Calls Tryz.prog 146 #[lv ad n cap K, .int .i64 least] w fun e w' => ∃ ad1 cap1 ad2 cap2, e = .returned (.tuple #[.slice ad1 ((kindsTo L n).filter (frqB L n least)).length cap1, .slice ad2 ((kindsTo L n).filter fun S => !frqB L n least S).length cap2]) ∧
      RowC w' ad1 ((kindsTo L n).filter (frqB L n least)).length (gc ((kindsTo L n).filter (frqB L n least))) w'.heap.size ∧ RowC w' ad2 ((kindsTo L n).filter fun S => !frqB L n least S).length (gc ((kindsTo L n).filter fun S => !frqB L n least S)) w'.heap.size ∧ Below w.heap.size w w' := by
  have hkd := Lib.hid fun w' (h : RowC w' ad n L w'.heap.size) => kinds_any ad n cap K L (by omega) w' h
  have hkl := kindsTo_length L n
  have hfr := Lib.hid fun bl bx S w' h1 h2 h3 => frequent_any bl bx ad n cap K least L hn S w' h1 h2 h3
  have hnn : ((kindsTo L n).filter fun S => !(!frqB L n least S)) = (kindsTo L n).filter (frqB L n least) := by simp
  have hd1 := Lib.hid fun bf m ad' cap' w' g h1 h2 h3 h4 hf => hnn ▸ del194_any bf m (fun S => !frqB L n least S) (kindsTo L n) ad' cap' (by omega) w' g h1 h2 h3 h4 hf
  have hd2 := Lib.hid fun b1 b2 m ad' cap' w' g h1 h2 h3 h4 hf => del193_any b1 b2 m (frqB L n least) (kindsTo L n) ad' cap' (by omega) w' g h1 h2 h3 h4 hf
  have hcl := Lib.hid fun ad' cap' w' h => clone_cls ad' cap' (kindsTo L n) (by omega) w' h
  generalize hF1 : (kindsTo L n).filter (frqB L n least) = F1 at *
  generalize hF2 : ((kindsTo L n).filter fun S => !frqB L n least S) = F2 at *
  clear hF1 hF2 hnn
  generalize hks : kindsTo L n = ks at *
  clear hks
  have hL := HoldsL.new w ad n cap K
  have hX := Boxed.new (w.alloc (.cells #[.slice ad n cap, .int .i64 K] 52)) 3 (.int .i64 least)
  have hA : Below w.heap.size w ((w.alloc (.cells #[.slice ad n cap, .int .i64 K] 52)).alloc (.cells #[.int .i64 least] 3)) := ((Below.refl _ _).alloc (Nat.le_refl _) _).alloc (by simp) _
  have hL2 := hL.below ((Below.refl (w.heap.size + 1) _).alloc (by simp) (.cells #[.int .i64 least] 3)) (Nat.lt_succ_self _)
  rw [World.size_alloc] at hX
  have hsz : ((w.alloc (.cells #[.slice ad n cap, .int .i64 K] 52)).alloc (.cells #[.int .i64 least] 3)).heap.size = w.heap.size + 2 := by simp
  have HR0 := Lib.hid hR
  have hX3 := Boxed.new ((w.alloc (.cells #[.slice ad n cap, .int .i64 K] 52)).alloc (.cells #[.int .i64 least] 3)) 228 (.func (.func 193) #[] #[.pointer (some ⟨w.heap.size, 0, none⟩), .pointer (some ⟨w.heap.size + 1, 0, none⟩)])
  have hA3 := (Below.refl (w.heap.size + 2) ((w.alloc (.cells #[.slice ad n cap, .int .i64 K] 52)).alloc (.cells #[.int .i64 least] 3))).alloc (by omega) (.cells #[.func (.func 193) #[] #[.pointer (some ⟨w.heap.size, 0, none⟩), .pointer (some ⟨w.heap.size + 1, 0, none⟩)]] 228)
  have HL3 := Lib.hid (hL2.below hA3 (by omega))
  have HX1 := Lib.hid (Boxed.below hX hA3 (by omega))
  rw [hsz] at hX3
  have HX3 := Lib.hid hX3
  have HA3 := Lib.hid (hA.trans (hA3.mono (by omega)))
  obtain ⟨c0, c1, cl⟩ := id HL3.out
  have hsz3 : (((w.alloc (.cells #[.slice ad n cap, .int .i64 K] 52)).alloc (.cells #[.int .i64 least] 3)).alloc (.cells #[.func (.func 193) #[] #[.pointer (some ⟨w.heap.size, 0, none⟩), .pointer (some ⟨w.heap.size + 1, 0, none⟩)]] 228)).heap.size = w.heap.size + 3 := by simp
  have HSZ3 := Lib.hid hsz3
  clear hR hL hX hL2 hA hA3 hX3 hsz hsz3
  go_enter Tryz.func146, Tryz.ntmps146
  go_wp2_with fail
  generalize (((w.alloc (.cells #[.slice ad n cap, .int .i64 K] 52)).alloc (.cells #[.int .i64 least] 3)).alloc (.cells #[.func (.func 193) #[] #[.pointer (some ⟨w.heap.size, 0, none⟩), .pointer (some ⟨w.heap.size + 1, 0, none⟩)]] 228)) = W0 at HL3 HX1 HX3 HA3 c0 c1 cl HSZ3 ⊢
  have hz0 := HSZ3.out
  refine (hkd.out _ ((HR0.out.below HA3.out (Nat.le_refl _)).mono HA3.out.size)).mono ?_
  rintro e w1 ⟨v1, rfl, ho1, hb1⟩
  obtain ⟨adk, capk, rfl⟩ := own_slice ho1
  have HK1 := Lib.hid (rowC_of_list ho1)
  have hz1 := hb1.size
  have HB1 := Lib.hid (HA3.out.trans (hb1.mono HA3.out.size))
  have HL1 := Lib.hid (HL3.out.below hb1 cl)
  have HX1 := Lib.hid (Boxed.below HX1.out hb1 HX1.out.lt)
  have HX3 := Lib.hid (Boxed.below HX3.out hb1 HX3.out.lt)
  clear c0 c1 cl hb1 ho1 HL3
  have x3 := HX3.out.cell
  have x3l := HX3.out.lt
  -- the closures, wherever the boxes lie as they lay
  have HFQ : Hid (∀ S w', Below (w.heap.size + 3) w1 w' → Calls Tryz.prog 193 #[cv S, .pointer (some ⟨w.heap.size, 0, none⟩), .pointer (some ⟨w.heap.size + 1, 0, none⟩)] w' fun e w2 => e = .returned (.bool (frqB L n least S)) ∧ Below w'.heap.size w' w2) :=
    Lib.hid fun S w' hb => hfr.out _ _ S w' (HL1.out.below hb (by omega)) (((HR0.out.below HB1.out (Nat.le_refl _)).below hb (by omega)).mono (by have := hb.size; omega)) (Boxed.below HX1.out hb (by omega))
  have HRQ : Hid (∀ S w', Below (w.heap.size + 3) w1 w' → Calls Tryz.prog 194 #[cv S, .pointer (some ⟨w.heap.size + 2, 0, none⟩)] w' fun e w2 => e = .returned (.bool (!frqB L n least S)) ∧ Below w'.heap.size w' w2) :=
    Lib.hid fun S w' hb => rare_any _ _ _ (frqB L n least) S w' (Boxed.below HX3.out hb (by omega)) fun w2 h2 => HFQ.out S w2 (hb.trans (h2.mono (by have := hb.size; omega)))
  have HKd : Hid (RowC w1.drew adk ks.length (gc ks) w1.drew.heap.size) := Lib.hid HK1.out
  have hw13 : w.heap.size + 3 ≤ w1.heap.size := by omega
  have x3d : w1.drew.cell? ⟨w.heap.size + 2, 0, none⟩ = some (.func (.func 193) #[] #[.pointer (some ⟨w.heap.size, 0, none⟩), .pointer (some ⟨w.heap.size + 1, 0, none⟩)]) := x3
  go_wp2_with fail
  go_region_held3 (fun w' => w'.cell? ⟨w.heap.size + 2, 0, none⟩ = some (.func (.func 193) #[] #[.pointer (some ⟨w.heap.size, 0, none⟩), .pointer (some ⟨w.heap.size + 1, 0, none⟩)])) (with_reducible assumption)
    (first
      | (go_at_call 161; have hKK := hRf; refine (hcl.out _ _ _ ((HK1.out.below hOD (Nat.le_refl _)).mono hOD.size)).mono ?_; rintro e wC ⟨vC, rfl, hoC, hbC⟩; obtain ⟨adC, capC, rfl⟩ := own_slice hoC; obtain ⟨gC, gC1, gC2, gC3, gC4⟩ := blkC_of_own hbC.size hoC; have xC := (hbC.cell (p := ⟨w.heap.size + 2, 0, none⟩) (by have := hOD.size; show w.heap.size + 2 < _; omega)).trans xD)
      | (go_at_call 161; refine (hcl.out _ _ _ HKd.out).mono ?_; rintro e wA ⟨vA, rfl, hoA, hbA⟩; obtain ⟨adA, capA, rfl⟩ := own_slice hoA; obtain ⟨gA, gA1, gA2, gA3, gA4⟩ := blkC_of_own hbA.size hoA; have xA := (hbA.cell (p := ⟨w.heap.size + 2, 0, none⟩) x3l).trans x3)
      | (go_at_call 195; refine (hd2.out _ _ (w.heap.size + 3) _ _ _ gC (Nat.le_trans (Nat.le_trans hw13 hOD.size) gC1) gC3 gC4 gC2 (fun S w' hb => HFQ.out S w' ((hOD.mono hw13).trans ((hbC.mono (Nat.le_trans hw13 hOD.size)).trans hb)))).mono ?_; rintro e wE ⟨adG, capG, rfl, hRg, hbE⟩; have xE := (hbE.cell (p := ⟨w.heap.size + 2, 0, none⟩) (Nat.lt_of_lt_of_le x3l (Nat.le_trans hOD.size gC1))).trans xC; have hDE : Below wD.heap.size wD wE := hbC.trans (hbE.mono gC1))
      | (go_at_call 195; refine (hd1.out _ (w.heap.size + 3) _ _ _ gA (Nat.le_trans hw13 gA1) gA3 gA4 gA2 (fun S w' hb => HRQ.out S w' (((Below.refl _ _).drew.trans (hbA.mono hw13)).trans hb))).mono ?_; rintro e wD ⟨adF, capF, rfl, hRf, hbD⟩; have xD := (hbD.cell (p := ⟨w.heap.size + 2, 0, none⟩) (Nat.lt_of_lt_of_le x3l gA1)).trans xA; have hOD : Below w1.heap.size w1 wD := ((Below.refl _ _).drew.trans hbA).trans (hbD.mono gA1)))
  have hRF := (hRf.below hDE (Nat.le_refl _)).mono hDE.size
  have hBE := HB1.out.trans ((hOD.trans (hDE.mono hOD.size)).mono HB1.out.size)
  go_wp2_with fail
  go_ret2
  exact ⟨_, _, _, _, rfl, hRF, hRg, hBE⟩
end Go.Proofs.YtjfkmoinldlmaaaGreat

/- The counts by frequent kinds and by bytes are the counts element by element: plain. -/
namespace Go.Proofs.YtjfkmoinldlmaaaGreat

/-- Is a byte not missed by element j, of one of some kinds? -/
def memb (L : Nat → Nat → Bool) (ks : List (Nat → Bool)) (n j b : Nat) : Bool := decide (j < n) && (L j b && inL (L j) ks)
/-- The first k elements that do not miss a byte. -/
def rareTo (L : Nat → Nat → Bool) (ks : List (Nat → Bool)) (b : Nat) : Nat → List Int
  | 0 => []
  | k + 1 => if L k b && inL (L k) ks then rareTo L ks b k ++ [(k : Int)] else rareTo L ks b k
theorem rareTo_length (L : Nat → Nat → Bool) (ks : List (Nat → Bool)) (b k : Nat) : (rareTo L ks b k).length ≤ k := by
  induction k with
  | zero => exact Nat.le_refl _
  | succ k ih => simp only [rareTo]; split <;> (try rw [List.length_append, List.length_singleton]) <;> omega
theorem rareTo_mem (L : Nat → Nat → Bool) (ks : List (Nat → Bool)) (b k : Nat) (x : Int) : x ∈ rareTo L ks b k ↔ ∃ j : Nat, x = j ∧ j < k ∧ (L j b && inL (L j) ks) = true := by
  induction k with
  | zero => simp [rareTo]
  | succ k ih =>
    simp only [rareTo]
    by_cases h : (L k b && inL (L k) ks) = true
    · rw [if_pos h, List.mem_append, ih, List.mem_singleton]
      constructor
      · rintro (⟨j, rfl, hj, hc⟩ | rfl)
        · exact ⟨j, rfl, by omega, hc⟩
        · exact ⟨k, rfl, by omega, h⟩
      · rintro ⟨j, rfl, hj, hc⟩
        by_cases he : j = k
        · subst he; exact .inr rfl
        · exact .inl ⟨j, rfl, by omega, hc⟩
    · rw [if_neg h, ih]
      constructor
      · rintro ⟨j, rfl, hj, hc⟩; exact ⟨j, rfl, by omega, hc⟩
      · rintro ⟨j, rfl, hj, hc⟩
        by_cases he : j = k
        · subst he; exact absurd hc h
        · exact ⟨j, rfl, by omega, hc⟩
theorem rareTo_nodup (L : Nat → Nat → Bool) (ks : List (Nat → Bool)) (b k : Nat) : (rareTo L ks b k).Nodup := by
  induction k with
  | zero => exact List.nodup_nil
  | succ k ih =>
    simp only [rareTo]
    split
    · rw [List.nodup_append]
      refine ⟨ih, List.nodup_cons.2 ⟨List.not_mem_nil, List.nodup_nil⟩, fun a ha c hc => ?_⟩
      obtain ⟨j, rfl, hj, -⟩ := (rareTo_mem L ks b k a).1 ha
      rw [List.mem_singleton] at hc
      omega
    · exact ih
/-- What the bytes ahead of i do not miss of the leaf at k. -/
def rareN (t : ByteArray) (L : Nat → Nat → Bool) (ks : List (Nat → Bool)) (n i k : Nat) : Nat := cntN (fun i' => decide (k ≤ i') && memb L ks n (i' - k) (tb t i')) i
/-- .. and the first q elements that do not miss byte i. -/
def rareQ (t : ByteArray) (L : Nat → Nat → Bool) (ks : List (Nat → Bool)) (n i q k : Nat) : Nat := rareN t L ks n i k + bit (decide (k ≤ i) && decide (((i : Int) - k) ∈ (rareTo L ks (tb t i) n).take q))
theorem rareQ_zero (t : ByteArray) (L : Nat → Nat → Bool) (ks : List (Nat → Bool)) (n i k : Nat) : rareQ t L ks n i 0 k = rareN t L ks n i k := by simp [rareQ, bit]
theorem rareQ_all (t : ByteArray) (L : Nat → Nat → Bool) (ks : List (Nat → Bool)) (n i k : Nat) : rareQ t L ks n i (rareTo L ks (tb t i) n).length k = rareN t L ks n (i + 1) k := by
  unfold rareQ rareN
  rw [List.take_length]
  show _ = cntN _ i + (if decide (k ≤ i) && memb L ks n (i - k) (tb t i) then 1 else 0)
  congr 1
  unfold bit
  congr 1
  rw [eq_iff_iff, Bool.and_eq_true, Bool.and_eq_true, decide_eq_true_eq, decide_eq_true_eq]
  refine and_congr_right fun hk => ?_
  rw [rareTo_mem]
  unfold memb
  rw [Bool.and_eq_true, decide_eq_true_eq]
  constructor
  · rintro ⟨j, hj, hlt, hc⟩
    obtain rfl : j = i - k := by omega
    exact ⟨hlt, hc⟩
  · rintro ⟨hlt, hc⟩
    exact ⟨i - k, by omega, hlt, hc⟩
theorem rareQ_step (t : ByteArray) (L : Nat → Nat → Bool) (ks : List (Nat → Bool)) (n i q k j : Nat) (hq : q < (rareTo L ks (tb t i) n).length) (hj : gi (rareTo L ks (tb t i) n) q = (j : Nat)) : rareQ t L ks n i (q + 1) k = rareQ t L ks n i q k + bit (decide (j ≤ i) && decide (k = i - j)) := by
  unfold rareQ
  have hgj : (rareTo L ks (tb t i) n)[q] = (j : Int) := by rw [← hj]; simp [gi, hq]
  have hnd := rareTo_nodup L ks (tb t i) n
  have hnot : (j : Int) ∉ (rareTo L ks (tb t i) n).take q := by
    rw [← List.take_append_drop q (rareTo L ks (tb t i) n), List.nodup_append] at hnd
    intro hm
    refine hnd.2.2 _ hm _ ?_ rfl
    rw [List.drop_eq_getElem_cons hq, hgj]
    exact List.mem_cons_self
  rw [List.take_succ_eq_append_getElem hq, hgj, Nat.add_assoc]
  congr 1
  generalize (rareTo L ks (tb t i) n).take q = l at *
  by_cases hk : k ≤ i
  · by_cases he : (i : Int) - k = j
    · have h1 : k = i - j := by omega
      have h2 : j ≤ i := by omega
      rw [he]
      simp [h1, h2, hnot, bit]
    · have h1 : ¬ (j ≤ i ∧ k = i - j) := by omega
      have h2 : (decide (j ≤ i) && decide (k = i - j)) = false := by
        rw [Bool.and_eq_false_iff, decide_eq_false_iff_not, decide_eq_false_iff_not]; omega
      rw [h2]
      simp [he, bit]
  · have h2 : (decide (j ≤ i) && decide (k = i - j)) = false := by
      rw [Bool.and_eq_false_iff, decide_eq_false_iff_not, decide_eq_false_iff_not]; omega
    rw [h2]
    simp [hk, bit]
/-- In all, what some kinds find. -/
theorem rare_all (t : ByteArray) (L : Nat → Nat → Bool) (ks : List (Nat → Bool)) (n k : Nat) (hk : k + n ≤ t.size) : rareN t L ks n t.size k = cntN (fun j => L j (tb t (k + j)) && inL (L j) ks) n := by
  unfold rareN
  obtain ⟨r, hr⟩ : ∃ r, t.size = k + (n + r) := ⟨t.size - (k + n), by omega⟩
  rw [hr, cntN_add, cntN_add]
  have h1 : cntN (fun i' => decide (k ≤ i') && memb L ks n (i' - k) (tb t i')) k = 0 := (cntN_zero_iff _ _).2 fun i hi => by
    rw [decide_eq_false (by omega), Bool.false_and]
  have h3 : cntN (fun i => decide (k ≤ k + (n + i)) && memb L ks n (k + (n + i) - k) (tb t (k + (n + i)))) r = 0 := (cntN_zero_iff _ _).2 fun i hi => by
    unfold memb
    rw [decide_eq_false (show ¬ k + (n + i) - k < n by omega), Bool.false_and, Bool.and_false]
  rw [h1, h3, Nat.zero_add, Nat.add_zero]
  refine cntN_congr fun i hi => ?_
  unfold memb
  rw [decide_eq_true (show k ≤ k + i by omega), Nat.add_sub_cancel_left, decide_eq_true hi]
  rfl
/-- No class stands twice. -/
def apart : List (Nat → Bool) → Prop
  | [] => True
  | c :: l => inL c l = false ∧ apart l
theorem inL_comm_mem {S : Nat → Bool} {l : List (Nat → Bool)} : inL S l = true ↔ ∃ T, T ∈ l ∧ clsEq T S = true := by
  unfold inL; rw [List.any_eq_true]
theorem apart_filter (p : (Nat → Bool) → Bool) : ∀ l, apart l → apart (l.filter p)
  | [], _ => trivial
  | c :: l, h => by
    rw [List.filter_cons]
    split
    · refine ⟨?_, apart_filter p l h.2⟩
      cases hi : inL c (l.filter p) with
      | false => rfl
      | true =>
        obtain ⟨T, hT, hc⟩ := inL_comm_mem.1 hi
        have h1 := h.1
        rw [inL_comm_mem.2 ⟨T, (List.mem_filter.1 hT).1, hc⟩] at h1
        cases h1
    · exact apart_filter p l h.2
theorem apart_snoc (l : List (Nat → Bool)) (S : Nat → Bool) (h : apart l) (hs : inL S l = false) : apart (l ++ [S]) := by
  induction l with
  | nil => exact ⟨rfl, trivial⟩
  | cons c l ih =>
    simp only [inL, List.any_cons, Bool.or_eq_false_iff] at hs
    refine ⟨?_, ih h.2 hs.2⟩
    show inL c (l ++ [S]) = false
    rw [inL_one, h.1, Bool.false_or, clsEq_comm, hs.1]
theorem apart_kinds (L : Nat → Nat → Bool) (k : Nat) : apart (kindsTo L k) := by
  induction k with
  | zero => trivial
  | succ k ih =>
    by_cases h : (clsEq (L k) fullS || inL (L k) (kindsTo L k)) = true
    · rw [kindsTo_old h]; exact ih
    · rw [kindsTo_new h]
      rw [Bool.not_eq_true, Bool.or_eq_false_iff] at h
      exact apart_snoc _ _ ih h.2
theorem oneH_apart (S : Nat → Bool) (b : Nat) (hb : b < 256) : ∀ l, apart l → oneH S b l = bit (inL S l && S b)
  | [], _ => rfl
  | c :: l, h => by
    have h1 : oneH S b (c :: l) = bit (clsEq S c) * bit (c b) + oneH S b l := by simp [oneH]
    rw [h1, oneH_apart S b hb l h.2]
    have h2 : inL S (c :: l) = (clsEq c S || inL S l) := by simp [inL]
    rw [h2]
    cases hc : clsEq S c with
    | true =>
      rw [clsEq_comm c S, hc, inL_congr hc, h.1, clsEq_at hc hb]
      simp [bit]
    | false => rw [clsEq_comm c S, hc]; simp [bit]
theorem acc_apart (t : ByteArray) (L : Nat → Nat → Bool) (ks : List (Nat → Bool)) (h : apart ks) (i n : Nat) : accH t L n ks i = cntN (fun j => L j (tb t (i + j)) && inL (L j) ks) n := by
  induction n with
  | zero => rw [accH_zero]; rfl
  | succ n ih =>
    have hb : tb t (i + n) < 256 := by have := tb_le t (i + n); omega
    rw [accH_succ, ih, oneH_apart _ _ hb ks h]
    show _ = cntN _ n + (if L n (tb t (i + n)) && inL (L n) ks then 1 else 0)
    rw [Bool.and_comm]; rfl
theorem acc_parts (t : ByteArray) (L : Nat → Nat → Bool) (n i : Nat) (p : (Nat → Bool) → Bool) (ks : List (Nat → Bool)) : accH t L n (ks.filter p) i + accH t L n (ks.filter fun S => !p S) i = accH t L n ks i := by
  induction ks with
  | nil => rfl
  | cons c l ih =>
    have hc : ∀ m, accH t L n (c :: m) i = hitC t L n c i + accH t L n m i := fun m => by simp [accH]
    rw [hc, List.filter_cons, List.filter_cons]
    cases p c <;> simp [hc] <;> omega
theorem split_law (t : ByteArray) (L : Nat → Nat → Bool) (n i : Nat) (p : (Nat → Bool) → Bool) (hi : i + n ≤ t.size) :
    ((boundN L n : Nat) : Int) - ((rareN t L ((kindsTo L n).filter fun S => !p S) n t.size i : Nat) + (accH t L n ((kindsTo L n).filter p) i : Nat)) = (mis t L i n : Nat) := by
  rw [rare_all t L _ n i hi, ← acc_apart t L _ (apart_filter _ _ (apart_kinds L n)) i n]
  have := acc_parts t L n i p (kindsTo L n)
  have := acc_kinds t L n i
  omega
end Go.Proofs.YtjfkmoinldlmaaaGreat
