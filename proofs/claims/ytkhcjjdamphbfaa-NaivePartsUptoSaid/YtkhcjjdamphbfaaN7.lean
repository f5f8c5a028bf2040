/- Walk of naive.First: a range over a function that is left when something is found. -/
import Derived.Test.YtkhcjjdamphbfaaN6
namespace Go.Proofs.Ytkhcjjdamphbfaa
open Go.RowKit Go.Shelf
attribute [local go_sem] Oper.semAt_some

theorem plc_add (s a b : Nat) : plc s (a + b) = plc s a ++ plc (s + a) b := by
  unfold plc
  rw [List.range_add, List.map_append, List.map_map]
  congr 1
  refine List.map_congr_left fun x _ => ?_
  simp only [Function.comp_apply]
  omega
theorem fnd_append (t : ByteArray) (n : Nat) (L : Nat → Nat → Bool) (K : Int) (l m : List Nat) : fnd t n L K (l ++ m) = fnd t n L K l ++ fnd t n L K m := by
  unfold fnd
  rw [List.filter_append, List.map_append]
/-- The first place from s on at which few are missed. -/
def firstF (t : ByteArray) (n : Nat) (L : Nat → Nat → Bool) (K : Int) (s : Nat) : Option Int := (fnd t n L K (plc s (many t n L K s))).head?

set_option maxRecDepth 100000 in
set_option maxHeartbeats 4000000 in
theorem first_any (ad : Option Addr) (n cap : Nat) (K : Int) (L : Nat → Nat → Bool) (hn : (n : Int) ≤ 1000) (t : ByteArray) (ht : t.size ≤ 1000) (i : Int) (s : Nat) (hs : max 0 i = (s : Int)) (w : World) (hR : RowC w ad n L w.heap.size) :
    Calls Try.prog 59 #[lv ad n cap K, .string t, .int .i64 i] w fun e w' => e = .returned (.tuple #[.int .i64 ((firstF t n L K s).getD 0), .bool (firstF t n L K s).isSome]) ∧ Below w.heap.size w w' := by
  have hrv1 : ∀ k q, k < many t n L K s → fnd t n L K (plc s (k + 1)) = [q] → Value.tuple #[.int .i64 ((firstF t n L K s).getD 0), .bool (firstF t n L K s).isSome] = .tuple #[.int .i64 q, .bool true] := by
    intro k q hk h
    have e : firstF t n L K s = some q := by
      unfold firstF
      obtain ⟨r, hr⟩ : ∃ r, many t n L K s = (k + 1) + r := ⟨many t n L K s - (k + 1), by omega⟩
      rw [hr, plc_add, fnd_append, h]
      rfl
    rw [e]; rfl
  have hrv2 : fnd t n L K (plc s (many t n L K s)) = [] → Value.tuple #[.int .i64 ((firstF t n L K s).getD 0), .bool (firstF t n L K s).isSome] = .tuple #[.int .i64 0, .bool false] := by
    intro h
    have e : firstF t n L K s = none := by unfold firstF; rw [h]; rfl
    rw [e]; rfl
  generalize Value.tuple #[.int .i64 ((firstF t n L K s).getD 0), .bool (firstF t n L K s).isSome] = rv at hrv1 hrv2 ⊢
  have HRV1 := Lib.hid hrv1
  have HRV2 := Lib.hid hrv2
  clear hrv1 hrv2
  refine (callsIn_wide (n := 9)).1 ?_
  refine callsIn_of_wp_marks Try.func59 rfl trivial ?_ rfl
  simp only [Try.ntmps59, List.size_toArray, List.length_cons, List.length_nil, Nat.reduceAdd, Nat.reduceSub, Array.replicate_succ, Array.replicate_zero, List.push_toArray, List.append_toArray, List.nil_append, List.cons_append]
  gi_wp2_with fail
  have hL0 := HoldsL.new w ad n cap K
  obtain ⟨c, hc⟩ : ∃ c, c = w.heap.size := ⟨_, rfl⟩
  obtain ⟨W5, hW5⟩ : ∃ W5 : World, ((((w.alloc (.cells #[.slice ad n cap, .int .i64 K] 43)).alloc (.cells #[.string t] 9)).alloc (.cells #[.int .i64 0] 3)).alloc (.cells #[.bool false] 4)) = W5 := ⟨_, rfl⟩
  have hs5 : W5.heap.size = c + 4 := by subst hW5; subst hc; simp
  have q0 : W5.cell? ⟨c, 0, none⟩ = some (.slice ad n cap) := by subst hW5; subst hc; simp [go_sem]
  have q1 : W5.cell? ⟨c, 1, none⟩ = some (.int .i64 K) := by subst hW5; subst hc; simp [go_sem]
  have q2 : W5.cell? ⟨c + 1, 0, none⟩ = some (.string t) := by subst hW5; subst hc; simp [go_sem]
  have b3 : Boxed W5 (c + 2) 3 (.int .i64 0) := by subst hW5; subst hc; have h := (Boxed.new ((w.alloc (.cells #[.slice ad n cap, .int .i64 K] 43)).alloc (.cells #[.string t] 9)) 3 (.int .i64 0)).alloc (.cells #[.bool false] 4); simp only [World.size_alloc, Nat.add_assoc, Nat.reduceAdd] at h; exact h
  have b4 : Boxed W5 (c + 3) 4 (.bool false) := by subst hW5; subst hc; have h := Boxed.new (((w.alloc (.cells #[.slice ad n cap, .int .i64 K] 43)).alloc (.cells #[.string t] 9)).alloc (.cells #[.int .i64 0] 3)) 4 (.bool false); simp only [World.size_alloc, Nat.add_assoc, Nat.reduceAdd] at h; exact h
  have hB0 : Below w.heap.size w W5 := by
    subst hW5
    exact ((((Below.refl _ w).alloc (Nat.le_refl _) _).alloc (by simp) _).alloc (by simp; omega) _).alloc (by simp; omega) _
  rw [hW5]
  clear hW5 hL0
  refine ⟨trivial, ?_⟩
  refine (callsIn_wide.2 (placesF_any ad n cap K t i _)).mono ?_
  rintro e w1 ⟨rfl, hl, htx, hst, hsz, hb⟩
  dsimp only
  rw [hs5] at hl htx hst hsz hb ⊢
  simp only [Nat.add_assoc, Nat.reduceAdd] at hl htx hst hsz hb ⊢
  rw [← hc] at hB0 hR ⊢
  have hcw : c ≤ w.heap.size := by omega
  have HCW := Lib.hid hc
  clear hc
  have hR5 := hR.below hB0 (Nat.le_refl _)
  have hBw1 : Below c w w1 := hB0.trans (hb.mono (by omega))
  have hP : PlArgs w1 c (c + 4) ad n cap K L t i := ⟨⟨hl.1, hl.2.1⟩, htx, hst, hR5.below hb (by omega)⟩
  have p0 := (hb.cell (p := ⟨c, 0, none⟩) (by show c < c + 4; omega)).trans q0
  have p1 := (hb.cell (p := ⟨c, 1, none⟩) (by show c < c + 4; omega)).trans q1
  have p2 := (hb.cell (p := ⟨c + 1, 0, none⟩) (by show c + 1 < c + 4; omega)).trans q2
  have d3 := Boxed.below b3 hb (by omega)
  have d4 := Boxed.below b4 hb (by omega)
  clear q0 q1 q2 b3 b4 hb hl htx hst hs5 hR5 hB0
  gi_wp2_with fail
  refine wpIn_rangeFunc_ownG rfl (by omega) (gf := 125) (lb := #[.pointer (some ⟨c + 4, 0, none⟩), .pointer (some ⟨c + 6, 0, none⟩), .pointer (some ⟨c + 5, 0, none⟩)]) rfl trivial (enters_of Try.func125 (by kernel_rfl) rfl)
    (places_stops 8 c (c + 4) ad n cap K L hn t ht i s hs w1 (by omega) (by omega) hP) keeps3_t (keeps3_b (by omega) (by omega)) (Below.refl _ _) (fun _ => rfl)
    (fun pre W => ((W.cell? ⟨c, 0, none⟩ = some (.slice ad n cap) ∧ W.cell? ⟨c, 1, none⟩ = some (.int .i64 K) ∧ W.cell? ⟨c + 1, 0, none⟩ = some (.string t)) ∧ (fnd t n L K (pre.map fun q => pw t n L K s q) = [] ∧ Boxed W (c + 2) 3 (.int .i64 0) ∧ Boxed W (c + 3) 4 (.bool false))) ∧ Below c w1 W)
    (fun code pre W => (code = .ret ∧ ∃ q : Nat, fnd t n L K (pre.map fun q => pw t n L K s q) = [(q : Int)] ∧ Boxed W (c + 2) 3 (.int .i64 (q : Nat)) ∧ Boxed W (c + 3) 4 (.bool true)) ∧ Below c w1 W)
    (OwnFrom.and (OwnFrom.and (Own.from (fun s A B row hs hg hr => ⟨cell_kept hs.1 hg hr, cell_kept hs.2.1 hg hr, cell_kept hs.2.2 hg hr⟩) _) (Own.from (fun _ A B row hs hg hr => ⟨hs.1, boxed_own (c + 2) 3 (fun _ : Unit => (.int .i64 0)) () A B row hs.2.1 hg hr, boxed_own (c + 3) 4 (fun _ : Unit => (.bool false)) () A B row hs.2.2 hg hr⟩) _)) (ownFrom_below (by omega) (by omega)))
    (fun _ => OwnFrom.and (Own.from (fun _ A B row hs hg hr => ⟨hs.1, hs.2.imp fun q h => ⟨h.1, boxed_own (c + 2) 3 (fun _ : Unit => (.int .i64 (q : Nat))) () A B row h.2.1 hg hr, boxed_own (c + 3) 4 (fun _ : Unit => (.bool true)) () A B row h.2.2 hg hr⟩⟩) _) (ownFrom_below (by omega) (by omega)))
    ⟨⟨⟨p0, p1, p2⟩, rfl, d3, d4⟩, Below.refl _ _⟩
    (fun x => { tmps := #[lv ad n cap K, .string t, .int .i64 i, .pointer (some ⟨c, 0, none⟩), .pointer (some ⟨c + 1, 0, none⟩), undef, .pointer (some ⟨c + 2, 0, none⟩), .pointer (some ⟨c + 3, 0, none⟩), .int .i64 (pw t n L K s x : Nat), .agg #[.slice ad n cap, .int .i64 K], .string t, .int .i64 i, .func (.func 125) #[] #[.pointer (some ⟨c + 4, 0, none⟩), .pointer (some ⟨c + 6, 0, none⟩), .pointer (some ⟨c + 5, 0, none⟩)], .int .i64 (pw t n L K s x : Nat), undef, undef, undef, undef, undef, undef, undef, undef, undef, undef], defers := [] }) ?assign ?body ?done ?stop
  case assign =>
    intro l x W K hK
    gi_wp2
    exact hK
  case body =>
    rintro l pre x W ⟨⟨⟨e0, e1, e2⟩, hnf, hv3, hv4⟩, hB⟩ hlt
    have hyn := pw_fits hlt x
    have hsn := fnd_snoc t n L K (pre.map fun q => pw t n L K s q) (pw t n L K s x)
    rw [show (pre.map fun q => pw t n L K s q) ++ [pw t n L K s x] = (pre ++ [x]).map fun q => pw t n L K s q by rw [List.map_append]; rfl, hnf, List.nil_append] at hsn
    have HSN := Lib.hid hsn
    clear hsn hnf
    obtain ⟨y, hy⟩ : ∃ y, y = pw t n L K s x := ⟨_, rfl⟩
    rw [← hy] at hyn HSN ⊢
    clear hy hlt
    have hRW : RowC W.drew ad n L W.drew.heap.size := (hR.below (hBw1.trans hB) (Nat.le_refl _)).mono (show c ≤ W.drew.heap.size by have := hB.size; simp; omega)
    have h6 : c + 7 ≤ W.heap.size := by have := hB.size; omega
    have hmix : Try.prog.follows .mixedOrders = true := by kernel_rfl
    have HV3 := Lib.hid hv3
    have HV4 := Lib.hid hv4
    clear hv3 hv4
    gi_wp2_with fail
    refine region_round (fun w' => w'.cell? ⟨c, 0, none⟩ = some (.slice ad n cap) ∧ w'.cell? ⟨c, 1, none⟩ = some (.int .i64 K) ∧ w'.cell? ⟨c + 1, 0, none⟩ = some (.string t)) hmix (by kernel_rfl) (by rintro ⟨a, w, h⟩; exact h) ⟨e0, e1, e2⟩ ?_
    intro hS
    refine takeD 0 14 (.agg #[.slice ad n cap, .int .i64 K]) rfl rfl (by kernel_rfl) (by kernel_rfl) (by kernel_rfl) (fun _ _ _ h => h) (Or.inl ⟨by rfl, by intro w' hSw; obtain ⟨s0, s1, s2⟩ := hSw; go_simp⟩) hS ?_
    try simp only [Act.put, List.setIfInBounds_toArray, List.set_cons_zero, List.set_cons_succ]
    refine takeD 1 15 (.string t) rfl rfl (by kernel_rfl) (by kernel_rfl) (by kernel_rfl) (fun _ _ _ h => h) (Or.inl ⟨by rfl, by intro w' hSw; obtain ⟨s0, s1, s2⟩ := hSw; go_simp⟩) hS ?_
    try simp only [Act.put, List.setIfInBounds_toArray, List.set_cons_zero, List.set_cons_succ]
    refine takeD 2 16 (.int .i64 (y : Nat)) rfl rfl (by kernel_rfl) (by kernel_rfl) (by kernel_rfl) (fun _ _ _ h => h) (Or.inl ⟨by rfl, by intro w' hSw; obtain ⟨s0, s1, s2⟩ := hSw; go_simp⟩) hS ?_
    try simp only [Act.put, List.setIfInBounds_toArray, List.set_cons_zero, List.set_cons_succ]
    refine takeD 3 17 (.pointer (some ⟨c, 1, none⟩)) rfl rfl (by kernel_rfl) (by kernel_rfl) (by kernel_rfl) (fun _ _ _ h => h) (Or.inl ⟨by rfl, by intro w' hSw; obtain ⟨s0, s1, s2⟩ := hSw; go_simp⟩) hS ?_
    try simp only [Act.put, List.setIfInBounds_toArray, List.set_cons_zero, List.set_cons_succ]
    refine takeD 4 18 (.int .i64 K) rfl rfl (by kernel_rfl) (by kernel_rfl) (by kernel_rfl) (fun _ _ _ h => h) (Or.inl ⟨by rfl, by intro w' hSw; obtain ⟨s0, s1, s2⟩ := hSw; go_simp⟩) hS ?_
    try simp only [Act.put, List.setIfInBounds_toArray, List.set_cons_zero, List.set_cons_succ]
    refine takeD 6 20 (.pointer (some ⟨c, 1, none⟩)) rfl rfl (by kernel_rfl) (by kernel_rfl) (by kernel_rfl) (fun _ _ _ h => h) (Or.inl ⟨by rfl, by intro w' hSw; obtain ⟨s0, s1, s2⟩ := hSw; go_simp⟩) hS ?_
    try simp only [Act.put, List.setIfInBounds_toArray, List.set_cons_zero, List.set_cons_succ]
    refine takeD 7 21 (.int .i64 K) rfl rfl (by kernel_rfl) (by kernel_rfl) (by kernel_rfl) (fun _ _ _ h => h) (Or.inl ⟨by rfl, by intro w' hSw; obtain ⟨s0, s1, s2⟩ := hSw; go_simp⟩) hS ?_
    try simp only [Act.put, List.setIfInBounds_toArray, List.set_cons_zero, List.set_cons_succ]
    refine wpAnyH_ready (rs := [5]) (by kernel_rfl) (by simp) ?_
    refine AllReadyH.cons rfl (fun Kc hK => ?_) AllReadyH.nil
    go_simp
    go_at_call 109
    refine (misses_any ad n cap K L t (by omega) y hyn K _ hRW).mono ?_
    rintro e w2 ⟨⟨r, rfl, hr1, hr2⟩, hb2⟩
    dsimp only
    have hz2 : W.drew.heap.size ≤ w2.heap.size := hb2.size
    have hz2' : W.heap.size ≤ w2.heap.size := hz2
    have hv3 : Boxed w2 (c + 2) 3 (.int .i64 0) := Boxed.below (W := W.drew) HV3.out hb2 (show c + 2 < W.heap.size by omega)
    have hv4 : Boxed w2 (c + 3) 4 (.bool false) := Boxed.below (W := W.drew) HV4.out hb2 (show c + 3 < W.heap.size by omega)
    have hS2 : w2.cell? ⟨c, 0, none⟩ = some (.slice ad n cap) ∧ w2.cell? ⟨c, 1, none⟩ = some (.int .i64 K) ∧ w2.cell? ⟨c + 1, 0, none⟩ = some (.string t) := ⟨(hb2.cell (p := ⟨c, 0, none⟩) (show c < W.heap.size by omega)).trans e0, (hb2.cell (p := ⟨c, 1, none⟩) (show c < W.heap.size by omega)).trans e1, (hb2.cell (p := ⟨c + 1, 0, none⟩) (show c + 1 < W.heap.size by omega)).trans e2⟩
    refine hK.out _ _ hS2 (fun hH => ?_)
    try simp only [Act.put, List.setIfInBounds_toArray, List.set_cons_zero, List.set_cons_succ]
    clear hK Kc
    have hko : KeepsOthers W w2 := (KeepsOthers.drew W).trans (KeepsOthers.of_grownBy (grown_of_below hb2 none) (by simp))
    have hbW : Below c W w2 := (Below.refl c W).drew.trans (hb2.mono (show c ≤ W.heap.size by omega))
    have hk3 : ∀ b o, c + 4 ≤ b → b < c + 4 + 3 → w2.cell? ⟨b, o, none⟩ = W.cell? ⟨b, o, none⟩ := fun b o h1 h2 => hb2.cell (p := ⟨b, o, none⟩) (show b < W.heap.size by omega)
    have HK3 := Lib.hid hk3
    clear hk3 e0 e1 e2 hS hRW hb2 HV3 HV4
    obtain ⟨s0, s1, s2⟩ := hS2
    by_cases hq : (mis t L y n : Int) ≤ K
    · have hr := hr1 hq
      have hrK : (r : Int) ≤ K := by omega
      clear hr1 hr2 hr
      rw [if_pos hq] at HSN
      clear hq
      have g3 := hv3.cell
      have f3 := hv3.frozen
      have g4 := hv4.cell
      have f4 := hv4.frozen
      refine takeD 8 22 (.bool true) rfl rfl (by kernel_rfl) (by kernel_rfl) (by kernel_rfl) (fun _ _ _ h => h) (Or.inl ⟨by rfl, by intro w' hSw; go_simp⟩) hH ?_
      try simp only [Act.put, List.setIfInBounds_toArray, List.set_cons_zero, List.set_cons_succ]
      refine wpAnyH_done (by kernel_rfl) ?_ _
      gi_wp2
      exact ⟨(hko.trans ((KeepsOthers.setCell _ _ _).trans (KeepsOthers.setCell _ _ _))).from _, ⟨rfl, y, HSN.out, Boxed.other (Boxed.set _ hv3) (by omega) _, Boxed.set _ (Boxed.other hv4 (by omega) _)⟩, ((hB.trans hbW).setCell (p := ⟨c + 2, 0, none⟩) (show c ≤ c + 2 by omega) _).setCell (p := ⟨c + 3, 0, none⟩) (show c ≤ c + 3 by omega) _⟩
    · have hr := hr2 (by omega)
      have hrK : K < (r : Int) := by omega
      clear hr1 hr2 hr
      rw [if_neg hq] at HSN
      clear hq
      refine takeD 8 22 (.bool false) rfl rfl (by kernel_rfl) (by kernel_rfl) (by kernel_rfl) (fun _ _ _ h => h) (Or.inl ⟨by rfl, by intro w' hSw; go_simp⟩) hH ?_
      try simp only [Act.put, List.setIfInBounds_toArray, List.set_cons_zero, List.set_cons_succ]
      refine wpAnyH_done (by kernel_rfl) ?_ _
      gi_wp2
      exact ⟨hko.from _, ⟨hbW, HK3.out⟩, ⟨⟨s0, s1, s2⟩, HSN.out, hv3, hv4⟩, hB.trans hbW⟩
  case done =>
    rintro D ys W hD rfl ⟨⟨⟨e0, e1, e2⟩, hnil, hv3, hv4⟩, hB⟩ hK
    have hpm := pw_map t n L K s (many t n L K s) (Nat.le_refl _) (fun q => q)
    rw [List.map_id'] at hpm
    rw [hpm] at hnil
    have HNO := Lib.hid (HRV2.out hnil)
    clear hnil hpm
    have hcD : c + 7 ≤ D := by omega
    have g3 := hv3.cell
    have f3 := hv3.frozen
    have g4 := hv4.cell
    have f4 := hv4.frozen
    obtain ⟨W2, hW2⟩ : ∃ W2, W2 = (W.setCell ⟨c + 2, 0, none⟩ (.int .i64 0)).setCell ⟨c + 3, 0, none⟩ (.bool false) := ⟨_, rfl⟩
    have hv3' : Boxed W2 (c + 2) 3 (.int .i64 0) := by rw [hW2]; exact Boxed.other (Boxed.set _ hv3) (by omega) _
    have hv4' : Boxed W2 (c + 3) 4 (.bool false) := by rw [hW2]; exact Boxed.set _ (Boxed.other hv4 (by omega) _)
    have hB2 : Below c W W2 := by rw [hW2]; exact ((Below.refl c W).setCell (p := ⟨c + 2, 0, none⟩) (show c ≤ c + 2 by omega) _).setCell (p := ⟨c + 3, 0, none⟩) (show c ≤ c + 3 by omega) _
    have hK2 : W2.heap[D]? = some (.deferred (some [])) := by rw [hW2]; exact (Below.heap_setCell _ _ _ D (by show D ≠ c + 3; omega)).trans ((Below.heap_setCell _ _ _ D (by show D ≠ c + 2; omega)).trans hK)
    gi_wp2
    rw [← hW2]
    refine ⟨by simp, .inl ⟨_, _, rfl, run_takeDeferred hK2, ?_⟩⟩
    have hbe := belowK_b (w := w) (Nat.le_refl _) W2 D _ (.deferred none) (by have := HCW.out; omega) hK2 rfl rfl
    have r3 : (W2.putObj D (.deferred none)).cell? ⟨c + 2, 0, none⟩ = some (.int .i64 0) := (World.cell?_of_block (World.putObj_heap_other (by show c + 2 ≠ D; omega))).trans hv3'.cell
    have r4 : (W2.putObj D (.deferred none)).cell? ⟨c + 3, 0, none⟩ = some (.bool false) := (World.cell?_of_block (World.putObj_heap_other (by show c + 3 ≠ D; omega))).trans hv4'.cell
    exact ⟨.tuple #[.int .i64 0, .bool false], by simp [results, Try.results59, go_sem, r3, r4], by rw [HNO.out], ((hBw1.trans (hB.trans hB2)).mono (by have := HCW.out; omega)).trans hbe⟩
  case stop =>
    rintro D cc pre W hD ⟨k, hk, rfl⟩ ⟨⟨rfl, q, hfq, hv3, hv4⟩, hB⟩ hK
    have hcD : c + 7 ≤ D := by omega
    have hpm := pw_map t n L K s (k + 1) hk (fun q => q)
    rw [List.map_id'] at hpm
    rw [hpm] at hfq
    have HYES := Lib.hid (HRV1.out k _ hk hfq)
    clear hfq hpm
    gi_wp2
    refine ⟨by simp, .inl ⟨_, _, rfl, run_takeDeferred hK, ?_⟩⟩
    have hbe := belowK_b (w := w) (Nat.le_refl _) W D _ (.deferred none) (by have := HCW.out; omega) hK rfl rfl
    have r3 : (W.putObj D (.deferred none)).cell? ⟨c + 2, 0, none⟩ = some (.int .i64 (q : Nat)) := (World.cell?_of_block (World.putObj_heap_other (by show c + 2 ≠ D; omega))).trans hv3.cell
    have r4 : (W.putObj D (.deferred none)).cell? ⟨c + 3, 0, none⟩ = some (.bool true) := (World.cell?_of_block (World.putObj_heap_other (by show c + 3 ≠ D; omega))).trans hv4.cell
    exact ⟨.tuple #[.int .i64 (q : Nat), .bool true], by simp [results, Try.results59, go_sem, r3, r4], by rw [HYES.out], ((hBw1.trans hB).mono (by have := HCW.out; omega)).trans hbe⟩
end Go.Proofs.Ytkhcjjdamphbfaa
