/- Walk of naive.At: a range over a function that is left at once. -/
import Derived.Test.YtkhcjjdamphbfaaN5
namespace Go.Proofs.Ytkhcjjdamphbfaa
open Go.RowKit Go.Shelf
attribute [local go_sem] Oper.semAt_some

set_option maxRecDepth 100000 in
set_option maxHeartbeats 4000000 in
theorem at_any (ad : Option Addr) (n cap : Nat) (K : Int) (L : Nat → Nat → Bool) (hn : (n : Int) ≤ 1000) (t : ByteArray) (ht : t.size ≤ 1000) (i : Int) (w : World) (hR : RowC w ad n L w.heap.size) :
    Calls Try.prog 54 #[lv ad n cap K, .string t, .int .i64 i] w fun e w' => e = .returned (.tuple #[.int .i64 (if okAt t n L K i then (mis t L i.toNat n : Nat) else 0), .bool (okAt t n L K i)]) ∧ Below w.heap.size w w' := by
  obtain ⟨s, hs⟩ : ∃ s : Nat, max 0 i = (s : Int) := ⟨(max 0 i).toNat, by omega⟩
  have hok1 : okAt t n L K i = true → i = s ∧ 0 < many t n L K s := by
    intro h
    unfold okAt at h
    simp only [Bool.and_eq_true, decide_eq_true_eq] at h
    refine ⟨by omega, ?_⟩
    unfold many
    rw [if_pos h.1]
    omega
  have hok2 : i = s → 0 < many t n L K s → okAt t n L K i = true := by
    intro h1 h2
    unfold many at h2
    split at h2
    · rename_i hr
      unfold okAt
      rw [hr]
      simp
      omega
    · omega
  have HOK1 := Lib.hid hok1
  have HOK2 := Lib.hid hok2
  clear hok1 hok2
  have hrv1 : okAt t n L K i = true → Value.tuple #[.int .i64 (if okAt t n L K i then (mis t L i.toNat n : Nat) else 0), .bool (okAt t n L K i)] = .tuple #[.int .i64 (mis t L i.toNat n : Nat), .bool true] := by intro h; rw [h]; rfl
  have hrv2 : okAt t n L K i = false → Value.tuple #[.int .i64 (if okAt t n L K i then (mis t L i.toNat n : Nat) else 0), .bool (okAt t n L K i)] = .tuple #[.int .i64 0, .bool false] := by intro h; rw [h]; rfl
  generalize Value.tuple #[.int .i64 (if okAt t n L K i then (mis t L i.toNat n : Nat) else 0), .bool (okAt t n L K i)] = rv at hrv1 hrv2 ⊢
  have HRV1 := Lib.hid hrv1
  have HRV2 := Lib.hid hrv2
  clear hrv1 hrv2
  refine (callsIn_wide (n := 9)).1 ?_
  refine callsIn_of_wp_marks Try.func54 rfl trivial ?_ rfl
  simp only [Try.ntmps54, List.size_toArray, List.length_cons, List.length_nil, Nat.reduceAdd, Nat.reduceSub, Array.replicate_succ, Array.replicate_zero, List.push_toArray, List.append_toArray, List.nil_append, List.cons_append]
  gi_wp2_with fail
  have hL0 := HoldsL.new w ad n cap K
  obtain ⟨c, hc⟩ : ∃ c, c = w.heap.size := ⟨_, rfl⟩
  obtain ⟨W5, hW5⟩ : ∃ W5 : World, (((((w.alloc (.cells #[.slice ad n cap, .int .i64 K] 43)).alloc (.cells #[.string t] 9)).alloc (.cells #[.int .i64 i] 3)).alloc (.cells #[.int .i64 0] 3)).alloc (.cells #[.bool false] 4)) = W5 := ⟨_, rfl⟩
  have hs5 : W5.heap.size = c + 5 := by subst hW5; subst hc; simp
  have q0 : W5.cell? ⟨c, 0, none⟩ = some (.slice ad n cap) := by subst hW5; subst hc; simp [go_sem]
  have q1 : W5.cell? ⟨c, 1, none⟩ = some (.int .i64 K) := by subst hW5; subst hc; simp [go_sem]
  have q2 : W5.cell? ⟨c + 1, 0, none⟩ = some (.string t) := by subst hW5; subst hc; simp [go_sem]
  have q3 : W5.cell? ⟨c + 2, 0, none⟩ = some (.int .i64 i) := by subst hW5; subst hc; simp [go_sem]
  have b3 : Boxed W5 (c + 3) 3 (.int .i64 0) := by subst hW5; subst hc; have h := (Boxed.new (((w.alloc (.cells #[.slice ad n cap, .int .i64 K] 43)).alloc (.cells #[.string t] 9)).alloc (.cells #[.int .i64 i] 3)) 3 (.int .i64 0)).alloc (.cells #[.bool false] 4); simp only [World.size_alloc, Nat.add_assoc, Nat.reduceAdd] at h; exact h
  have b4 : Boxed W5 (c + 4) 4 (.bool false) := by subst hW5; subst hc; have h := Boxed.new ((((w.alloc (.cells #[.slice ad n cap, .int .i64 K] 43)).alloc (.cells #[.string t] 9)).alloc (.cells #[.int .i64 i] 3)).alloc (.cells #[.int .i64 0] 3)) 4 (.bool false); simp only [World.size_alloc, Nat.add_assoc, Nat.reduceAdd] at h; exact h
  have hB0 : Below w.heap.size w W5 := by
    subst hW5
    exact (((((Below.refl _ w).alloc (Nat.le_refl _) _).alloc (by simp) _).alloc (by simp; omega) _).alloc (by simp; omega) _).alloc (by simp; omega) _
  rw [hW5]
  clear hW5 hL0
  refine ⟨trivial, ?_⟩
  refine (callsIn_wide.2 (placesF_any ad n cap K t i _)).mono ?_
  rintro e w1 ⟨rfl, hl, htx, hst, hsz, hb⟩
  dsimp only
  rw [hs5] at hl htx hst hsz hb ⊢
  simp only [Nat.add_assoc, Nat.reduceAdd] at hl htx hst hsz hb ⊢
  rw [← hc] at hB0 hR ⊢
  have hcw : c ≤ w.heap.size := by omega
  have HCW := Lib.hid hc
  clear hc
  have hR5 := hR.below hB0 (Nat.le_refl _)
  have hBw1 : Below c w w1 := hB0.trans (hb.mono (by omega))
  have hP : PlArgs w1 c (c + 5) ad n cap K L t i := ⟨⟨hl.1, hl.2.1⟩, htx, hst, hR5.below hb (by omega)⟩
  have p0 := (hb.cell (p := ⟨c, 0, none⟩) (by show c < c + 5; omega)).trans q0
  have p1 := (hb.cell (p := ⟨c, 1, none⟩) (by show c < c + 5; omega)).trans q1
  have p2 := (hb.cell (p := ⟨c + 1, 0, none⟩) (by show c + 1 < c + 5; omega)).trans q2
  have p3 := (hb.cell (p := ⟨c + 2, 0, none⟩) (by show c + 2 < c + 5; omega)).trans q3
  have d3 := Boxed.below b3 hb (by omega)
  have d4 := Boxed.below b4 hb (by omega)
  clear q0 q1 q2 q3 b3 b4 hb hl htx hst hs5 hR5 hB0
  gi_wp2_with fail
  refine wpIn_rangeFunc_ownG rfl (by omega) (gf := 125) (lb := #[.pointer (some ⟨c + 5, 0, none⟩), .pointer (some ⟨c + 7, 0, none⟩), .pointer (some ⟨c + 6, 0, none⟩)]) rfl trivial (enters_of Try.func125 (by kernel_rfl) rfl)
    (places_stops 8 c (c + 5) ad n cap K L hn t ht i s hs w1 (by omega) (by omega) hP) keeps3_t (keeps3_b (by omega) (by omega)) (Below.refl _ _) (fun _ => rfl)
    (fun pre W => ((W.cell? ⟨c, 0, none⟩ = some (.slice ad n cap) ∧ W.cell? ⟨c, 1, none⟩ = some (.int .i64 K) ∧ W.cell? ⟨c + 1, 0, none⟩ = some (.string t) ∧ W.cell? ⟨c + 2, 0, none⟩ = some (.int .i64 i)) ∧ (pre = [] ∧ Boxed W (c + 3) 3 (.int .i64 0) ∧ Boxed W (c + 4) 4 (.bool false))) ∧ Below c w1 W)
    (fun code pre W => (pre.length = 1 ∧ ((code = .exit 0 ∧ ((pw t n L K s (pre.headD 0) : Nat) : Int) ≠ i ∧ Boxed W (c + 3) 3 (.int .i64 0) ∧ Boxed W (c + 4) 4 (.bool false)) ∨ (code = .ret ∧ ((pw t n L K s (pre.headD 0) : Nat) : Int) = i ∧ Boxed W (c + 3) 3 (.int .i64 (mis t L i.toNat n : Nat)) ∧ Boxed W (c + 4) 4 (.bool true)))) ∧ Below c w1 W)
    (OwnFrom.and (OwnFrom.and (Own.from (fun s A B row hs hg hr => ⟨cell_kept hs.1 hg hr, cell_kept hs.2.1 hg hr, cell_kept hs.2.2.1 hg hr, cell_kept hs.2.2.2 hg hr⟩) _) (Own.from (fun _ A B row hs hg hr => ⟨hs.1, boxed_own (c + 3) 3 (fun _ : Unit => (.int .i64 0)) () A B row hs.2.1 hg hr, boxed_own (c + 4) 4 (fun _ : Unit => (.bool false)) () A B row hs.2.2 hg hr⟩) _)) (ownFrom_below (by omega) (by omega)))
    (fun _ => OwnFrom.and (Own.from (fun _ A B row hs hg hr => ⟨hs.1, hs.2.imp (fun h => ⟨h.1, h.2.1, boxed_own (c + 3) 3 (fun _ : Unit => (.int .i64 0)) () A B row h.2.2.1 hg hr, boxed_own (c + 4) 4 (fun _ : Unit => (.bool false)) () A B row h.2.2.2 hg hr⟩) (fun h => ⟨h.1, h.2.1, boxed_own (c + 3) 3 (fun _ : Unit => (.int .i64 (mis t L i.toNat n : Nat))) () A B row h.2.2.1 hg hr, boxed_own (c + 4) 4 (fun _ : Unit => (.bool true)) () A B row h.2.2.2 hg hr⟩)⟩) _) (ownFrom_below (by omega) (by omega)))
    ⟨⟨⟨p0, p1, p2, p3⟩, rfl, d3, d4⟩, Below.refl _ _⟩
    (fun x => { tmps := #[lv ad n cap K, .string t, .int .i64 i, .pointer (some ⟨c, 0, none⟩), .pointer (some ⟨c + 1, 0, none⟩), .pointer (some ⟨c + 2, 0, none⟩), .pointer (some ⟨c + 3, 0, none⟩), .pointer (some ⟨c + 4, 0, none⟩), .int .i64 (pw t n L K s x : Nat), .agg #[.slice ad n cap, .int .i64 K], .string t, .int .i64 i, .func (.func 125) #[] #[.pointer (some ⟨c + 5, 0, none⟩), .pointer (some ⟨c + 7, 0, none⟩), .pointer (some ⟨c + 6, 0, none⟩)], .int .i64 (pw t n L K s x : Nat), undef, undef, undef, undef, undef, undef, undef, undef, undef, undef], defers := [] }) ?assign ?body ?done ?stop
  case assign =>
    intro l x W K hK
    gi_wp2
    exact hK
  case body =>
    rintro l pre x W ⟨⟨⟨e0, e1, e2, e3⟩, rfl, hv3, hv4⟩, hB⟩ hlt
    have hyn := pw_fits hlt x
    have hhd : pw t n L K s (([] ++ [x] : List Nat).headD 0) = pw t n L K s x := rfl
    obtain ⟨y, hy⟩ : ∃ y, y = pw t n L K s x := ⟨_, rfl⟩
    rw [← hy] at hyn hhd ⊢
    have HHD := Lib.hid hhd
    clear hy hhd
    have h8 : c + 8 ≤ W.heap.size := by have := hB.size; omega
    have hRW : RowC W ad n L W.heap.size := (hR.below (hBw1.trans hB) (Nat.le_refl _)).mono (by omega)
    have hmis := mis_le t L y n
    by_cases hq : (y : Int) = i
    · subst hq
      have hv3c := hv3.cell
      have HV3 := Lib.hid hv3
      have HV4 := Lib.hid hv4
      clear hv3 hv4 hv3c
      gi_wp2_with (refine ⟨trivial, ?_⟩; gi_at_call 109; refine (CallsIn.inRound l (callsIn_wide.2 (misses_any ad n cap K L t (by omega) y hyn n _ hRW))).mono ?_; rintro e w2 ⟨⟨r, rfl, hr1, -⟩, hb2⟩; have hv3 := Boxed.below HV3.out hb2 (by omega); have hv4 := Boxed.below HV4.out hb2 (by omega); have g3 := hv3.cell; have f3 := hv3.frozen; have g4 := hv4.cell; have f4 := hv4.frozen)
      refine ⟨((KeepsOthers.of_grownBy (grown_of_below hb2 none) (by simp)).trans ((KeepsOthers.setCell _ _ _).trans (KeepsOthers.setCell _ _ _))).from _, ⟨rfl, .inr ⟨rfl, by rw [HHD.out], ?_, ?_⟩⟩, ((hB.trans (hb2.mono (by omega))).setCell (p := ⟨c + 3, 0, none⟩) (show c ≤ c + 3 by omega) _).setCell (p := ⟨c + 4, 0, none⟩) (show c ≤ c + 4 by omega) _⟩
      · rw [Int.toNat_natCast]
        exact Boxed.other (Boxed.set _ hv3) (by omega) _
      · exact Boxed.set _ (Boxed.other hv4 (by omega) _)
    · gi_wp2
      exact ⟨KeepsFrom.refl _ _, ⟨rfl, .inl ⟨rfl, by rw [HHD.out]; exact hq, hv3, hv4⟩⟩, hB⟩
  case done =>
    rintro D ys W hD rfl ⟨⟨⟨e0, e1, e2, e3⟩, hnil, hv3, hv4⟩, hB⟩ hK
    have hm0 : many t n L K s = 0 := by have := congrArg List.length hnil; rwa [plc_length] at this
    have hno : okAt t n L K i = false := by
      rw [Bool.eq_false_iff]
      intro h
      have := (HOK1.out h).2
      omega
    have HNO := Lib.hid hno
    clear hno
    have g3 := hv3.cell
    have f3 := hv3.frozen
    have g4 := hv4.cell
    have f4 := hv4.frozen
    have hcD : c + 8 ≤ D := by omega
    obtain ⟨W2, hW2⟩ : ∃ W2, W2 = (W.setCell ⟨c + 3, 0, none⟩ (.int .i64 0)).setCell ⟨c + 4, 0, none⟩ (.bool false) := ⟨_, rfl⟩
    have hv3' : Boxed W2 (c + 3) 3 (.int .i64 0) := by rw [hW2]; exact Boxed.other (Boxed.set _ hv3) (by omega) _
    have hv4' : Boxed W2 (c + 4) 4 (.bool false) := by rw [hW2]; exact Boxed.set _ (Boxed.other hv4 (by omega) _)
    have hB2 : Below c W W2 := by rw [hW2]; exact ((Below.refl c W).setCell (p := ⟨c + 3, 0, none⟩) (show c ≤ c + 3 by omega) _).setCell (p := ⟨c + 4, 0, none⟩) (show c ≤ c + 4 by omega) _
    have hK2 : W2.heap[D]? = some (.deferred (some [])) := by rw [hW2]; exact (Below.heap_setCell _ _ _ D (by show D ≠ c + 4; omega)).trans ((Below.heap_setCell _ _ _ D (by show D ≠ c + 3; omega)).trans hK)
    gi_wp2
    rw [← hW2]
    refine ⟨by simp, .inl ⟨_, _, rfl, run_takeDeferred hK2, ?_⟩⟩
    have hbe := belowK_b (w := w) (Nat.le_refl _) W2 D _ (.deferred none) (by have := HCW.out; omega) hK2 rfl rfl
    have r3 : (W2.putObj D (.deferred none)).cell? ⟨c + 3, 0, none⟩ = some (.int .i64 0) := (World.cell?_of_block (World.putObj_heap_other (by show c + 3 ≠ D; omega))).trans hv3'.cell
    have r4 : (W2.putObj D (.deferred none)).cell? ⟨c + 4, 0, none⟩ = some (.bool false) := (World.cell?_of_block (World.putObj_heap_other (by show c + 4 ≠ D; omega))).trans hv4'.cell
    exact ⟨.tuple #[.int .i64 0, .bool false], by simp [results, Try.results54, go_sem, r3, r4], by rw [HRV2.out HNO.out], ((hBw1.trans (hB.trans hB2)).mono (by have := HCW.out; omega)).trans hbe⟩
  case stop =>
    rintro D cc pre W hD ⟨k, hk, rfl⟩ ⟨⟨hlen, hcase⟩, hB⟩ hK
    have hcD : c + 8 ≤ D := by omega
    obtain rfl : k = 0 := by rw [plc_length] at hlen; omega
    have hpw : pw t n L K s ((plc s (0 + 1)).headD 0) = s := by
      have h0 : (plc s (0 + 1)).headD 0 = s + 0 := rfl
      rw [h0, pw_eq hk]
      rfl
    rcases hcase with ⟨rfl, hne, hv3, hv4⟩ | ⟨rfl, heq, hv3, hv4⟩
    · have hno : okAt t n L K i = false := by
        rw [Bool.eq_false_iff]
        intro h
        have := (HOK1.out h).1
        rw [hpw] at hne
        omega
      have HNO := Lib.hid hno
      clear hno hne hpw hlen
      have g3 := hv3.cell
      have f3 := hv3.frozen
      have g4 := hv4.cell
      have f4 := hv4.frozen
      obtain ⟨W2, hW2⟩ : ∃ W2, W2 = (W.setCell ⟨c + 3, 0, none⟩ (.int .i64 0)).setCell ⟨c + 4, 0, none⟩ (.bool false) := ⟨_, rfl⟩
      have hv3' : Boxed W2 (c + 3) 3 (.int .i64 0) := by rw [hW2]; exact Boxed.other (Boxed.set _ hv3) (by omega) _
      have hv4' : Boxed W2 (c + 4) 4 (.bool false) := by rw [hW2]; exact Boxed.set _ (Boxed.other hv4 (by omega) _)
      have hB2 : Below c W W2 := by rw [hW2]; exact ((Below.refl c W).setCell (p := ⟨c + 3, 0, none⟩) (show c ≤ c + 3 by omega) _).setCell (p := ⟨c + 4, 0, none⟩) (show c ≤ c + 4 by omega) _
      have hK2 : W2.heap[D]? = some (.deferred (some [])) := by rw [hW2]; exact (Below.heap_setCell _ _ _ D (by show D ≠ c + 4; omega)).trans ((Below.heap_setCell _ _ _ D (by show D ≠ c + 3; omega)).trans hK)
      gi_wp2
      rw [← hW2]
      refine ⟨by simp, .inl ⟨_, _, rfl, run_takeDeferred hK2, ?_⟩⟩
      have hbe := belowK_b (w := w) (Nat.le_refl _) W2 D _ (.deferred none) (by have := HCW.out; omega) hK2 rfl rfl
      have r3 : (W2.putObj D (.deferred none)).cell? ⟨c + 3, 0, none⟩ = some (.int .i64 0) := (World.cell?_of_block (World.putObj_heap_other (by show c + 3 ≠ D; omega))).trans hv3'.cell
      have r4 : (W2.putObj D (.deferred none)).cell? ⟨c + 4, 0, none⟩ = some (.bool false) := (World.cell?_of_block (World.putObj_heap_other (by show c + 4 ≠ D; omega))).trans hv4'.cell
      exact ⟨.tuple #[.int .i64 0, .bool false], by simp [results, Try.results54, go_sem, r3, r4], by rw [HRV2.out HNO.out], ((hBw1.trans (hB.trans hB2)).mono (by have := HCW.out; omega)).trans hbe⟩
    · have hyes : okAt t n L K i = true := HOK2.out (by rw [hpw] at heq; omega) hk
      have HYES := Lib.hid hyes
      clear hyes heq hpw hlen
      gi_wp2
      refine ⟨by simp, .inl ⟨_, _, rfl, run_takeDeferred hK, ?_⟩⟩
      have hbe := belowK_b (w := w) (Nat.le_refl _) W D _ (.deferred none) (by have := HCW.out; omega) hK rfl rfl
      have r3 : (W.putObj D (.deferred none)).cell? ⟨c + 3, 0, none⟩ = some (.int .i64 (mis t L i.toNat n : Nat)) := (World.cell?_of_block (World.putObj_heap_other (by show c + 3 ≠ D; omega))).trans hv3.cell
      have r4 : (W.putObj D (.deferred none)).cell? ⟨c + 4, 0, none⟩ = some (.bool true) := (World.cell?_of_block (World.putObj_heap_other (by show c + 4 ≠ D; omega))).trans hv4.cell
      exact ⟨.tuple #[.int .i64 (mis t L i.toNat n : Nat), .bool true], by simp [results, Try.results54, go_sem, r3, r4], by rw [HRV1.out HYES.out], ((hBw1.trans hB).mono (by have := HCW.out; omega)).trans hbe⟩
end Go.Proofs.Ytkhcjjdamphbfaa
