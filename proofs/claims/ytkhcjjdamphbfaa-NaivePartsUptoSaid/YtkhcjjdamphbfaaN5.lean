/- Walk of naive.Find: a range over a function. -/
import Derived.Test.YtkhcjjdamphbfaaN4
import Derived.OwnWalkIn
namespace Go.Proofs.Ytkhcjjdamphbfaa
open Go.RowKit Go.Shelf
attribute [local go_sem] Oper.semAt_some

theorem info3 : (Try.prog.info? 3).map (fun i => (i.zero, i.size, i.bytes)) = some (some (.int .i64 0), 1, 8) := by kernel_rfl
/-- Those of some places at which few are missed. -/
def fnd (t : ByteArray) (n : Nat) (L : Nat → Nat → Bool) (K : Int) (l : List Nat) : List Int := (l.filter fun q => decide ((mis t L q n : Int) ≤ K)).map fun q => ((q : Nat) : Int)
theorem fnd_snoc (t : ByteArray) (n : Nat) (L : Nat → Nat → Bool) (K : Int) (l : List Nat) (q : Nat) : fnd t n L K (l ++ [q]) = if (mis t L q n : Int) ≤ K then fnd t n L K l ++ [(q : Int)] else fnd t n L K l := by
  unfold fnd
  rw [List.filter_append]
  by_cases h : (mis t L q n : Int) ≤ K
  · rw [if_pos h]; simp [h]
  · rw [if_neg h]; simp [h]
theorem fnd_length (t : ByteArray) (n : Nat) (L : Nat → Nat → Bool) (K : Int) (l : List Nat) : (fnd t n L K l).length ≤ l.length := by
  unfold fnd
  rw [List.length_map]
  exact List.length_filter_le _ _

set_option maxRecDepth 100000 in
set_option maxHeartbeats 4000000 in
theorem find_any (ad : Option Addr) (n cap : Nat) (K : Int) (L : Nat → Nat → Bool) (hn : (n : Int) ≤ 1000) (t : ByteArray) (ht : t.size ≤ 1000) (w : World) (hR : RowC w ad n L w.heap.size) :
    Calls Try.prog 61 #[lv ad n cap K, .string t] w fun e w' => ∃ v, e = .returned v ∧ w'.ownsRow w.heap.size 3 1 v (fnd t n L K (plc 0 (many t n L K 0))).length (ints (fnd t n L K (plc 0 (many t n L K 0)))) ∧ Below w.heap.size w w' := by
  refine (callsIn_wide (n := 9)).1 ?_
  refine callsIn_of_wp_marks Try.func61 rfl trivial ?_ rfl
  simp only [Try.ntmps61, List.size_toArray, List.length_cons, List.length_nil, Nat.reduceAdd, Nat.reduceSub, Array.replicate_succ, Array.replicate_zero, List.push_toArray, List.append_toArray, List.nil_append, List.cons_append]
  have hL0 := HoldsL.new w ad n cap K
  have bT := Boxed.new (w.alloc (.cells #[.slice ad n cap, .int .i64 K] 43)) 9 (.string t)
  have bO := Boxed.new ((w.alloc (.cells #[.slice ad n cap, .int .i64 K] 43)).alloc (.cells #[.string t] 9)) 48 (.slice none 0 0)
  have hB0 : Below w.heap.size w (((w.alloc (.cells #[.slice ad n cap, .int .i64 K] 43)).alloc (.cells #[.string t] 9)).alloc (.cells #[.slice none 0 0] 48)) := (((Below.refl _ w).alloc (Nat.le_refl _) _).alloc (by simp) _).alloc (by simp; omega) _
  gi_wp2_with (refine ⟨trivial, ?_⟩; gi_at_call 108; refine (callsIn_wide.2 (placesF_any ad n cap K t 0 _)).mono ?_; rintro e w1 ⟨rfl, hl, htx, hst, hsz, hb⟩)
  simp only [World.size_alloc, Nat.add_assoc, Nat.reduceAdd] at hl htx hst hsz hb bT bO ⊢
  obtain ⟨c, hc⟩ : ∃ c, c = w.heap.size := ⟨_, rfl⟩
  obtain ⟨W3, hW3⟩ : ∃ W3 : World, (((w.alloc (.cells #[.slice ad n cap, .int .i64 K] 43)).alloc (.cells #[.string t] 9)).alloc (.cells #[.slice none 0 0] 48)) = W3 := ⟨_, rfl⟩
  have q0 : W3.cell? ⟨c, 0, none⟩ = some (.slice ad n cap) := by subst hW3; subst hc; simp [go_sem]
  have q1 : W3.cell? ⟨c, 1, none⟩ = some (.int .i64 K) := by subst hW3; subst hc; simp [go_sem]
  have q2 : W3.cell? ⟨c + 1, 0, none⟩ = some (.string t) := by subst hW3; subst hc; simp [go_sem]
  have hs3 : W3.heap.size = c + 3 := by subst hW3; subst hc; simp
  rw [hW3] at hb bO hB0
  clear hW3 bT hL0
  rw [← hc] at hl htx hst hsz hb bO hB0 hR ⊢
  have hcw : c ≤ w.heap.size := by omega
  have HCW := Lib.hid hc
  clear hc
  have hR3 := hR.below hB0 (Nat.le_refl _)
  have hBw1 : Below c w w1 := hB0.trans (hb.mono (by omega))
  have hP : PlArgs w1 c (c + 3) ad n cap K L t 0 := ⟨⟨hl.1, hl.2.1⟩, htx, hst, hR3.below hb (by omega)⟩
  have p0 := (hb.cell (p := ⟨c, 0, none⟩) (by show c < c + 3; omega)).trans q0
  have p1 := (hb.cell (p := ⟨c, 1, none⟩) (by show c < c + 3; omega)).trans q1
  have p2 := (hb.cell (p := ⟨c + 1, 0, none⟩) (by show c + 1 < c + 3; omega)).trans q2
  have bO1 : Boxed w1 (c + 2) 48 (.slice none 0 0) := Boxed.below bO hb (by omega)
  obtain ⟨cnt, hcnt⟩ : ∃ cnt, cnt = many t n L K 0 := ⟨_, rfl⟩
  refine wpIn_rangeFunc_ownG rfl (by omega) (gf := 125) (lb := #[.pointer (some ⟨c + 3, 0, none⟩), .pointer (some ⟨c + 5, 0, none⟩), .pointer (some ⟨c + 4, 0, none⟩)]) rfl trivial (enters_of Try.func125 (by kernel_rfl) rfl)
    (places_stops 8 c (c + 3) ad n cap K L hn t ht 0 0 rfl w1 (by omega) (by omega) hP) keeps3_t (keeps3_b (by omega) (by omega)) (Below.refl _ _) (fun _ => rfl)
    (fun pre W => ((W.cell? ⟨c, 0, none⟩ = some (.slice ad n cap) ∧ W.cell? ⟨c, 1, none⟩ = some (.int .i64 K) ∧ W.cell? ⟨c + 1, 0, none⟩ = some (.string t)) ∧ (∃ v, Boxed W (c + 2) 48 v ∧ W.ownsRow (c + 6) 3 1 v (fnd t n L K (pre.map fun q => pw t n L K 0 q)).length (ints (fnd t n L K (pre.map fun q => pw t n L K 0 q))) ∧ True)) ∧ Below c w1 W)
    (fun _ _ _ => False)
    (OwnFrom.and (OwnFrom.and (Own.from (fun s A B row hs hg hr => ⟨cell_kept hs.1 hg hr, cell_kept hs.2.1 hg hr, cell_kept hs.2.2 hg hr⟩) _) (Own.from (holdsRow_own (c + 6) (c + 2) 48 3 1 (fun pre : List Nat => (fnd t n L K (pre.map fun q => pw t n L K 0 q)).length) (fun pre => ints (fnd t n L K (pre.map fun q => pw t n L K 0 q))) (fun _ _ => True)) _)) (ownFrom_below (by omega) (by omega)))
    (fun _ _ _ _ _ hs _ _ => hs)
    ⟨⟨⟨p0, p1, p2⟩, _, bO1, World.ownsRow_nil _ _ _ _, trivial⟩, Below.refl _ _⟩
    (fun x => { tmps := #[lv ad n cap K, .string t, .pointer (some ⟨c, 0, none⟩), .pointer (some ⟨c + 1, 0, none⟩), .slice none 0 0, .pointer (some ⟨c + 2, 0, none⟩), .int .i64 (pw t n L K 0 x : Nat), .agg #[.slice ad n cap, .int .i64 K], .string t, .func (.func 125) #[] #[.pointer (some ⟨c + 3, 0, none⟩), .pointer (some ⟨c + 5, 0, none⟩), .pointer (some ⟨c + 4, 0, none⟩)], .int .i64 (pw t n L K 0 x : Nat), undef, undef, undef, undef, undef, undef, undef, undef, undef, undef, undef, undef, undef, undef], defers := [] }) ?assign ?body ?done ?stop
  case assign =>
    intro l x W K hK
    gi_wp2
    exact hK
  case body =>
    rintro l pre x W ⟨⟨⟨e0, e1, e2⟩, v, hv, hrow, -⟩, hB⟩ hlt
    obtain ⟨ad1, cap1, rfl⟩ := own_slice hrow
    have hvc := hv.cell
    obtain ⟨i0, hi, hy0, hy1, hy2⟩ := info_parts info3
    have hyn := pw_fits hlt x
    have hpl : pre.length ≤ 1000 := by have h1 : pre.length < many t n L K 0 := hlt; unfold many at h1; split at h1 <;> omega
    have hfl := fnd_length t n L K (pre.map fun q => pw t n L K 0 q)
    rw [List.length_map] at hfl
    have hsn := fnd_snoc t n L K (pre.map fun q => pw t n L K 0 q) (pw t n L K 0 x)
    rw [show (pre.map fun q => pw t n L K 0 q) ++ [pw t n L K 0 x] = (pre ++ [x]).map fun q => pw t n L K 0 q by rw [List.map_append]; rfl] at hsn
    have HSN := Lib.hid hsn
    clear hsn
    obtain ⟨y, hy⟩ : ∃ y, y = pw t n L K 0 x := ⟨_, rfl⟩
    rw [← hy] at hyn HSN ⊢
    clear hy hlt
    obtain ⟨fl, hfe⟩ : ∃ fl, fl = fnd t n L K (pre.map fun q => pw t n L K 0 q) := ⟨_, rfl⟩
    rw [← hfe] at hrow hfl hvc hv HSN
    clear hfe
    have hRW : RowC W.drew ad n L W.drew.heap.size := (hR.below (hBw1.trans hB) (Nat.le_refl _)).mono (show c ≤ W.drew.heap.size by have := hB.size; simp; omega)
    have h6 : c + 6 ≤ W.heap.size := by have := hB.size; omega
    have hmix : Try.prog.follows .mixedOrders = true := by kernel_rfl
    gi_wp2_with fail
    refine region_round (fun w' => w'.cell? ⟨c, 0, none⟩ = some (.slice ad n cap) ∧ w'.cell? ⟨c, 1, none⟩ = some (.int .i64 K) ∧ w'.cell? ⟨c + 1, 0, none⟩ = some (.string t)) hmix (by kernel_rfl) (by rintro ⟨a, w, h⟩; exact h) ⟨e0, e1, e2⟩ ?_
    intro hS
    refine takeD 0 11 (.agg #[.slice ad n cap, .int .i64 K]) rfl rfl (by kernel_rfl) (by kernel_rfl) (by kernel_rfl) (fun _ _ _ h => h) (Or.inl ⟨by rfl, by intro w' hSw; obtain ⟨s0, s1, s2⟩ := hSw; go_simp⟩) hS ?_
    try simp only [Act.put, List.setIfInBounds_toArray, List.set_cons_zero, List.set_cons_succ]
    refine takeD 1 12 (.string t) rfl rfl (by kernel_rfl) (by kernel_rfl) (by kernel_rfl) (fun _ _ _ h => h) (Or.inl ⟨by rfl, by intro w' hSw; obtain ⟨s0, s1, s2⟩ := hSw; go_simp⟩) hS ?_
    try simp only [Act.put, List.setIfInBounds_toArray, List.set_cons_zero, List.set_cons_succ]
    refine takeD 2 13 (.int .i64 (y : Nat)) rfl rfl (by kernel_rfl) (by kernel_rfl) (by kernel_rfl) (fun _ _ _ h => h) (Or.inl ⟨by rfl, by intro w' hSw; obtain ⟨s0, s1, s2⟩ := hSw; go_simp⟩) hS ?_
    try simp only [Act.put, List.setIfInBounds_toArray, List.set_cons_zero, List.set_cons_succ]
    refine takeD 3 14 (.pointer (some ⟨c, 1, none⟩)) rfl rfl (by kernel_rfl) (by kernel_rfl) (by kernel_rfl) (fun _ _ _ h => h) (Or.inl ⟨by rfl, by intro w' hSw; obtain ⟨s0, s1, s2⟩ := hSw; go_simp⟩) hS ?_
    try simp only [Act.put, List.setIfInBounds_toArray, List.set_cons_zero, List.set_cons_succ]
    refine takeD 4 15 (.int .i64 K) rfl rfl (by kernel_rfl) (by kernel_rfl) (by kernel_rfl) (fun _ _ _ h => h) (Or.inl ⟨by rfl, by intro w' hSw; obtain ⟨s0, s1, s2⟩ := hSw; go_simp⟩) hS ?_
    try simp only [Act.put, List.setIfInBounds_toArray, List.set_cons_zero, List.set_cons_succ]
    refine takeD 6 17 (.pointer (some ⟨c, 1, none⟩)) rfl rfl (by kernel_rfl) (by kernel_rfl) (by kernel_rfl) (fun _ _ _ h => h) (Or.inl ⟨by rfl, by intro w' hSw; obtain ⟨s0, s1, s2⟩ := hSw; go_simp⟩) hS ?_
    try simp only [Act.put, List.setIfInBounds_toArray, List.set_cons_zero, List.set_cons_succ]
    refine takeD 7 18 (.int .i64 K) rfl rfl (by kernel_rfl) (by kernel_rfl) (by kernel_rfl) (fun _ _ _ h => h) (Or.inl ⟨by rfl, by intro w' hSw; obtain ⟨s0, s1, s2⟩ := hSw; go_simp⟩) hS ?_
    try simp only [Act.put, List.setIfInBounds_toArray, List.set_cons_zero, List.set_cons_succ]
    have hrowd := hrow.drew
    have hvd : Boxed W.drew (c + 2) 48 (.slice ad1 fl.length cap1) := hv
    refine wpAnyH_ready (rs := [5]) (by kernel_rfl) (by simp) ?_
    refine AllReadyH.cons rfl (fun Kc hK => ?_) AllReadyH.nil
    go_simp
    go_at_call 109
    refine (misses_any ad n cap K L t (by omega) y hyn K _ hRW).mono ?_
    rintro e w2 ⟨⟨r, rfl, hr1, hr2⟩, hb2⟩
    dsimp only
    have hv2 := hvd.kept (grown_of_below hb2 none) (by simp)
    have hrow2 := own_below hrowd hb2
    have hz2 : W.drew.heap.size ≤ w2.heap.size := hb2.size
    have hz2' : W.heap.size ≤ w2.heap.size := hz2
    have hcl2 : c + 2 < w2.heap.size := by omega
    have hS2 : w2.cell? ⟨c, 0, none⟩ = some (.slice ad n cap) ∧ w2.cell? ⟨c, 1, none⟩ = some (.int .i64 K) ∧ w2.cell? ⟨c + 1, 0, none⟩ = some (.string t) := ⟨(hb2.cell (p := ⟨c, 0, none⟩) (show c < W.heap.size by omega)).trans e0, (hb2.cell (p := ⟨c, 1, none⟩) (show c < W.heap.size by omega)).trans e1, (hb2.cell (p := ⟨c + 1, 0, none⟩) (show c + 1 < W.heap.size by omega)).trans e2⟩
    refine hK.out _ _ hS2 (fun hH => ?_)
    try simp only [Act.put, List.setIfInBounds_toArray, List.set_cons_zero, List.set_cons_succ]
    clear hK Kc
    have hko : KeepsOthers W w2 := (KeepsOthers.drew W).trans (KeepsOthers.of_grownBy (grown_of_below hb2 none) (by simp))
    have hbW : Below c W w2 := (Below.refl c W).drew.trans (hb2.mono (show c ≤ W.heap.size by omega))
    have hk3 : ∀ b o, c + 3 ≤ b → b < c + 3 + 3 → w2.cell? ⟨b, o, none⟩ = W.cell? ⟨b, o, none⟩ := fun b o h1 h2 => hb2.cell (p := ⟨b, o, none⟩) (show b < W.heap.size by omega)
    have HK3 := Lib.hid hk3
    have hvc2 := hv2.cell
    clear hk3 hvd hrowd e0 e1 e2 hS hRW hv hrow hb2 hvc
    obtain ⟨s0, s1, s2⟩ := hS2
    by_cases hq : (mis t L y n : Int) ≤ K
    · have hr := hr1 hq
      have hrK : (r : Int) ≤ K := by omega
      clear hr1 hr2 hr
      rw [if_pos hq] at HSN
      clear hq
      refine takeD 8 19 (.bool true) rfl rfl (by kernel_rfl) (by kernel_rfl) (by kernel_rfl) (fun _ _ _ h => h) (Or.inl ⟨by rfl, by intro w' hSw; go_simp⟩) hH ?_
      try simp only [Act.put, List.setIfInBounds_toArray, List.set_cons_zero, List.set_cons_succ]
      refine wpAnyH_done (by kernel_rfl) ?_ _
      gi_wp2_with (gi_at_builtin; refine wpListIn_append_own _ rfl _ _ 48 rfl (c + 6) 3 i0 (.int .i64 0) 1 8 Try.underlying48 hi hy0 hy1 hy2 rfl (by decide) _ _ _ rfl (hrow2.alloc _) ⟨w2.heap.size, 0, none⟩ 1 1 [.int .i64 (y : Nat)] rfl rfl (cell_one_new _ _ _) (by simp [Value.oneCell']) (by unfold maxLen; omega) (by omega) (by simp; omega) ?_; intro v' w3 hown3 hgrow3 _; obtain ⟨g3, cap3, rfl⟩ := ownsRow_succ hown3; obtain ⟨hv3, hv4, hr4, hk4, hb4, hc4⟩ := Boxed.appended2 hv2 (m := c) (by decide) hrow2 (by omega) (by omega) (by omega) hown3 hgrow3; have hvc3 := hv3.cell; have hvf3 := hv3.frozen)
      refine ⟨(hko.trans hk4).from _, ⟨hbW.trans hb4, fun b o h1 h2 => (hc4 b o (by omega) (by omega)).trans (HK3.out b o h1 h2)⟩, ⟨⟨(hc4 c 0 (by omega) (by omega)).trans s0, (hc4 c 1 (by omega) (by omega)).trans s1, (hc4 (c + 1) 0 (by omega) (by omega)).trans s2⟩, _, hv4, ?_⟩, (hB.trans hbW).trans hb4⟩
      rw [HSN, ints_snoc, List.length_append]
      exact ⟨hr4, trivial⟩
    · have hr := hr2 (by omega)
      have hrK : K < (r : Int) := by omega
      clear hr1 hr2 hr
      rw [if_neg hq] at HSN
      clear hq
      refine takeD 8 19 (.bool false) rfl rfl (by kernel_rfl) (by kernel_rfl) (by kernel_rfl) (fun _ _ _ h => h) (Or.inl ⟨by rfl, by intro w' hSw; go_simp⟩) hH ?_
      try simp only [Act.put, List.setIfInBounds_toArray, List.set_cons_zero, List.set_cons_succ]
      refine wpAnyH_done (by kernel_rfl) ?_ _
      gi_wp2
      exact ⟨hko.from _, ⟨hbW, HK3.out⟩, ⟨⟨s0, s1, s2⟩, _, hv2, by rw [HSN]; exact ⟨hrow2, trivial⟩⟩, hB.trans hbW⟩
  case done =>
    rintro D ys W hD rfl ⟨⟨⟨e0, e1, e2⟩, v, hv, hrow, -⟩, hB⟩ hK
    obtain ⟨ad1, cap1, rfl⟩ := own_slice hrow
    have hvc := hv.cell
    gi_wp2
    refine ⟨by simp, .inl ⟨_, _, rfl, run_takeDeferred hK, ?_⟩⟩
    have hcw' : w.heap.size ≤ c := by have := HCW.out; omega
    have hbe := belowK_b (w := w) (Nat.le_refl _) W D _ (.deferred none) (by omega) hK rfl rfl
    have hB' : Below w.heap.size w W := (hBw1.trans hB).mono hcw'
    have hrow' := own_le (ownsRow_putObj hrow (.deferred none) hK rfl) (show w.heap.size ≤ c + 6 by omega)
    have hpm := pw_map t n L K 0 (many t n L K 0) (Nat.le_refl _) (fun q => q)
    rw [List.map_id'] at hpm
    rw [hpm] at hrow'
    exact ⟨_, results_tmp rfl _ _ _, _, rfl, by show World.ownsRow _ _ 3 1 (.slice ad1 (fnd t n L K (List.map (fun q => pw t n L K 0 q) (plc 0 (many t n L K 0)))).length cap1) _ _; rw [hpm]; exact hrow', hB'.trans hbe⟩
  case stop =>
    rintro D cc pre W _ _ h _
    exact h.elim
end Go.Proofs.Ytkhcjjdamphbfaa
