/- Walk of the function that a stream's search makes. -/
import Derived.Test.YtjfkmoinldlmaaaGreatSa27
import Derived.Deep.RegionHeldLaw
import Derived.ScopeJumps
import Derived.BigQuiet
namespace Go.Proofs.YtjfkmoinldlmaaaGreat
open Go.RowKit Go.Shelf

abbrev strC (seen rounds : Int) (q : Value) (limit longest : Int) (held : ByteArray) (en : Int) (sr fd : Value) : Obj :=
  .cells #[.int .i64 seen, .int .i64 rounds, q, .int .i64 0, .int .i64 0, .int .i64 limit, .int .i64 longest, .string held, .int .i64 en, sr, fd] 137

theorem Ex.far {S : List Nat} {a b c : World} {N : Nat} (h : Ex S a b) (k : Below N b c) (hN : a.heap.size ≤ N) : Ex S a c :=
  ⟨k.os.trans h.os, k.tape.trans h.tape, k.output.trans h.output, Nat.le_trans h.size k.size, fun i hi hn => (k.block i (by omega)).trans (h.block i hi hn)⟩

/-- What the function's rounds read. -/
structure ClS (w : World) (N S own sb nx kb FD cfd g : Nat) (ad : Option Addr) (cap : Nat) (v : Value) : Prop where
  own_ : w.cell? ⟨own, 0, none⟩ = some (.slice ad 2 cap)
  sb_ : w.cell? ⟨sb, 0, none⟩ = some (.pointer (some ⟨S, 0, none⟩))
  s10 : w.cell? ⟨S, 10, none⟩ = some (.slice (some ⟨FD, 0, none⟩) 1 cfd)
  nx_ : w.cell? ⟨nx, 0, none⟩ = some (.int .i64 0)
  kb_ : w.cell? ⟨kb, 0, none⟩ = some (.int .i64 0)
  fd_ : w.cell? ⟨FD, 0, none⟩ = some v
  ff : w.frozen? ⟨FD, 0, none⟩ = false
  nf : w.frozen? ⟨nx, 0, none⟩ = false
  f0 : w.cell? ⟨g, 0, none⟩ = some (.int .i64 0)
  f1 : w.cell? ⟨g, 1, none⟩ = some (.int .i64 2)
  lo : own < N ∧ sb < N ∧ S < N ∧ nx < N ∧ kb < N ∧ FD < N ∧ g < N
  ne : own ≠ FD ∧ sb ≠ FD ∧ S ≠ FD ∧ nx ≠ FD ∧ kb ≠ FD ∧ g ≠ FD
  hN : N ≤ w.heap.size
theorem ClS.below {w w' : World} {N S own sb nx kb FD cfd g cap : Nat} {ad : Option Addr} {v : Value} (h : ClS w N S own sb nx kb FD cfd g ad cap v) (hb : Below N w w') : ClS w' N S own sb nx kb FD cfd g ad cap v := by
  obtain ⟨a1, a2, a3, a4, a5, a6, a7, a8, a9, a10, ⟨b1, b2, b3, b4, b5, b6, b7⟩, c, d⟩ := h
  exact ⟨(hb.cell (p := ⟨own, 0, none⟩) b1).trans a1, (hb.cell (p := ⟨sb, 0, none⟩) b2).trans a2, (hb.cell (p := ⟨S, 10, none⟩) b3).trans a3, (hb.cell (p := ⟨nx, 0, none⟩) b4).trans a4, (hb.cell (p := ⟨kb, 0, none⟩) b5).trans a5, (hb.cell (p := ⟨FD, 0, none⟩) b6).trans a6, (hb.frozen (p := ⟨FD, 0, none⟩) b6).trans a7, (hb.frozen (p := ⟨nx, 0, none⟩) b4).trans a8, (hb.cell (p := ⟨g, 0, none⟩) b7).trans a9, (hb.cell (p := ⟨g, 1, none⟩) b7).trans a10, ⟨b1, b2, b3, b4, b5, b6, b7⟩, c, Nat.le_trans d hb.size⟩
theorem ClS.set {w : World} {N S own sb nx kb FD cfd g cap : Nat} {ad : Option Addr} {v : Value} (h : ClS w N S own sb nx kb FD cfd g ad cap v) (v' : Value) : ClS (w.setCell ⟨FD, 0, none⟩ v') N S own sb nx kb FD cfd g ad cap v' := by
  obtain ⟨a1, a2, a3, a4, a5, a6, a7, a8, a9, a10, ⟨b1, b2, b3, b4, b5, b6, b7⟩, ⟨c1, c2, c3, c4, c5, c6⟩, d⟩ := h
  have o : ∀ B j, B ≠ FD → (w.setCell ⟨FD, 0, none⟩ v').cell? ⟨B, j, none⟩ = w.cell? ⟨B, j, none⟩ := fun B j hB => World.cell?_setCell_other _ _ _ _ (by intro e; injection e with h1 h2; omega)
  exact ⟨(o _ _ c1).trans a1, (o _ _ c2).trans a2, (o _ _ c3).trans a3, (o _ _ c4).trans a4, (o _ _ c5).trans a5, by simp [go_sem, a6], by rw [World.frozen?_setCell]; exact a7, by rw [World.frozen?_setCell]; exact a8, (o _ _ c6).trans a9, (o _ _ c6).trans a10, ⟨b1, b2, b3, b4, b5, b6, b7⟩, ⟨c1, c2, c3, c4, c5, c6⟩, by simpa using d⟩

set_option maxRecDepth 100000 in
set_option maxHeartbeats 4000000 in
theorem closure_two (S own sb nx kb FD cfd cap : Nat) (ad : Option Addr) (K seen rounds limit longest en : Int) (q sr : Value) (L : Nat → Nat → Bool) (t : ByteArray) (ht : t.size = 4) (hr : rightB 2 L K = true) (ho : occ t 2 L K = [0, 2]) (w : World)
    (hR : RowC w ad 2 L w.heap.size) (hC : SrchC w S own sb nx kb ad 2 cap K) (hS : At w S (strC seen rounds q limit longest t en sr (.slice (some ⟨FD, 0, none⟩) 1 cfd))) (hF : At w FD (.cells #[.slice none 0 0] 24)) (hne : own ≠ FD ∧ sb ≠ FD ∧ S ≠ FD ∧ nx ≠ FD ∧ kb ≠ FD) :
    Calls Tryz.prog 162 #[.int .i64 0, .string t, .pointer (some ⟨own, 0, none⟩), .pointer (some ⟨sb, 0, none⟩), .pointer (some ⟨nx, 0, none⟩), .pointer (some ⟨kb, 0, none⟩)] w fun e w' => ∃ v g c, e = .returned v ∧ Ex [FD, nx] w w' ∧ w.heap.size ≤ g ∧ w'.cell? ⟨FD, 0, none⟩ = some (.slice (some ⟨g, 0, none⟩) 2 c) ∧ Two w' g 0 2 := by
  have h1 := Lib.hid fun w' (h : RowC w' ad 2 L w'.heap.size) => leaf_ev ad 2 cap K 0 0 L t (by omega) (by omega) hr w' h
  rw [ho] at h1
  have HR := Lib.hid hR
  have o0 := hC.own_.cell 0
  have o1 := hC.own_.cell 1
  have s0 := hC.sb_.cell 0
  have n0 := hC.nx_.cell 0
  have k0 := hC.kb_.cell 0
  have st3 := hS.cell 3
  have st4 := hS.cell 4
  have st10 := hS.cell 10
  have fd0 := hF.cell 0
  have ffd := hF.free 0
  have fnx := hC.nx_.free 0
  have ol := hC.own_.lt
  have sl := hC.sb_.lt
  have nl := hC.nx_.lt
  have kl := hC.kb_.lt
  have Sl := hS.lt
  have Fl := hF.lt
  have hti : (t.size : Int) = 4 := by omega
  simp only [List.getElem?_toArray, List.getElem?_cons_zero, List.getElem?_cons_succ] at o0 o1 s0 n0 k0 st3 st4 st10 fd0
  have hw0 : IntKind.i64.wrap 0 = 0 := by decide
  have hw2 : IntKind.i64.wrap 2 = 2 := by decide
  clear hR hC hS hF hr ho ht
  go_enter Tryz.func162, Tryz.ntmps162
  go_wp2_with fail
  go_region_held3 (fun w' => Old w w') (first | with_reducible assumption | with_reducible exact Old.start _ | with_reducible exact Old.calld (Old.refl _) (by with_reducible assumption) | with_reducible exact Old.call (by with_reducible assumption) (by with_reducible assumption)) (first | (go_at_call 163; refine (h1.out w.drew ((HR.out.below ((Below.refl _ w).drew) (Nat.le_refl _)).mono (Nat.le_refl _))).mono ?_; rintro e w1 ⟨v1, z1, rfl, ho1, hb1⟩; obtain ⟨g, c, rfl, hg, hgl, cc⟩ := own_at ho1 Nat.two_pos rfl; have O1 := Old.calld (Old.refl w) hb1; have f0 := cc 0 _ rfl; have f1 := cc 1 _ rfl; clear ho1))
  go_wp2_with fail
  refine wp_loop_rounds 3 ?_
  rw [rounds_succ]
  have hb := O1.2.2.2
  have hsz := hb.size
  have hcl0 : ClS w1 w1.heap.size S own sb nx kb FD cfd g ad cap (.slice none 0 0) := ⟨(hb.cell (p := ⟨own, 0, none⟩) ol).trans o0, (hb.cell (p := ⟨sb, 0, none⟩) sl).trans s0, (hb.cell (p := ⟨S, 10, none⟩) Sl).trans st10, (hb.cell (p := ⟨nx, 0, none⟩) nl).trans n0, (hb.cell (p := ⟨kb, 0, none⟩) kl).trans k0, (hb.cell (p := ⟨FD, 0, none⟩) Fl).trans fd0, (hb.frozen (p := ⟨FD, 0, none⟩) Fl).trans ffd, (hb.frozen (p := ⟨nx, 0, none⟩) nl).trans fnx, f0, f1, ⟨by omega, by omega, by omega, by omega, by omega, by omega, hgl⟩, ⟨hne.1, hne.2.1, hne.2.2.1, hne.2.2.2.1, hne.2.2.2.2, by have : w.drew.heap.size = w.heap.size := rfl; omega⟩, Nat.le_refl _⟩
  have HB := Lib.hid hb
  clear hb1 O1 hb f0 f1 st3 st4 hg h1
  generalize hNe : w1.heap.size = N at hcl0 hgl
  have HNe := Lib.hid hNe
  clear hNe
  have HW0 : Hid (w1.drew.ownsRow N 3 1 (.slice none 0 0) 0 []) := Lib.hid (World.ownsRow_nil _ _ _ _)
  have Hc0 := Lib.hid hcl0
  obtain ⟨-, b1, b2, b3, b4, b5, b6, -, b7, b8, -, -, b9⟩ := hcl0
  go_wp2_with fail
  have dA0 : (w1.drew).cell? ⟨sb, 0, none⟩ = some (.pointer (some ⟨S, 0, none⟩)) ∧ (w1.drew).cell? ⟨S, 10, none⟩ = some (.slice (some ⟨FD, 0, none⟩) 1 cfd) ∧ (w1.drew).cell? ⟨kb, 0, none⟩ = some (.int .i64 0) := ⟨b1, b2, b4⟩
  have dB0 : (w1.drew.alloc (.cells #[.int .i64 0] 3)).cell? ⟨sb, 0, none⟩ = some (.pointer (some ⟨S, 0, none⟩)) ∧ (w1.drew.alloc (.cells #[.int .i64 0] 3)).cell? ⟨S, 10, none⟩ = some (.slice (some ⟨FD, 0, none⟩) 1 cfd) ∧ (w1.drew.alloc (.cells #[.int .i64 0] 3)).cell? ⟨kb, 0, none⟩ = some (.int .i64 0) := by
    have h := Hc0.out.below ((Below.refl N w1).drew.alloc b9 (.cells #[.int .i64 0] 3))
    exact ⟨h.sb_, h.s10, h.kb_⟩
  have cB0 := (Hc0.out.below ((Below.refl N w1).drew.alloc b9 (.cells #[.int .i64 0] 3))).fd_
  have cD0 : (w1.alloc (.cells #[.int .i64 0] 3)).drew.cell? ⟨FD, 0, none⟩ = some (.slice none 0 0) := cB0
  have fK0 : FD < w1.heap.size := Nat.lt_of_lt_of_le Hc0.out.lo.2.2.2.2.2.1 b9
  have DA0 := Lib.hid b9
  refine wp_region_held_drew (S := fun w' => (w').cell? ⟨sb, 0, none⟩ = some (.pointer (some ⟨S, 0, none⟩)) ∧ (w').cell? ⟨S, 10, none⟩ = some (.slice (some ⟨FD, 0, none⟩) 1 cfd) ∧ (w').cell? ⟨kb, 0, none⟩ = some (.int .i64 0)) (by kernel_rfl) dA0 (fun hS => ?_)
  refine takeD 0 35 (.pointer (some ⟨S, 0, none⟩)) rfl rfl (by kernel_rfl) (by kernel_rfl) (by kernel_rfl) (fun _ _ _ h => h) (Or.inl ⟨by rfl, by intro w' hSw; obtain ⟨s0, s1, s2⟩ := hSw; go_simp⟩) hS ?_
  simp only [Act.put, List.setIfInBounds_toArray, List.set_cons_zero, List.set_cons_succ]
  refine takeD 1 36 (.pointer (some ⟨S, 0, none⟩)) rfl rfl (by kernel_rfl) (by kernel_rfl) (by kernel_rfl) (fun _ _ _ h => h) (Or.inl ⟨by rfl, by intro w' hSw; obtain ⟨s0, s1, s2⟩ := hSw; go_simp⟩) hS ?_
  simp only [Act.put, List.setIfInBounds_toArray, List.set_cons_zero, List.set_cons_succ]
  refine takeD 2 37 (.pointer (some ⟨S, 10, none⟩)) rfl rfl (by kernel_rfl) (by kernel_rfl) (by kernel_rfl) (fun _ _ _ h => h) (Or.inl ⟨by rfl, by intro w' hSw; obtain ⟨s0, s1, s2⟩ := hSw; go_simp⟩) hS ?_
  simp only [Act.put, List.setIfInBounds_toArray, List.set_cons_zero, List.set_cons_succ]
  refine takeD 3 38 (.slice (some ⟨FD, 0, none⟩) 1 cfd) rfl rfl (by kernel_rfl) (by kernel_rfl) (by kernel_rfl) (fun _ _ _ h => h) (Or.inl ⟨by rfl, by intro w' hSw; obtain ⟨s0, s1, s2⟩ := hSw; go_simp⟩) hS ?_
  simp only [Act.put, List.setIfInBounds_toArray, List.set_cons_zero, List.set_cons_succ]
  refine takeD 4 39 (.int .i64 0) rfl rfl (by kernel_rfl) (by kernel_rfl) (by kernel_rfl) (fun _ _ _ h => h) (Or.inl ⟨by rfl, by intro w' hSw; obtain ⟨s0, s1, s2⟩ := hSw; go_simp⟩) hS ?_
  simp only [Act.put, List.setIfInBounds_toArray, List.set_cons_zero, List.set_cons_succ]
  refine takeD 5 40 (.pointer (some ⟨S, 0, none⟩)) rfl rfl (by kernel_rfl) (by kernel_rfl) (by kernel_rfl) (fun _ _ _ h => h) (Or.inl ⟨by rfl, by intro w' hSw; obtain ⟨s0, s1, s2⟩ := hSw; go_simp⟩) hS ?_
  simp only [Act.put, List.setIfInBounds_toArray, List.set_cons_zero, List.set_cons_succ]
  refine takeD 6 41 (.pointer (some ⟨S, 0, none⟩)) rfl rfl (by kernel_rfl) (by kernel_rfl) (by kernel_rfl) (fun _ _ _ h => h) (Or.inl ⟨by rfl, by intro w' hSw; obtain ⟨s0, s1, s2⟩ := hSw; go_simp⟩) hS ?_
  simp only [Act.put, List.setIfInBounds_toArray, List.set_cons_zero, List.set_cons_succ]
  refine takeD 7 42 (.pointer (some ⟨S, 10, none⟩)) rfl rfl (by kernel_rfl) (by kernel_rfl) (by kernel_rfl) (fun _ _ _ h => h) (Or.inl ⟨by rfl, by intro w' hSw; obtain ⟨s0, s1, s2⟩ := hSw; go_simp⟩) hS ?_
  simp only [Act.put, List.setIfInBounds_toArray, List.set_cons_zero, List.set_cons_succ]
  refine takeD 8 43 (.slice (some ⟨FD, 0, none⟩) 1 cfd) rfl rfl (by kernel_rfl) (by kernel_rfl) (by kernel_rfl) (fun _ _ _ h => h) (Or.inl ⟨by rfl, by intro w' hSw; obtain ⟨s0, s1, s2⟩ := hSw; go_simp⟩) hS ?_
  simp only [Act.put, List.setIfInBounds_toArray, List.set_cons_zero, List.set_cons_succ]
  refine takeD 9 44 (.int .i64 0) rfl rfl (by kernel_rfl) (by kernel_rfl) (by kernel_rfl) (fun _ _ _ h => h) (Or.inl ⟨by rfl, by intro w' hSw; obtain ⟨s0, s1, s2⟩ := hSw; go_simp⟩) hS ?_
  simp only [Act.put, List.setIfInBounds_toArray, List.set_cons_zero, List.set_cons_succ]
  refine takeD 10 45 (.pointer (some ⟨FD, 0, none⟩)) rfl rfl (by kernel_rfl) (by kernel_rfl) (by kernel_rfl) (fun _ _ _ h => h) (Or.inl ⟨by rfl, by intro w' hSw; obtain ⟨s0, s1, s2⟩ := hSw; go_simp⟩) hS ?_
  simp only [Act.put, List.setIfInBounds_toArray, List.set_cons_zero, List.set_cons_succ]
  refine takeD 12 47 (.int .i64 0) rfl rfl (by kernel_rfl) (by kernel_rfl) (by kernel_rfl) (fun _ _ _ h => h) (Or.inl ⟨by rfl, by intro w' hSw; obtain ⟨s0, s1, s2⟩ := hSw; go_simp⟩) hS ?_
  simp only [Act.put, List.setIfInBounds_toArray, List.set_cons_zero, List.set_cons_succ]
  refine takeD 13 48 (.int .i64 0) rfl rfl (by kernel_rfl) (by kernel_rfl) (by kernel_rfl) (fun _ _ _ h => h) (Or.inl ⟨by rfl, by intro w' hSw; obtain ⟨s0, s1, s2⟩ := hSw; go_simp⟩) hS ?_
  simp only [Act.put, List.setIfInBounds_toArray, List.set_cons_zero, List.set_cons_succ]
  refine takeD 14 49 (.int .i64 0) rfl rfl (by kernel_rfl) (by kernel_rfl) (by kernel_rfl) (fun _ _ _ h => h) (Or.inl ⟨by rfl, by intro w' hSw; obtain ⟨s0, s1, s2⟩ := hSw; go_simp⟩) hS ?_
  simp only [Act.put, List.setIfInBounds_toArray, List.set_cons_zero, List.set_cons_succ]
  refine wpAnyH_ready (rs := [11, 15]) (by kernel_rfl) (by simp) ?_
  refine AllReadyH.cons rfl (fun Kc hK => ?_) (AllReadyH.cons rfl (fun Kc hK => ?_) AllReadyH.nil)
  go_simp
  refine hK.out _ _ hS (fun hH => ?_)
  try simp only [Act.put, List.setIfInBounds_toArray, List.set_cons_zero, List.set_cons_succ]
  clear hK Kc
  refine wpAnyH_ready (rs := [15]) (by kernel_rfl) (by simp) ?_
  refine AllReadyH.cons rfl (fun Kc hK => ?_) AllReadyH.nil
  go_simp
  refine hK.out _ _ dB0 (fun hH => ?_)
  try simp only [Act.put, List.setIfInBounds_toArray, List.set_cons_zero, List.set_cons_succ]
  clear hK Kc
  refine wpAnyH_ready (rs := [16]) (by kernel_rfl) (by simp) ?_
  refine AllReadyH.cons (o := { dst := some 51, op := .call { callee := .builtin .append, args := #[.tmp 46, .tmp 50], argTypes := #[24, 24] }, type := 24, pos := "stream.go:61", after := _, guard := none }) rfl (fun Kc hK => ?_) AllReadyH.nil
  refine step_app elem24 (by with_reducible rfl) (.tmp 46) (.tmp 50) (by with_reducible rfl) (v := .slice none 0 0) (n := 0) (xs := []) (base := N) (w0 := w1.drew) (by rfl) HW0.out [.int .i64 0] (by rfl) (by rfl) (by simp [Value.oneCell']) (by unfold maxLen; omega) (by omega) DA0.out ?_
  intro v2 w2 hown' hb1
  have hown1 : w2.ownsRow N 3 1 v2 1 [.int .i64 0] := hown'
  clear hown'
  obtain ⟨g1, c1, rfl, hgN, hgL, hcc⟩ := own_at hown1 (Nat.succ_pos _) rfl
  have hq1 := Hc0.out.below ((Below.refl N w1).drew.trans hb1)
  have hcl1 := hq1.set (.slice (some ⟨g1, 0, none⟩) 1 c1)
  have dC : (w2).cell? ⟨sb, 0, none⟩ = some (.pointer (some ⟨S, 0, none⟩)) ∧ (w2).cell? ⟨S, 10, none⟩ = some (.slice (some ⟨FD, 0, none⟩) 1 cfd) ∧ (w2).cell? ⟨kb, 0, none⟩ = some (.int .i64 0) := ⟨hq1.sb_, hq1.s10, hq1.kb_⟩
  have dD : (w2.setCell ⟨FD, 0, none⟩ (.slice (some ⟨g1, 0, none⟩) 1 c1)).cell? ⟨sb, 0, none⟩ = some (.pointer (some ⟨S, 0, none⟩)) ∧ (w2.setCell ⟨FD, 0, none⟩ (.slice (some ⟨g1, 0, none⟩) 1 c1)).cell? ⟨S, 10, none⟩ = some (.slice (some ⟨FD, 0, none⟩) 1 cfd) ∧ (w2.setCell ⟨FD, 0, none⟩ (.slice (some ⟨g1, 0, none⟩) 1 c1)).cell? ⟨kb, 0, none⟩ = some (.int .i64 0) := ⟨hcl1.sb_, hcl1.s10, hcl1.kb_⟩
  have fC := hq1.ff
  have fE := hq1.fd_
  have fL : FD < w2.heap.size := Nat.lt_of_lt_of_le hq1.lo.2.2.2.2.2.1 hq1.hN
  have HO1 := Lib.hid (ownsRow_setCell_below hown1 (a := ⟨FD, 0, none⟩) hq1.lo.2.2.2.2.2.1 (.slice (some ⟨g1, 0, none⟩) 1 c1))
  have HB1 := Lib.hid ((Below.refl N w1).drew.trans hb1)
  clear hq1 hown1 hb1 hcc
  refine hK.out _ _ dC (fun hH => ?_)
  try simp only [Act.put, List.setIfInBounds_toArray, List.set_cons_zero, List.set_cons_succ]
  clear hK Kc
  refine takeD 17 52 (.pointer (some ⟨FD, 0, none⟩)) rfl rfl (by kernel_rfl) (by kernel_rfl) (by kernel_rfl) (fun _ _ _ h => h) (Or.inl ⟨by rfl, by intro w' hSw; obtain ⟨s0, s1, s2⟩ := hSw; go_simp⟩) hH ?_
  simp only [Act.put, List.setIfInBounds_toArray, List.set_cons_zero, List.set_cons_succ]
  refine wpAnyH_ready (rs := [18]) (by kernel_rfl) (by simp) ?_
  refine AllReadyH.cons rfl (fun Kc hK => ?_) AllReadyH.nil
  go_simp
  refine hK.out _ _ dD (fun hH => ?_)
  try simp only [Act.put, List.setIfInBounds_toArray, List.set_cons_zero, List.set_cons_succ]
  clear hK Kc
  refine wpAnyH_done (by kernel_rfl) ?_ _
  rotate_left 1
  go_simp
  refine hK.out _ _ dB0 (fun hH => ?_)
  try simp only [Act.put, List.setIfInBounds_toArray, List.set_cons_zero, List.set_cons_succ]
  clear hK Kc
  refine wpAnyH_ready (rs := [11]) (by kernel_rfl) (by simp) ?_
  refine AllReadyH.cons rfl (fun Kc hK => ?_) AllReadyH.nil
  go_simp
  refine hK.out _ _ dB0 (fun hH => ?_)
  try simp only [Act.put, List.setIfInBounds_toArray, List.set_cons_zero, List.set_cons_succ]
  clear hK Kc
  refine wpAnyH_ready (rs := [16]) (by kernel_rfl) (by simp) ?_
  refine AllReadyH.cons (o := { dst := some 51, op := .call { callee := .builtin .append, args := #[.tmp 46, .tmp 50], argTypes := #[24, 24] }, type := 24, pos := "stream.go:61", after := _, guard := none }) rfl (fun Kc hK => ?_) AllReadyH.nil
  refine step_app elem24 (by with_reducible rfl) (.tmp 46) (.tmp 50) (by with_reducible rfl) (v := .slice none 0 0) (n := 0) (xs := []) (base := N) (w0 := w1.drew) (by rfl) HW0.out [.int .i64 0] (by rfl) (by rfl) (by simp [Value.oneCell']) (by unfold maxLen; omega) (by omega) DA0.out ?_
  intro v2 w2 hown' hb1
  have hown1 : w2.ownsRow N 3 1 v2 1 [.int .i64 0] := hown'
  clear hown'
  obtain ⟨g1, c1, rfl, hgN, hgL, hcc⟩ := own_at hown1 (Nat.succ_pos _) rfl
  have hq1 := Hc0.out.below ((Below.refl N w1).drew.trans hb1)
  have hcl1 := hq1.set (.slice (some ⟨g1, 0, none⟩) 1 c1)
  have dC : (w2).cell? ⟨sb, 0, none⟩ = some (.pointer (some ⟨S, 0, none⟩)) ∧ (w2).cell? ⟨S, 10, none⟩ = some (.slice (some ⟨FD, 0, none⟩) 1 cfd) ∧ (w2).cell? ⟨kb, 0, none⟩ = some (.int .i64 0) := ⟨hq1.sb_, hq1.s10, hq1.kb_⟩
  have dD : (w2.setCell ⟨FD, 0, none⟩ (.slice (some ⟨g1, 0, none⟩) 1 c1)).cell? ⟨sb, 0, none⟩ = some (.pointer (some ⟨S, 0, none⟩)) ∧ (w2.setCell ⟨FD, 0, none⟩ (.slice (some ⟨g1, 0, none⟩) 1 c1)).cell? ⟨S, 10, none⟩ = some (.slice (some ⟨FD, 0, none⟩) 1 cfd) ∧ (w2.setCell ⟨FD, 0, none⟩ (.slice (some ⟨g1, 0, none⟩) 1 c1)).cell? ⟨kb, 0, none⟩ = some (.int .i64 0) := ⟨hcl1.sb_, hcl1.s10, hcl1.kb_⟩
  have fC := hq1.ff
  have fE := hq1.fd_
  have fL : FD < w2.heap.size := Nat.lt_of_lt_of_le hq1.lo.2.2.2.2.2.1 hq1.hN
  have HO1 := Lib.hid (ownsRow_setCell_below hown1 (a := ⟨FD, 0, none⟩) hq1.lo.2.2.2.2.2.1 (.slice (some ⟨g1, 0, none⟩) 1 c1))
  have HB1 := Lib.hid ((Below.refl N w1).drew.trans hb1)
  clear hq1 hown1 hb1 hcc
  refine hK.out _ _ dC (fun hH => ?_)
  try simp only [Act.put, List.setIfInBounds_toArray, List.set_cons_zero, List.set_cons_succ]
  clear hK Kc
  refine takeD 17 52 (.pointer (some ⟨FD, 0, none⟩)) rfl rfl (by kernel_rfl) (by kernel_rfl) (by kernel_rfl) (fun _ _ _ h => h) (Or.inl ⟨by rfl, by intro w' hSw; obtain ⟨s0, s1, s2⟩ := hSw; go_simp⟩) hH ?_
  simp only [Act.put, List.setIfInBounds_toArray, List.set_cons_zero, List.set_cons_succ]
  refine wpAnyH_ready (rs := [18]) (by kernel_rfl) (by simp) ?_
  refine AllReadyH.cons rfl (fun Kc hK => ?_) AllReadyH.nil
  go_simp
  refine hK.out _ _ dD (fun hH => ?_)
  try simp only [Act.put, List.setIfInBounds_toArray, List.set_cons_zero, List.set_cons_succ]
  clear hK Kc
  refine wpAnyH_done (by kernel_rfl) ?_ _
  all_goals (go_wp2_with fail)
  all_goals (rw [rounds_succ])
  all_goals (generalize hW1 : w2.setCell ⟨FD, 0, none⟩ (.slice (some ⟨g1, 0, none⟩) 1 c1) = W1 at *)
  all_goals (have HW1 : Hid (W1.drew.ownsRow N 3 1 (.slice (some ⟨g1, 0, none⟩) 1 c1) 1 [.int .i64 0]) := Lib.hid HO1.out.drew)
  all_goals (have E1 : Hid (Ex [FD, nx] w W1) := Lib.hid (hW1 ▸ (((Ex.of (S := [FD, nx]) HB.out).far HB1.out (by have := HNe.out; have := HB.out.size; omega)).set FD 0 _ (by simp))))
  all_goals (clear hW1 HO1 HB1 HW0 b1 b2 b3 b4 b5 b6 b7 b8 b9 dA0 dB0 cB0 cD0 fK0 DA0 hS dC dD fC fE fL hgN hgL Hc0 hH)
  all_goals
    have Hc1 := Lib.hid hcl1
    obtain ⟨-, b1, b2, b3, b4, b5, b6, -, b7, b8, -, -, b9⟩ := hcl1
    go_wp2_with fail
    have dA1 : (W1.drew).cell? ⟨sb, 0, none⟩ = some (.pointer (some ⟨S, 0, none⟩)) ∧ (W1.drew).cell? ⟨S, 10, none⟩ = some (.slice (some ⟨FD, 0, none⟩) 1 cfd) ∧ (W1.drew).cell? ⟨kb, 0, none⟩ = some (.int .i64 0) := ⟨b1, b2, b4⟩
    have dB1 : (W1.drew.alloc (.cells #[.int .i64 2] 3)).cell? ⟨sb, 0, none⟩ = some (.pointer (some ⟨S, 0, none⟩)) ∧ (W1.drew.alloc (.cells #[.int .i64 2] 3)).cell? ⟨S, 10, none⟩ = some (.slice (some ⟨FD, 0, none⟩) 1 cfd) ∧ (W1.drew.alloc (.cells #[.int .i64 2] 3)).cell? ⟨kb, 0, none⟩ = some (.int .i64 0) := by
      have h := Hc1.out.below ((Below.refl N W1).drew.alloc b9 (.cells #[.int .i64 2] 3))
      exact ⟨h.sb_, h.s10, h.kb_⟩
    have cB1 := (Hc1.out.below ((Below.refl N W1).drew.alloc b9 (.cells #[.int .i64 2] 3))).fd_
    have cD1 : (W1.alloc (.cells #[.int .i64 2] 3)).drew.cell? ⟨FD, 0, none⟩ = some (.slice (some ⟨g1, 0, none⟩) 1 c1) := cB1
    have fK1 : FD < W1.heap.size := Nat.lt_of_lt_of_le Hc1.out.lo.2.2.2.2.2.1 b9
    have DA1 := Lib.hid b9
    refine wp_region_held_drew (S := fun w' => (w').cell? ⟨sb, 0, none⟩ = some (.pointer (some ⟨S, 0, none⟩)) ∧ (w').cell? ⟨S, 10, none⟩ = some (.slice (some ⟨FD, 0, none⟩) 1 cfd) ∧ (w').cell? ⟨kb, 0, none⟩ = some (.int .i64 0)) (by kernel_rfl) dA1 (fun hS => ?_)
    refine takeD 0 35 (.pointer (some ⟨S, 0, none⟩)) rfl rfl (by kernel_rfl) (by kernel_rfl) (by kernel_rfl) (fun _ _ _ h => h) (Or.inl ⟨by rfl, by intro w' hSw; obtain ⟨s0, s1, s2⟩ := hSw; go_simp⟩) hS ?_
    simp only [Act.put, List.setIfInBounds_toArray, List.set_cons_zero, List.set_cons_succ]
    refine takeD 1 36 (.pointer (some ⟨S, 0, none⟩)) rfl rfl (by kernel_rfl) (by kernel_rfl) (by kernel_rfl) (fun _ _ _ h => h) (Or.inl ⟨by rfl, by intro w' hSw; obtain ⟨s0, s1, s2⟩ := hSw; go_simp⟩) hS ?_
    simp only [Act.put, List.setIfInBounds_toArray, List.set_cons_zero, List.set_cons_succ]
    refine takeD 2 37 (.pointer (some ⟨S, 10, none⟩)) rfl rfl (by kernel_rfl) (by kernel_rfl) (by kernel_rfl) (fun _ _ _ h => h) (Or.inl ⟨by rfl, by intro w' hSw; obtain ⟨s0, s1, s2⟩ := hSw; go_simp⟩) hS ?_
    simp only [Act.put, List.setIfInBounds_toArray, List.set_cons_zero, List.set_cons_succ]
    refine takeD 3 38 (.slice (some ⟨FD, 0, none⟩) 1 cfd) rfl rfl (by kernel_rfl) (by kernel_rfl) (by kernel_rfl) (fun _ _ _ h => h) (Or.inl ⟨by rfl, by intro w' hSw; obtain ⟨s0, s1, s2⟩ := hSw; go_simp⟩) hS ?_
    simp only [Act.put, List.setIfInBounds_toArray, List.set_cons_zero, List.set_cons_succ]
    refine takeD 4 39 (.int .i64 0) rfl rfl (by kernel_rfl) (by kernel_rfl) (by kernel_rfl) (fun _ _ _ h => h) (Or.inl ⟨by rfl, by intro w' hSw; obtain ⟨s0, s1, s2⟩ := hSw; go_simp⟩) hS ?_
    simp only [Act.put, List.setIfInBounds_toArray, List.set_cons_zero, List.set_cons_succ]
    refine takeD 5 40 (.pointer (some ⟨S, 0, none⟩)) rfl rfl (by kernel_rfl) (by kernel_rfl) (by kernel_rfl) (fun _ _ _ h => h) (Or.inl ⟨by rfl, by intro w' hSw; obtain ⟨s0, s1, s2⟩ := hSw; go_simp⟩) hS ?_
    simp only [Act.put, List.setIfInBounds_toArray, List.set_cons_zero, List.set_cons_succ]
    refine takeD 6 41 (.pointer (some ⟨S, 0, none⟩)) rfl rfl (by kernel_rfl) (by kernel_rfl) (by kernel_rfl) (fun _ _ _ h => h) (Or.inl ⟨by rfl, by intro w' hSw; obtain ⟨s0, s1, s2⟩ := hSw; go_simp⟩) hS ?_
    simp only [Act.put, List.setIfInBounds_toArray, List.set_cons_zero, List.set_cons_succ]
    refine takeD 7 42 (.pointer (some ⟨S, 10, none⟩)) rfl rfl (by kernel_rfl) (by kernel_rfl) (by kernel_rfl) (fun _ _ _ h => h) (Or.inl ⟨by rfl, by intro w' hSw; obtain ⟨s0, s1, s2⟩ := hSw; go_simp⟩) hS ?_
    simp only [Act.put, List.setIfInBounds_toArray, List.set_cons_zero, List.set_cons_succ]
    refine takeD 8 43 (.slice (some ⟨FD, 0, none⟩) 1 cfd) rfl rfl (by kernel_rfl) (by kernel_rfl) (by kernel_rfl) (fun _ _ _ h => h) (Or.inl ⟨by rfl, by intro w' hSw; obtain ⟨s0, s1, s2⟩ := hSw; go_simp⟩) hS ?_
    simp only [Act.put, List.setIfInBounds_toArray, List.set_cons_zero, List.set_cons_succ]
    refine takeD 9 44 (.int .i64 0) rfl rfl (by kernel_rfl) (by kernel_rfl) (by kernel_rfl) (fun _ _ _ h => h) (Or.inl ⟨by rfl, by intro w' hSw; obtain ⟨s0, s1, s2⟩ := hSw; go_simp⟩) hS ?_
    simp only [Act.put, List.setIfInBounds_toArray, List.set_cons_zero, List.set_cons_succ]
    refine takeD 10 45 (.pointer (some ⟨FD, 0, none⟩)) rfl rfl (by kernel_rfl) (by kernel_rfl) (by kernel_rfl) (fun _ _ _ h => h) (Or.inl ⟨by rfl, by intro w' hSw; obtain ⟨s0, s1, s2⟩ := hSw; go_simp⟩) hS ?_
    simp only [Act.put, List.setIfInBounds_toArray, List.set_cons_zero, List.set_cons_succ]
    refine takeD 12 47 (.int .i64 0) rfl rfl (by kernel_rfl) (by kernel_rfl) (by kernel_rfl) (fun _ _ _ h => h) (Or.inl ⟨by rfl, by intro w' hSw; obtain ⟨s0, s1, s2⟩ := hSw; go_simp⟩) hS ?_
    simp only [Act.put, List.setIfInBounds_toArray, List.set_cons_zero, List.set_cons_succ]
    refine takeD 13 48 (.int .i64 2) rfl rfl (by kernel_rfl) (by kernel_rfl) (by kernel_rfl) (fun _ _ _ h => h) (Or.inl ⟨by rfl, by intro w' hSw; obtain ⟨s0, s1, s2⟩ := hSw; go_simp⟩) hS ?_
    simp only [Act.put, List.setIfInBounds_toArray, List.set_cons_zero, List.set_cons_succ]
    refine takeD 14 49 (.int .i64 2) rfl rfl (by kernel_rfl) (by kernel_rfl) (by kernel_rfl) (fun _ _ _ h => h) (Or.inl ⟨by rfl, by intro w' hSw; obtain ⟨s0, s1, s2⟩ := hSw; go_simp⟩) hS ?_
    simp only [Act.put, List.setIfInBounds_toArray, List.set_cons_zero, List.set_cons_succ]
    refine wpAnyH_ready (rs := [11, 15]) (by kernel_rfl) (by simp) ?_
    refine AllReadyH.cons rfl (fun Kc hK => ?_) (AllReadyH.cons rfl (fun Kc hK => ?_) AllReadyH.nil)
    go_simp
    refine hK.out _ _ hS (fun hH => ?_)
    try simp only [Act.put, List.setIfInBounds_toArray, List.set_cons_zero, List.set_cons_succ]
    clear hK Kc
    refine wpAnyH_ready (rs := [15]) (by kernel_rfl) (by simp) ?_
    refine AllReadyH.cons rfl (fun Kc hK => ?_) AllReadyH.nil
    go_simp
    refine hK.out _ _ dB1 (fun hH => ?_)
    try simp only [Act.put, List.setIfInBounds_toArray, List.set_cons_zero, List.set_cons_succ]
    clear hK Kc
    refine wpAnyH_ready (rs := [16]) (by kernel_rfl) (by simp) ?_
    refine AllReadyH.cons (o := { dst := some 51, op := .call { callee := .builtin .append, args := #[.tmp 46, .tmp 50], argTypes := #[24, 24] }, type := 24, pos := "stream.go:61", after := _, guard := none }) rfl (fun Kc hK => ?_) AllReadyH.nil
    refine step_app elem24 (by with_reducible rfl) (.tmp 46) (.tmp 50) (by with_reducible rfl) (v := .slice (some ⟨g1, 0, none⟩) 1 c1) (n := 1) (xs := [.int .i64 0]) (base := N) (w0 := W1.drew) (by rfl) HW1.out [.int .i64 2] (by rfl) (by rfl) (by simp [Value.oneCell']) (by unfold maxLen; omega) (by omega) DA1.out ?_
    intro v3 w3 hown' hb2
    have hown2 : w3.ownsRow N 3 1 v3 2 [.int .i64 0, .int .i64 2] := hown'
    clear hown'
    obtain ⟨g2, c2, rfl, hgN, hgL, hcc⟩ := own_at hown2 (Nat.succ_pos _) rfl
    have hq2 := Hc1.out.below ((Below.refl N W1).drew.trans hb2)
    have hcl2 := hq2.set (.slice (some ⟨g2, 0, none⟩) 2 c2)
    have dC : (w3).cell? ⟨sb, 0, none⟩ = some (.pointer (some ⟨S, 0, none⟩)) ∧ (w3).cell? ⟨S, 10, none⟩ = some (.slice (some ⟨FD, 0, none⟩) 1 cfd) ∧ (w3).cell? ⟨kb, 0, none⟩ = some (.int .i64 0) := ⟨hq2.sb_, hq2.s10, hq2.kb_⟩
    have dD : (w3.setCell ⟨FD, 0, none⟩ (.slice (some ⟨g2, 0, none⟩) 2 c2)).cell? ⟨sb, 0, none⟩ = some (.pointer (some ⟨S, 0, none⟩)) ∧ (w3.setCell ⟨FD, 0, none⟩ (.slice (some ⟨g2, 0, none⟩) 2 c2)).cell? ⟨S, 10, none⟩ = some (.slice (some ⟨FD, 0, none⟩) 1 cfd) ∧ (w3.setCell ⟨FD, 0, none⟩ (.slice (some ⟨g2, 0, none⟩) 2 c2)).cell? ⟨kb, 0, none⟩ = some (.int .i64 0) := ⟨hcl2.sb_, hcl2.s10, hcl2.kb_⟩
    have fC := hq2.ff
    have fE := hq2.fd_
    have fL : FD < w3.heap.size := Nat.lt_of_lt_of_le hq2.lo.2.2.2.2.2.1 hq2.hN
    have HO2 := Lib.hid (ownsRow_setCell_below hown2 (a := ⟨FD, 0, none⟩) hq2.lo.2.2.2.2.2.1 (.slice (some ⟨g2, 0, none⟩) 2 c2))
    have HB2 := Lib.hid ((Below.refl N W1).drew.trans hb2)
    clear hq2 hown2 hb2 hcc
    refine hK.out _ _ dC (fun hH => ?_)
    try simp only [Act.put, List.setIfInBounds_toArray, List.set_cons_zero, List.set_cons_succ]
    clear hK Kc
    refine takeD 17 52 (.pointer (some ⟨FD, 0, none⟩)) rfl rfl (by kernel_rfl) (by kernel_rfl) (by kernel_rfl) (fun _ _ _ h => h) (Or.inl ⟨by rfl, by intro w' hSw; obtain ⟨s0, s1, s2⟩ := hSw; go_simp⟩) hH ?_
    simp only [Act.put, List.setIfInBounds_toArray, List.set_cons_zero, List.set_cons_succ]
    refine wpAnyH_ready (rs := [18]) (by kernel_rfl) (by simp) ?_
    refine AllReadyH.cons rfl (fun Kc hK => ?_) AllReadyH.nil
    go_simp
    refine hK.out _ _ dD (fun hH => ?_)
    try simp only [Act.put, List.setIfInBounds_toArray, List.set_cons_zero, List.set_cons_succ]
    clear hK Kc
    refine wpAnyH_done (by kernel_rfl) ?_ _
    rotate_left 1
    go_simp
    refine hK.out _ _ dB1 (fun hH => ?_)
    try simp only [Act.put, List.setIfInBounds_toArray, List.set_cons_zero, List.set_cons_succ]
    clear hK Kc
    refine wpAnyH_ready (rs := [11]) (by kernel_rfl) (by simp) ?_
    refine AllReadyH.cons rfl (fun Kc hK => ?_) AllReadyH.nil
    go_simp
    refine hK.out _ _ dB1 (fun hH => ?_)
    try simp only [Act.put, List.setIfInBounds_toArray, List.set_cons_zero, List.set_cons_succ]
    clear hK Kc
    refine wpAnyH_ready (rs := [16]) (by kernel_rfl) (by simp) ?_
    refine AllReadyH.cons (o := { dst := some 51, op := .call { callee := .builtin .append, args := #[.tmp 46, .tmp 50], argTypes := #[24, 24] }, type := 24, pos := "stream.go:61", after := _, guard := none }) rfl (fun Kc hK => ?_) AllReadyH.nil
    refine step_app elem24 (by with_reducible rfl) (.tmp 46) (.tmp 50) (by with_reducible rfl) (v := .slice (some ⟨g1, 0, none⟩) 1 c1) (n := 1) (xs := [.int .i64 0]) (base := N) (w0 := W1.drew) (by rfl) HW1.out [.int .i64 2] (by rfl) (by rfl) (by simp [Value.oneCell']) (by unfold maxLen; omega) (by omega) DA1.out ?_
    intro v3 w3 hown' hb2
    have hown2 : w3.ownsRow N 3 1 v3 2 [.int .i64 0, .int .i64 2] := hown'
    clear hown'
    obtain ⟨g2, c2, rfl, hgN, hgL, hcc⟩ := own_at hown2 (Nat.succ_pos _) rfl
    have hq2 := Hc1.out.below ((Below.refl N W1).drew.trans hb2)
    have hcl2 := hq2.set (.slice (some ⟨g2, 0, none⟩) 2 c2)
    have dC : (w3).cell? ⟨sb, 0, none⟩ = some (.pointer (some ⟨S, 0, none⟩)) ∧ (w3).cell? ⟨S, 10, none⟩ = some (.slice (some ⟨FD, 0, none⟩) 1 cfd) ∧ (w3).cell? ⟨kb, 0, none⟩ = some (.int .i64 0) := ⟨hq2.sb_, hq2.s10, hq2.kb_⟩
    have dD : (w3.setCell ⟨FD, 0, none⟩ (.slice (some ⟨g2, 0, none⟩) 2 c2)).cell? ⟨sb, 0, none⟩ = some (.pointer (some ⟨S, 0, none⟩)) ∧ (w3.setCell ⟨FD, 0, none⟩ (.slice (some ⟨g2, 0, none⟩) 2 c2)).cell? ⟨S, 10, none⟩ = some (.slice (some ⟨FD, 0, none⟩) 1 cfd) ∧ (w3.setCell ⟨FD, 0, none⟩ (.slice (some ⟨g2, 0, none⟩) 2 c2)).cell? ⟨kb, 0, none⟩ = some (.int .i64 0) := ⟨hcl2.sb_, hcl2.s10, hcl2.kb_⟩
    have fC := hq2.ff
    have fE := hq2.fd_
    have fL : FD < w3.heap.size := Nat.lt_of_lt_of_le hq2.lo.2.2.2.2.2.1 hq2.hN
    have HO2 := Lib.hid (ownsRow_setCell_below hown2 (a := ⟨FD, 0, none⟩) hq2.lo.2.2.2.2.2.1 (.slice (some ⟨g2, 0, none⟩) 2 c2))
    have HB2 := Lib.hid ((Below.refl N W1).drew.trans hb2)
    clear hq2 hown2 hb2 hcc
    refine hK.out _ _ dC (fun hH => ?_)
    try simp only [Act.put, List.setIfInBounds_toArray, List.set_cons_zero, List.set_cons_succ]
    clear hK Kc
    refine takeD 17 52 (.pointer (some ⟨FD, 0, none⟩)) rfl rfl (by kernel_rfl) (by kernel_rfl) (by kernel_rfl) (fun _ _ _ h => h) (Or.inl ⟨by rfl, by intro w' hSw; obtain ⟨s0, s1, s2⟩ := hSw; go_simp⟩) hH ?_
    simp only [Act.put, List.setIfInBounds_toArray, List.set_cons_zero, List.set_cons_succ]
    refine wpAnyH_ready (rs := [18]) (by kernel_rfl) (by simp) ?_
    refine AllReadyH.cons rfl (fun Kc hK => ?_) AllReadyH.nil
    go_simp
    refine hK.out _ _ dD (fun hH => ?_)
    try simp only [Act.put, List.setIfInBounds_toArray, List.set_cons_zero, List.set_cons_succ]
    clear hK Kc
    refine wpAnyH_done (by kernel_rfl) ?_ _
  all_goals (go_wp2_with fail)
  all_goals (rw [rounds_succ])
  all_goals (generalize hW2 : w3.setCell ⟨FD, 0, none⟩ (.slice (some ⟨g2, 0, none⟩) 2 c2) = W2 at *)
  all_goals (have E2 : Hid (Ex [FD, nx] w W2) := Lib.hid (hW2 ▸ ((E1.out.far HB2.out (by have := HNe.out; have := HB.out.size; omega)).set FD 0 _ (by simp))))
  all_goals (have HC2 := Lib.hid hcl2)
  all_goals (have G2 := Lib.hid hgN)
  all_goals (clear hW2 HB2 HW1 b1 b2 b3 b4 b5 b6 b7 b8 b9 dA1 dB1 cB1 cD1 fK1 DA1 hS dC dD fC fE fL hgL Hc1 hH hgN)
  all_goals (obtain ⟨q1, -, -, q2, -, -, -, q3, -, -, ql, qn, qN⟩ := hcl2)
  all_goals (have q4 : nx < W2.heap.size := Nat.lt_of_lt_of_le ql.2.2.2.1 qN)
  all_goals (clear ql qn qN)
  all_goals (go_wp2_with fail)
  all_goals
    have hz := HB.out.size
    have hz1 := HNe.out
    have hz2 := G2.out
    have hz3 := HC2.out.lo.2.2.2.1
    have ow := ownsRow_setCell_below HO2.out (a := ⟨nx, 0, none⟩) hz3 (.int .i64 3)
    obtain ⟨g3, c3, hge, -, hg3, cc⟩ := own_at ow (Nat.succ_pos _) rfl
    cases hge
    have hnf : nx ≠ FD := HC2.out.ne.2.2.2.1
    refine ⟨rfl, .tuple #[], by first | rfl | simp [results, Tryz.results162, go_sem], _, g2, c2, rfl, E2.out.set nx 0 _ (by simp), by have e : w.drew.heap.size = w.heap.size := rfl; omega, ?_, ⟨cc 0 _ rfl, cc 1 _ rfl, hg3⟩⟩
    rw [World.cell?_setCell_other _ _ _ _ (by intro e; injection e with h1 h2; omega)]
    exact HC2.out.fd_
end Go.Proofs.YtjfkmoinldlmaaaGreat

/- Walk of stream.New at a query of one leaf. -/
namespace Go.Proofs.YtjfkmoinldlmaaaGreat
open Go.RowKit Go.Shelf

theorem elem135 : ElemT 135 140 1 8 := elem_of (z := .nilFunc) Tryz.underlying135 (by kernel_rfl) rfl (by decide)

set_option maxRecDepth 100000 in
theorem make84 (w : World) : (Instr.makeSlice 84 (.int .i64 1) (.int .i64 1)).run Tryz.prog w = .ok (.slice (some ⟨w.heap.size, 0, none⟩) 1 1) (w.alloc (.cells #[.slice none 0 0] 24)) := by
  kernel_rfl

abbrev srchV (own sb nx kb : Nat) : Value := .func (.func 162) #[] #[.pointer (some ⟨own, 0, none⟩), .pointer (some ⟨sb, 0, none⟩), .pointer (some ⟨nx, 0, none⟩), .pointer (some ⟨kb, 0, none⟩)]

set_option maxRecDepth 100000 in
set_option maxHeartbeats 4000000 in
theorem stream_new (Q cq : Nat) (ad : Option Addr) (cap : Nat) (K : Int) (l : List (Nat → Bool)) (hl : l.length = 2) (hr : rightB 2 (gc l) K = true) (w : World) (h : One w Q ad 2 cap K) (hR : RowC w ad 2 (gc l) w.heap.size) :
    Calls Tryz.prog 58 #[.slice (some ⟨Q, 0, none⟩) 1 cq, .agg #[.int .i64 0, .int .i64 0], .int .i64 9] w fun e w' => ∃ S Q2 cq2 FD cfd SR csr own sb nx kb ad' cap', e = .returned (.tuple #[.pointer (some ⟨S, 0, none⟩), .int .i64 0]) ∧
      At w' S (strC 0 0 (.slice (some ⟨Q2, 0, none⟩) 1 cq2) 9 2 ⟨#[]⟩ 0 (.slice (some ⟨SR, 0, none⟩) 1 csr) (.slice (some ⟨FD, 0, none⟩) 1 cfd)) ∧ One w' Q2 ad 2 cap K ∧ Row1 w' SR (srchV own sb nx kb) ∧ At w' FD (.cells #[.slice none 0 0] 24) ∧ SrchC w' S own sb nx kb ad' 2 cap' K ∧ RowC w' ad' 2 (gc l) w'.heap.size ∧ (∀ a, ad' = some a → S < a.block ∧ FD < a.block) ∧ RowC w' ad 2 (gc l) S ∧ (S < FD ∧ S < nx) ∧
      (own ≠ FD ∧ sb ≠ FD ∧ S ≠ FD ∧ nx ≠ FD ∧ kb ≠ FD) ∧ (S ≠ nx ∧ S ≠ own ∧ S ≠ sb ∧ S ≠ kb) ∧ (Q2 ≠ S ∧ Q2 ≠ FD ∧ Q2 ≠ nx) ∧ (SR ≠ S ∧ SR ≠ FD ∧ SR ≠ nx) ∧ w.heap.size ≤ S ∧ Below w.heap.size w w' := by
  have h1 := Lib.hid (check_one Q cq ad 2 cap K (gc l) (by omega) hr w h hR)
  have h2 := Lib.hid fun w' h => longest_one Q cq ad 2 cap K (by omega) (by omega) w' h
  have h3 := Lib.hid fun w' (h : One w' Q ad 2 cap K) => clone108_any (some ⟨Q, 0, none⟩) 1 cq [.int .i64 1, .int .i64 0, .slice ad 2 cap, .int .i64 K] (by omega) rfl (by simp [Value.oneCell']) w' (.inr ⟨Q, 0, rfl, h.lt, fun j u hj => by
    match j, hj with
    | 0, hj => simp at hj; subst hj; exact h.c0
    | 1, hj => simp at hj; subst hj; exact h.c1
    | 2, hj => simp at hj; subst hj; exact h.c2
    | 3, hj => simp at hj; subst hj; exact h.c3
    | j + 4, hj => simp at hj⟩)
  have h4 := Lib.hid fun w' h => leaves_one Q cq ad 2 cap K w' h
  have h5 := Lib.hid fun S w' (h : RowC w' ad 2 (gc l) w'.heap.size) => search_any S cap K l (by omega) ad w' (by rw [hl]; exact h)
  rw [hl] at h5
  have T : Hid (∀ w', Below w.heap.size w w' → One w' Q ad 2 cap K ∧ RowC w' ad 2 (gc l) w'.heap.size ∧ RowC w' ad 2 (gc l) w.heap.size) := Lib.hid fun w' hb => ⟨h.ex (Ex.of hb) List.not_mem_nil, (hR.below hb (Nat.le_refl _)).mono hb.size, hR.below hb (Nat.le_refl _)⟩
  have hA : Below w.heap.size w (w.alloc (.cells #[.int .i64 0, .int .i64 0] 35)) := (Below.refl _ _).alloc (Nat.le_refl _) _
  have hG := HoldsG.new w 0 0
  have hbox : At (w.alloc (.cells #[.int .i64 0, .int .i64 0] 35)) w.heap.size (.cells #[.int .i64 0, .int .i64 0] 35) := At.new _ _
  have h6 := Lib.hid fun w' h hR => check_one Q cq ad 2 cap K (gc l) (by omega) hr w' h hR
  have HBX := Lib.hid hbox
  have HA := Lib.hid hA
  obtain ⟨a0, a1, al⟩ := hG
  clear h hR hr hA hbox h1
  go_enter Tryz.func58, Tryz.ntmps58
  go_wp2_with (first | (go_at_call 106; refine (h6.out _ (T.out _ HA.out).1 (T.out _ HA.out).2.1).mono ?_; rintro e w1 ⟨rfl, hb1⟩; have B1 := Lib.hid (HA.out.trans (hb1.mono HA.out.size)); have X1 := Lib.hid (HBX.out.below hb1 al); clear hb1 a0 a1 al) | (go_at_call 107; refine (h2.out _ (T.out _ B1.out).1).mono ?_; rintro e w2 ⟨rfl, hb2⟩; have B2 := Lib.hid (B1.out.trans (hb2.mono B1.out.size)); have X2 := X1.out.below hb2 X1.out.lt; have d0 := X2.cell 0; have d1 := X2.cell 1; have dl := X2.lt; clear X2 hb2; simp only [List.getElem?_toArray, List.getElem?_cons_zero, List.getElem?_cons_succ] at d0 d1))
  go_region_held3 (fun w' => Old w2 w') (first | with_reducible assumption | with_reducible exact Old.start _ | with_reducible exact Old.alloc (by with_reducible assumption) _) (first | (go_at_call 108; refine (h3.out w2.drew (T.out _ B2.out.drew).1).mono ?_; rintro e w3 ⟨v3, rfl, ho3, hb3⟩; obtain ⟨Q2, cq2, rfl, hQ2, hQ2l, cc⟩ := own_at ho3 Nat.one_pos rfl; have O3 := Old.calld (Old.refl w2) hb3; have one3 : One w3 Q2 ad 2 cap K := ⟨cc 0 _ rfl, cc 1 _ rfl, cc 2 _ rfl, cc 3 _ rfl, hQ2l⟩; clear ho3 cc))
  have hS3 := At.new w3 (strC 0 0 (.slice (some ⟨Q2, 0, none⟩) 1 cq2) 9 2 ⟨#[]⟩ 0 (.slice none 0 0) (.slice none 0 0))
  have hbA : Below w3.heap.size w3 (w3.alloc (strC 0 0 (.slice (some ⟨Q2, 0, none⟩) 1 cq2) 9 2 ⟨#[]⟩ 0 (.slice none 0 0) (.slice none 0 0))) := (Below.refl _ _).alloc (Nat.le_refl _) _
  have one4 := Lib.hid (one3.below hbA hQ2l)
  have B4 := Lib.hid ((B2.out.trans (O3.2.2.2.mono B2.out.size)).trans (hbA.mono (Nat.le_trans B2.out.size O3.2.2.2.size)))
  have zS : w.heap.size ≤ w3.heap.size := Nat.le_trans B2.out.size O3.2.2.2.size
  clear hbA one3 O3 hb3 hQ2 B1 X1 HBX HA d0 d1 dl
  generalize hSe : w3.heap.size = S at *
  generalize w3.alloc (strC 0 0 (.slice (some ⟨Q2, 0, none⟩) 1 cq2) 9 2 ⟨#[]⟩ 0 (.slice none 0 0) (.slice none 0 0)) = W4 at *
  have zl := hS3.lt
  have HS4 := Lib.hid hS3
  clear hSe hS3
  have hmk := make84
  go_wp2_with (go_at_call 109; refine (h4.out _ (T.out _ B4.out).1).mono ?_; rintro e w5 ⟨v5, rfl, ho5, hb5⟩; obtain ⟨LB, cL, rfl, hLB, hLl, cc⟩ := own_at ho5 Nat.one_pos rfl; have f0 := cc 0 _ rfl; have f1 := cc 1 _ rfl; clear cc ho5; have hS5 := HS4.out.below hb5 zl; have s5 := hS5.lt; have fz5 := hS5.free 10; have e10 := hS5.cell 10; simp only [List.getElem?_toArray, List.getElem?_cons_zero, List.getElem?_cons_succ] at e10; have HS5 := Lib.hid hS5; have HB5 := Lib.hid hb5; clear hS5 hb5)
  refine wp_loop_rounds 2 ?_
  rw [rounds_succ]
  have hS6 : At ((w5.setCell ⟨S, 10, none⟩ (.slice (some ⟨w5.heap.size, 0, none⟩) 1 1)).alloc (.cells #[.slice none 0 0] 24)) S (strC 0 0 (.slice (some ⟨Q2, 0, none⟩) 1 cq2) 9 2 ⟨#[]⟩ 0 (.slice none 0 0) (.slice (some ⟨w5.heap.size, 0, none⟩) 1 1)) := (HS5.out.set 10 (.slice (some ⟨w5.heap.size, 0, none⟩) 1 1)).alloc (.cells #[.slice none 0 0] 24)
  have hF6 := At.new (w5.setCell ⟨S, 10, none⟩ (.slice (some ⟨w5.heap.size, 0, none⟩) 1 1)) (.cells #[.slice none 0 0] 24)
  have e6 : Ex [S] w5 ((w5.setCell ⟨S, 10, none⟩ (.slice (some ⟨w5.heap.size, 0, none⟩) 1 1)).alloc (.cells #[.slice none 0 0] 24)) := ((Ex.refl [S] w5).set S 10 _ (by simp)).alloc _
  have hz6 : (w5.setCell ⟨S, 10, none⟩ (.slice (some ⟨w5.heap.size, 0, none⟩) 1 1)).heap.size = w5.heap.size := by simp
  rw [hz6] at hF6
  have hQS : Q2 < W4.heap.size := one4.out.lt
  have one6 := (one4.out.below HB5.out hQS).ex e6 (by simp; omega)
  have f06 := (e6.cell hLl (by simp; omega) 0).trans f0
  have f16 := (e6.cell hLl (by simp; omega) 1).trans f1
  have B6 := B4.out.trans ((HB5.out.mono B4.out.size).trans (e6.below (Nat.le_trans B4.out.size HB5.out.size) (by simp; omega)))
  have zF : S < w5.heap.size := s5
  have z6 : w5.heap.size < ((w5.setCell ⟨S, 10, none⟩ (.slice (some ⟨w5.heap.size, 0, none⟩) 1 1)).alloc (.cells #[.slice none 0 0] 24)).heap.size := hF6.lt
  have hlb : LB < ((w5.setCell ⟨S, 10, none⟩ (.slice (some ⟨w5.heap.size, 0, none⟩) 1 1)).alloc (.cells #[.slice none 0 0] 24)).heap.size := by omega
  have hQ5 : Q2 < w5.heap.size := by omega
  have HS6 := Lib.hid hS6
  have HF6 := Lib.hid hF6
  have O6 := Lib.hid one6
  have B6 := Lib.hid B6
  clear hS6 hF6 one6 f0 f1 e6 hz6 HS5 HB5 HS4 fz5 e10 B4 one4 hmk hLB hLl s5
  generalize (w5.setCell ⟨S, 10, none⟩ (.slice (some ⟨w5.heap.size, 0, none⟩) 1 1)).alloc (.cells #[.slice none 0 0] 24) = W6 at *
  generalize w5.heap.size = FD at *
  go_wp2_with fail
  have hA7 : Below W6.heap.size W6 (W6.alloc (.cells #[.slice ad 2 cap, .int .i64 K] 52)) := (Below.refl _ _).alloc (Nat.le_refl _) _
  obtain ⟨c0, c1, cl⟩ := HoldsL.new W6 ad 2 cap K
  have B7 := Lib.hid (B6.out.trans (hA7.mono B6.out.size))
  have HS7 := Lib.hid (HS6.out.below hA7 HS6.out.lt)
  have HF7 := Lib.hid (HF6.out.below hA7 HF6.out.lt)
  have O7 := Lib.hid (O6.out.below hA7 O6.out.lt)
  clear hA7 HS6 HF6 O6 B6 f06 f16 hlb
  generalize hL5 : W6.heap.size = L5 at *
  generalize W6.alloc (.cells #[.slice ad 2 cap, .int .i64 K] 52) = W7 at *
  have e9 := HS7.out.cell 9
  have l7 := HS7.out.lt
  have lF7 := HF7.out.lt
  have lQ7 := O7.out.lt
  simp only [List.getElem?_toArray, List.getElem?_cons_zero, List.getElem?_cons_succ] at e9
  have dA : (W7.drew).cell? ⟨L5, 0, none⟩ = some (.slice ad 2 cap) ∧ (W7.drew).cell? ⟨L5, 1, none⟩ = some (.int .i64 K) := ⟨c0, c1⟩
  refine wp_region_held_drew (S := fun w' => (w').cell? ⟨L5, 0, none⟩ = some (.slice ad 2 cap) ∧ (w').cell? ⟨L5, 1, none⟩ = some (.int .i64 K)) (by kernel_rfl) dA (fun hS => ?_)
  refine takeD 0 51 (.pointer (some ⟨S, 0, none⟩)) rfl rfl (by kernel_rfl) (by kernel_rfl) (by kernel_rfl) (fun _ _ _ h => h) (Or.inl ⟨by rfl, by intro w' hSw; obtain ⟨s0, s1⟩ := hSw; go_simp⟩) hS ?_
  simp only [Act.put, List.setIfInBounds_toArray, List.set_cons_zero, List.set_cons_succ]
  refine takeD 1 52 (.pointer (some ⟨S, 0, none⟩)) rfl rfl (by kernel_rfl) (by kernel_rfl) (by kernel_rfl) (fun _ _ _ h => h) (Or.inl ⟨by rfl, by intro w' hSw; obtain ⟨s0, s1⟩ := hSw; go_simp⟩) hS ?_
  simp only [Act.put, List.setIfInBounds_toArray, List.set_cons_zero, List.set_cons_succ]
  refine takeD 2 53 (.pointer (some ⟨S, 0, none⟩)) rfl rfl (by kernel_rfl) (by kernel_rfl) (by kernel_rfl) (fun _ _ _ h => h) (Or.inl ⟨by rfl, by intro w' hSw; obtain ⟨s0, s1⟩ := hSw; go_simp⟩) hS ?_
  simp only [Act.put, List.setIfInBounds_toArray, List.set_cons_zero, List.set_cons_succ]
  refine takeD 3 54 (.pointer (some ⟨S, 9, none⟩)) rfl rfl (by kernel_rfl) (by kernel_rfl) (by kernel_rfl) (fun _ _ _ h => h) (Or.inl ⟨by rfl, by intro w' hSw; obtain ⟨s0, s1⟩ := hSw; go_simp⟩) hS ?_
  simp only [Act.put, List.setIfInBounds_toArray, List.set_cons_zero, List.set_cons_succ]
  refine takeD 5 56 (.pointer (some ⟨S, 0, none⟩)) rfl rfl (by kernel_rfl) (by kernel_rfl) (by kernel_rfl) (fun _ _ _ h => h) (Or.inl ⟨by rfl, by intro w' hSw; obtain ⟨s0, s1⟩ := hSw; go_simp⟩) hS ?_
  simp only [Act.put, List.setIfInBounds_toArray, List.set_cons_zero, List.set_cons_succ]
  refine takeD 6 57 (.int .i64 0) rfl rfl (by kernel_rfl) (by kernel_rfl) (by kernel_rfl) (fun _ _ _ h => h) (Or.inl ⟨by rfl, by intro w' hSw; obtain ⟨s0, s1⟩ := hSw; go_simp⟩) hS ?_
  simp only [Act.put, List.setIfInBounds_toArray, List.set_cons_zero, List.set_cons_succ]
  refine takeD 7 58 (.agg #[.slice ad 2 cap, .int .i64 K]) rfl rfl (by kernel_rfl) (by kernel_rfl) (by kernel_rfl) (fun _ _ _ h => h) (Or.inl ⟨by rfl, by intro w' hSw; obtain ⟨s0, s1⟩ := hSw; go_simp⟩) hS ?_
  simp only [Act.put, List.setIfInBounds_toArray, List.set_cons_zero, List.set_cons_succ]
  refine wpAnyH_ready (rs := [4, 8]) (by kernel_rfl) (by simp) ?_
  refine AllReadyH.cons rfl (fun Kc hK => ?_) (AllReadyH.cons rfl (fun Kc hK => ?_) AllReadyH.nil)
  go_simp
  refine hK.out _ _ hS (fun hH => ?_)
  try simp only [Act.put, List.setIfInBounds_toArray, List.set_cons_zero, List.set_cons_succ]
  clear hK Kc
  refine wpAnyH_ready (rs := [8]) (by kernel_rfl) (by simp) ?_
  refine AllReadyH.cons rfl (fun Kc hK => ?_) AllReadyH.nil
  go_simp
  go_at_call 110
  refine (h5.out S W7.drew (T.out _ B7.out.drew).2.1).mono ?_
  rintro e w8 ⟨own, sb, nx, kb, adp, capp, rfl, hC8, ⟨z1, z2, z3, z4⟩, hR8, hP8, hb8⟩
  dsimp only
  have hz7 : W7.drew.heap.size = W7.heap.size := rfl
  have dB : (w8).cell? ⟨L5, 0, none⟩ = some (.slice ad 2 cap) ∧ (w8).cell? ⟨L5, 1, none⟩ = some (.int .i64 K) := ⟨(hb8.cell (p := ⟨L5, 0, none⟩) cl).trans c0, (hb8.cell (p := ⟨L5, 1, none⟩) cl).trans c1⟩
  have l8 : L5 < w8.heap.size := Nat.lt_of_lt_of_le cl hb8.size
  have S8 := HS7.out.below (Below.refl W7.heap.size W7).drew l7 |>.below hb8 l7
  have F8 := HF7.out.below (Below.refl W7.heap.size W7).drew lF7 |>.below hb8 lF7
  have O8 := O7.out.below (Below.refl W7.heap.size W7).drew lQ7 |>.below hb8 lQ7
  have B8 := B7.out.drew.trans (hb8.mono B7.out.size)
  have e98 := S8.cell 9
  have ls8 := S8.lt
  simp only [List.getElem?_toArray, List.getElem?_cons_zero, List.getElem?_cons_succ] at e98
  have dD : (w8.alloc (.cells #[srchV own sb nx kb] 140)).cell? ⟨L5, 0, none⟩ = some (.slice ad 2 cap) ∧ (w8.alloc (.cells #[srchV own sb nx kb] 140)).cell? ⟨L5, 1, none⟩ = some (.int .i64 K) := by
    have h := (Below.refl w8.heap.size w8).alloc (Nat.le_refl _) (.cells #[srchV own sb nx kb] 140)
    exact ⟨(h.cell (p := ⟨L5, 0, none⟩) l8).trans dB.1, (h.cell (p := ⟨L5, 1, none⟩) l8).trans dB.2⟩
  have HC8 := Lib.hid hC8
  have HR8 := Lib.hid hR8
  have HS8 := Lib.hid S8
  have HF8 := Lib.hid F8
  have HO8 := Lib.hid O8
  have HB8 := Lib.hid B8
  clear hC8 hR8 S8 F8 O8 B8 hb8
  refine hK.out _ _ dB (fun hH => ?_)
  try simp only [Act.put, List.setIfInBounds_toArray, List.set_cons_zero, List.set_cons_succ]
  clear hK Kc
  refine wpAnyH_ready (rs := [9]) (by kernel_rfl) (by simp) ?_
  refine AllReadyH.cons rfl (fun Kc hK => ?_) AllReadyH.nil
  go_simp
  refine hK.out _ _ dD (fun hH => ?_)
  try simp only [Act.put, List.setIfInBounds_toArray, List.set_cons_zero, List.set_cons_succ]
  clear hK Kc
  refine wpAnyH_ready (rs := [10]) (by kernel_rfl) (by simp) ?_
  refine AllReadyH.cons (o := { dst := some 61, op := .call { callee := .builtin .append, args := #[.tmp 55, .tmp 60], argTypes := #[135, 135] }, type := 135, pos := "stream.go:48", after := _, guard := none }) rfl (fun Kc hK => ?_) AllReadyH.nil
  refine step_app elem135 (by with_reducible rfl) (.tmp 55) (.tmp 60) (by with_reducible rfl) (v := .slice none 0 0) (n := 0) (xs := []) (base := w8.heap.size) (w0 := w8) (by rfl) (World.ownsRow_nil _ _ _ _) [srchV own sb nx kb] (by rfl) (by rfl) (by simp [Value.oneCell']) (by unfold maxLen; omega) (by omega) (Nat.le_refl _) ?_
  intro v9 w9 hown' hb9
  obtain ⟨SR, csr, rfl, hSR, hSRl, cc⟩ := own_at hown' (Nat.succ_pos _) rfl
  have r9 : Row1 w9 SR (srchV own sb nx kb) := ⟨cc 0 _ rfl, hSRl⟩
  have dE : (w9).cell? ⟨L5, 0, none⟩ = some (.slice ad 2 cap) ∧ (w9).cell? ⟨L5, 1, none⟩ = some (.int .i64 K) := ⟨(hb9.cell (p := ⟨L5, 0, none⟩) l8).trans dB.1, (hb9.cell (p := ⟨L5, 1, none⟩) l8).trans dB.2⟩
  have S9 := HS8.out.below hb9 ls8
  have fz9 := S9.free 9
  have e99 := S9.cell 9
  have ls9 := S9.lt
  simp only [List.getElem?_toArray, List.getElem?_cons_zero, List.getElem?_cons_succ] at e99
  have x9 : Ex [S] w9 (w9.setCell ⟨S, 9, none⟩ (.slice (some ⟨SR, 0, none⟩) 1 csr)) := (Ex.refl [S] w9).set S 9 _ (by simp)
  have dF : (w9.setCell ⟨S, 9, none⟩ (.slice (some ⟨SR, 0, none⟩) 1 csr)).cell? ⟨L5, 0, none⟩ = some (.slice ad 2 cap) ∧ (w9.setCell ⟨S, 9, none⟩ (.slice (some ⟨SR, 0, none⟩) 1 csr)).cell? ⟨L5, 1, none⟩ = some (.int .i64 K) := by
    have h9 : L5 < w9.heap.size := Nat.lt_of_lt_of_le l8 hb9.size
    exact ⟨(x9.cell h9 (by simp; omega) 0).trans dE.1, (x9.cell h9 (by simp; omega) 1).trans dE.2⟩
  have HB9 := Lib.hid hb9
  have HX9 := Lib.hid x9
  have HS9 := Lib.hid S9
  have HR9 := Lib.hid r9
  clear hown' cc S9 x9 r9 hb9
  refine hK.out _ _ dE (fun hH => ?_)
  try simp only [Act.put, List.setIfInBounds_toArray, List.set_cons_zero, List.set_cons_succ]
  clear hK Kc
  refine takeD 11 62 (.pointer (some ⟨S, 0, none⟩)) rfl rfl (by kernel_rfl) (by kernel_rfl) (by kernel_rfl) (fun _ _ _ h => h) (Or.inl ⟨by rfl, by intro w' hSw; obtain ⟨s0, s1⟩ := hSw; go_simp⟩) hH ?_
  simp only [Act.put, List.setIfInBounds_toArray, List.set_cons_zero, List.set_cons_succ]
  refine takeD 12 63 (.pointer (some ⟨S, 9, none⟩)) rfl rfl (by kernel_rfl) (by kernel_rfl) (by kernel_rfl) (fun _ _ _ h => h) (Or.inl ⟨by rfl, by intro w' hSw; obtain ⟨s0, s1⟩ := hSw; go_simp⟩) hH ?_
  simp only [Act.put, List.setIfInBounds_toArray, List.set_cons_zero, List.set_cons_succ]
  refine wpAnyH_ready (rs := [13]) (by kernel_rfl) (by simp) ?_
  refine AllReadyH.cons rfl (fun Kc hK => ?_) AllReadyH.nil
  go_simp
  refine hK.out _ _ dF (fun hH => ?_)
  try simp only [Act.put, List.setIfInBounds_toArray, List.set_cons_zero, List.set_cons_succ]
  clear hK Kc
  refine wpAnyH_done (by kernel_rfl) ?_ _
  rotate_left 1
  go_simp
  go_at_call 110
  refine (h5.out S W7.drew (T.out _ B7.out.drew).2.1).mono ?_
  rintro e w8 ⟨own, sb, nx, kb, adp, capp, rfl, hC8, ⟨z1, z2, z3, z4⟩, hR8, hP8, hb8⟩
  dsimp only
  have hz7 : W7.drew.heap.size = W7.heap.size := rfl
  have dB : (w8).cell? ⟨L5, 0, none⟩ = some (.slice ad 2 cap) ∧ (w8).cell? ⟨L5, 1, none⟩ = some (.int .i64 K) := ⟨(hb8.cell (p := ⟨L5, 0, none⟩) cl).trans c0, (hb8.cell (p := ⟨L5, 1, none⟩) cl).trans c1⟩
  have l8 : L5 < w8.heap.size := Nat.lt_of_lt_of_le cl hb8.size
  have S8 := HS7.out.below (Below.refl W7.heap.size W7).drew l7 |>.below hb8 l7
  have F8 := HF7.out.below (Below.refl W7.heap.size W7).drew lF7 |>.below hb8 lF7
  have O8 := O7.out.below (Below.refl W7.heap.size W7).drew lQ7 |>.below hb8 lQ7
  have B8 := B7.out.drew.trans (hb8.mono B7.out.size)
  have e98 := S8.cell 9
  have ls8 := S8.lt
  simp only [List.getElem?_toArray, List.getElem?_cons_zero, List.getElem?_cons_succ] at e98
  have dD : (w8.alloc (.cells #[srchV own sb nx kb] 140)).cell? ⟨L5, 0, none⟩ = some (.slice ad 2 cap) ∧ (w8.alloc (.cells #[srchV own sb nx kb] 140)).cell? ⟨L5, 1, none⟩ = some (.int .i64 K) := by
    have h := (Below.refl w8.heap.size w8).alloc (Nat.le_refl _) (.cells #[srchV own sb nx kb] 140)
    exact ⟨(h.cell (p := ⟨L5, 0, none⟩) l8).trans dB.1, (h.cell (p := ⟨L5, 1, none⟩) l8).trans dB.2⟩
  have HC8 := Lib.hid hC8
  have HR8 := Lib.hid hR8
  have HS8 := Lib.hid S8
  have HF8 := Lib.hid F8
  have HO8 := Lib.hid O8
  have HB8 := Lib.hid B8
  clear hC8 hR8 S8 F8 O8 B8 hb8
  refine hK.out _ _ dB (fun hH => ?_)
  try simp only [Act.put, List.setIfInBounds_toArray, List.set_cons_zero, List.set_cons_succ]
  clear hK Kc
  refine wpAnyH_ready (rs := [4, 9]) (by kernel_rfl) (by simp) ?_
  refine AllReadyH.cons rfl (fun Kc hK => ?_) (AllReadyH.cons rfl (fun Kc hK => ?_) AllReadyH.nil)
  go_simp
  refine hK.out _ _ dB (fun hH => ?_)
  try simp only [Act.put, List.setIfInBounds_toArray, List.set_cons_zero, List.set_cons_succ]
  clear hK Kc
  refine wpAnyH_ready (rs := [9]) (by kernel_rfl) (by simp) ?_
  refine AllReadyH.cons rfl (fun Kc hK => ?_) AllReadyH.nil
  go_simp
  refine hK.out _ _ dD (fun hH => ?_)
  try simp only [Act.put, List.setIfInBounds_toArray, List.set_cons_zero, List.set_cons_succ]
  clear hK Kc
  refine wpAnyH_ready (rs := [10]) (by kernel_rfl) (by simp) ?_
  refine AllReadyH.cons (o := { dst := some 61, op := .call { callee := .builtin .append, args := #[.tmp 55, .tmp 60], argTypes := #[135, 135] }, type := 135, pos := "stream.go:48", after := _, guard := none }) rfl (fun Kc hK => ?_) AllReadyH.nil
  refine step_app elem135 (by with_reducible rfl) (.tmp 55) (.tmp 60) (by with_reducible rfl) (v := .slice none 0 0) (n := 0) (xs := []) (base := w8.heap.size) (w0 := w8) (by rfl) (World.ownsRow_nil _ _ _ _) [srchV own sb nx kb] (by rfl) (by rfl) (by simp [Value.oneCell']) (by unfold maxLen; omega) (by omega) (Nat.le_refl _) ?_
  intro v9 w9 hown' hb9
  obtain ⟨SR, csr, rfl, hSR, hSRl, cc⟩ := own_at hown' (Nat.succ_pos _) rfl
  have r9 : Row1 w9 SR (srchV own sb nx kb) := ⟨cc 0 _ rfl, hSRl⟩
  have dE : (w9).cell? ⟨L5, 0, none⟩ = some (.slice ad 2 cap) ∧ (w9).cell? ⟨L5, 1, none⟩ = some (.int .i64 K) := ⟨(hb9.cell (p := ⟨L5, 0, none⟩) l8).trans dB.1, (hb9.cell (p := ⟨L5, 1, none⟩) l8).trans dB.2⟩
  have S9 := HS8.out.below hb9 ls8
  have fz9 := S9.free 9
  have e99 := S9.cell 9
  have ls9 := S9.lt
  simp only [List.getElem?_toArray, List.getElem?_cons_zero, List.getElem?_cons_succ] at e99
  have x9 : Ex [S] w9 (w9.setCell ⟨S, 9, none⟩ (.slice (some ⟨SR, 0, none⟩) 1 csr)) := (Ex.refl [S] w9).set S 9 _ (by simp)
  have dF : (w9.setCell ⟨S, 9, none⟩ (.slice (some ⟨SR, 0, none⟩) 1 csr)).cell? ⟨L5, 0, none⟩ = some (.slice ad 2 cap) ∧ (w9.setCell ⟨S, 9, none⟩ (.slice (some ⟨SR, 0, none⟩) 1 csr)).cell? ⟨L5, 1, none⟩ = some (.int .i64 K) := by
    have h9 : L5 < w9.heap.size := Nat.lt_of_lt_of_le l8 hb9.size
    exact ⟨(x9.cell h9 (by simp; omega) 0).trans dE.1, (x9.cell h9 (by simp; omega) 1).trans dE.2⟩
  have HB9 := Lib.hid hb9
  have HX9 := Lib.hid x9
  have HS9 := Lib.hid S9
  have HR9 := Lib.hid r9
  clear hown' cc S9 x9 r9 hb9
  refine hK.out _ _ dE (fun hH => ?_)
  try simp only [Act.put, List.setIfInBounds_toArray, List.set_cons_zero, List.set_cons_succ]
  clear hK Kc
  refine takeD 11 62 (.pointer (some ⟨S, 0, none⟩)) rfl rfl (by kernel_rfl) (by kernel_rfl) (by kernel_rfl) (fun _ _ _ h => h) (Or.inl ⟨by rfl, by intro w' hSw; obtain ⟨s0, s1⟩ := hSw; go_simp⟩) hH ?_
  simp only [Act.put, List.setIfInBounds_toArray, List.set_cons_zero, List.set_cons_succ]
  refine takeD 12 63 (.pointer (some ⟨S, 9, none⟩)) rfl rfl (by kernel_rfl) (by kernel_rfl) (by kernel_rfl) (fun _ _ _ h => h) (Or.inl ⟨by rfl, by intro w' hSw; obtain ⟨s0, s1⟩ := hSw; go_simp⟩) hH ?_
  simp only [Act.put, List.setIfInBounds_toArray, List.set_cons_zero, List.set_cons_succ]
  refine wpAnyH_ready (rs := [13]) (by kernel_rfl) (by simp) ?_
  refine AllReadyH.cons rfl (fun Kc hK => ?_) AllReadyH.nil
  go_simp
  refine hK.out _ _ dF (fun hH => ?_)
  try simp only [Act.put, List.setIfInBounds_toArray, List.set_cons_zero, List.set_cons_succ]
  clear hK Kc
  refine wpAnyH_done (by kernel_rfl) ?_ _
  rotate_left 1
  go_simp
  refine hK.out _ _ dD (fun hH => ?_)
  try simp only [Act.put, List.setIfInBounds_toArray, List.set_cons_zero, List.set_cons_succ]
  clear hK Kc
  refine wpAnyH_ready (rs := [4]) (by kernel_rfl) (by simp) ?_
  refine AllReadyH.cons rfl (fun Kc hK => ?_) AllReadyH.nil
  go_simp
  refine hK.out _ _ dD (fun hH => ?_)
  try simp only [Act.put, List.setIfInBounds_toArray, List.set_cons_zero, List.set_cons_succ]
  clear hK Kc
  refine wpAnyH_ready (rs := [10]) (by kernel_rfl) (by simp) ?_
  refine AllReadyH.cons (o := { dst := some 61, op := .call { callee := .builtin .append, args := #[.tmp 55, .tmp 60], argTypes := #[135, 135] }, type := 135, pos := "stream.go:48", after := _, guard := none }) rfl (fun Kc hK => ?_) AllReadyH.nil
  refine step_app elem135 (by with_reducible rfl) (.tmp 55) (.tmp 60) (by with_reducible rfl) (v := .slice none 0 0) (n := 0) (xs := []) (base := w8.heap.size) (w0 := w8) (by rfl) (World.ownsRow_nil _ _ _ _) [srchV own sb nx kb] (by rfl) (by rfl) (by simp [Value.oneCell']) (by unfold maxLen; omega) (by omega) (Nat.le_refl _) ?_
  intro v9 w9 hown' hb9
  obtain ⟨SR, csr, rfl, hSR, hSRl, cc⟩ := own_at hown' (Nat.succ_pos _) rfl
  have r9 : Row1 w9 SR (srchV own sb nx kb) := ⟨cc 0 _ rfl, hSRl⟩
  have dE : (w9).cell? ⟨L5, 0, none⟩ = some (.slice ad 2 cap) ∧ (w9).cell? ⟨L5, 1, none⟩ = some (.int .i64 K) := ⟨(hb9.cell (p := ⟨L5, 0, none⟩) l8).trans dB.1, (hb9.cell (p := ⟨L5, 1, none⟩) l8).trans dB.2⟩
  have S9 := HS8.out.below hb9 ls8
  have fz9 := S9.free 9
  have e99 := S9.cell 9
  have ls9 := S9.lt
  simp only [List.getElem?_toArray, List.getElem?_cons_zero, List.getElem?_cons_succ] at e99
  have x9 : Ex [S] w9 (w9.setCell ⟨S, 9, none⟩ (.slice (some ⟨SR, 0, none⟩) 1 csr)) := (Ex.refl [S] w9).set S 9 _ (by simp)
  have dF : (w9.setCell ⟨S, 9, none⟩ (.slice (some ⟨SR, 0, none⟩) 1 csr)).cell? ⟨L5, 0, none⟩ = some (.slice ad 2 cap) ∧ (w9.setCell ⟨S, 9, none⟩ (.slice (some ⟨SR, 0, none⟩) 1 csr)).cell? ⟨L5, 1, none⟩ = some (.int .i64 K) := by
    have h9 : L5 < w9.heap.size := Nat.lt_of_lt_of_le l8 hb9.size
    exact ⟨(x9.cell h9 (by simp; omega) 0).trans dE.1, (x9.cell h9 (by simp; omega) 1).trans dE.2⟩
  have HB9 := Lib.hid hb9
  have HX9 := Lib.hid x9
  have HS9 := Lib.hid S9
  have HR9 := Lib.hid r9
  clear hown' cc S9 x9 r9 hb9
  refine hK.out _ _ dE (fun hH => ?_)
  try simp only [Act.put, List.setIfInBounds_toArray, List.set_cons_zero, List.set_cons_succ]
  clear hK Kc
  refine takeD 11 62 (.pointer (some ⟨S, 0, none⟩)) rfl rfl (by kernel_rfl) (by kernel_rfl) (by kernel_rfl) (fun _ _ _ h => h) (Or.inl ⟨by rfl, by intro w' hSw; obtain ⟨s0, s1⟩ := hSw; go_simp⟩) hH ?_
  simp only [Act.put, List.setIfInBounds_toArray, List.set_cons_zero, List.set_cons_succ]
  refine takeD 12 63 (.pointer (some ⟨S, 9, none⟩)) rfl rfl (by kernel_rfl) (by kernel_rfl) (by kernel_rfl) (fun _ _ _ h => h) (Or.inl ⟨by rfl, by intro w' hSw; obtain ⟨s0, s1⟩ := hSw; go_simp⟩) hH ?_
  simp only [Act.put, List.setIfInBounds_toArray, List.set_cons_zero, List.set_cons_succ]
  refine wpAnyH_ready (rs := [13]) (by kernel_rfl) (by simp) ?_
  refine AllReadyH.cons rfl (fun Kc hK => ?_) AllReadyH.nil
  go_simp
  refine hK.out _ _ dF (fun hH => ?_)
  try simp only [Act.put, List.setIfInBounds_toArray, List.set_cons_zero, List.set_cons_succ]
  clear hK Kc
  refine wpAnyH_done (by kernel_rfl) ?_ _
  all_goals (go_wp2_with fail)
  all_goals (rw [rounds_succ])
  all_goals (go_wp2_with fail)
  all_goals
    have hz7 : W7.drew.heap.size = W7.heap.size := rfl
    have x1 : Ex [S] w8 (w9.setCell ⟨S, 9, none⟩ (.slice (some ⟨SR, 0, none⟩) 1 csr)) := ((Ex.of (S := []) HB9.out).trans HX9.out).mono (by intro x hx; left; simpa using hx)
    have hB10 : Below w.heap.size w (w9.setCell ⟨S, 9, none⟩ (.slice (some ⟨SR, 0, none⟩) 1 csr)) := HB8.out.trans (x1.below HB8.out.size (by simp; omega))
    have q1 := HC8.out.own_.lt
    have q2 := HC8.out.sb_.lt
    have q3 := HC8.out.nx_.lt
    have q4 := HC8.out.kb_.lt
    have q5 := HO8.out.lt
    go_ret2
    refine ⟨S, Q2, cq2, FD, 1, SR, csr, own, sb, nx, kb, adp, capp, rfl, HS9.out.set 9 _, HO8.out.ex x1 (by simp; omega), HR9.out.ex HX9.out (by simp; omega), HF8.out.ex x1 (by simp; omega), HC8.out.ex x1 (by simp; omega), HR8.out.ex x1 (fun a ha => by have := hP8 a ha; simp; omega), fun a ha => by (have := hP8 a ha; omega), (T.out _ hB10).2.2.mono zS, ⟨by omega, by omega⟩, by omega, by omega, by omega, by omega, zS, hB10⟩
end Go.Proofs.YtjfkmoinldlmaaaGreat

/- Walks of a stream's steps and result, at a text that is read at once. -/
namespace Go.Proofs.YtjfkmoinldlmaaaGreat
open Go.RowKit Go.Shelf

theorem FeedSt.ex0 {w w' : World} {fp : Nat} {t : ByteArray} {fr to : Nat} {en : Int} {T : List Nat} (h : FeedSt w fp t [] fr to en) (hb : Ex T w w') (hn : fp ∉ T) : FeedSt w' fp t [] fr to en := by
  obtain ⟨⟨ad, cap, h1, -, h3⟩, h4, h5⟩ := h
  exact ⟨⟨ad, cap, h1.ex hb hn, .inl rfl, h3⟩, h4, h5⟩
/-- A forward jump. -/
theorem wp_scope_fwd {P : Program} {a : Act} {w : World} {Q : Exit → Act → World → Prop} {c rest : Code} (l : Nat) (hf : findLabel c l = some rest)
    (first : c.wp P (Exit.jump l (fun a w => rest.wp P (Exit.jump l (fun _ _ => False) Q) a w) Q) a w) : (Code.scope c).wp P Q a w :=
  wp_scope_jumps l _ (fun _ _ => 0) hf first fun a w h => Code.wp_mono (fun e a w q => by
    cases e with
    | goto l' => exact (q.2 : False).elim
    | _ => exact q) h

set_option maxRecDepth 100000 in
set_option maxHeartbeats 4000000 in
theorem step_first (S fp : Nat) (q sr fd : Value) (t : ByteArray) (ht : t.size = 4) (w : World) (hS : At w S (strC 0 0 q 9 2 ⟨#[]⟩ 0 sr fd)) (hf : FeedSt w fp t [] 0 t.size 1) (hne : S ≠ fp) :
    Calls Tryz.prog 28 #[.pointer (some ⟨S, 0, none⟩), .pointer (some ⟨fp, 0, none⟩)] w fun e w' => e = .returned (.bool true) ∧ At w' S (strC 4 0 q 9 2 t 0 sr fd) ∧ FeedSt w' fp t [] t.size t.size 1 ∧ Ex [S, fp] w w' := by
  have h1 := Lib.hid (read_all fp t (by omega) (by omega) 1 w hf)
  have hti : (t.size : Int) = 4 := by omega
  have hcat : (⟨#[]⟩ : ByteArray) ++ t = t := ByteArray.empty_append
  have HS := Lib.hid hS
  have c8 := hS.cell 8
  have sl := hS.lt
  simp only [List.getElem?_toArray, List.getElem?_cons_zero, List.getElem?_cons_succ] at c8
  clear hS hf ht
  go_enter Tryz.func28, Tryz.ntmps28
  go_wp2_with fail
  go_step3
  go_wp2_with (go_at_call 60; refine h1.out.mono ?_; rintro e w1 ⟨rfl, hf1, he1⟩; have hS1 := HS.out.ex he1 (by simp; omega); have k0 := hS1.cell 0; have k5 := hS1.cell 5; have k7 := hS1.cell 7; have k8 := hS1.cell 8; have z0 := hS1.free 0; have z7 := hS1.free 7; have z8 := hS1.free 8; have l1 := hS1.lt; simp only [List.getElem?_toArray, List.getElem?_cons_zero, List.getElem?_cons_succ] at k0 k5 k7 k8; have HS1 := Lib.hid hS1; have HF1 := Lib.hid hf1; have HE1 := Lib.hid he1; clear hS1 hf1 he1)
  have hS2 : At (((w1.setCell ⟨S, 7, none⟩ (.string t)).setCell ⟨S, 0, none⟩ (.int .i64 4)).setCell ⟨S, 8, none⟩ (.int .i64 0)) S (strC 4 0 q 9 2 t 0 sr fd) := ((HS1.out.set 7 _).set 0 _).set 8 _
  have hE2 : Ex [S, fp] w (((w1.setCell ⟨S, 7, none⟩ (.string t)).setCell ⟨S, 0, none⟩ (.int .i64 4)).setCell ⟨S, 8, none⟩ (.int .i64 0)) := (((HE1.out.mono (T := [S, fp]) (by intro x hx; left; simp at hx; simp [hx])).set S 7 _ (by simp)).set S 0 _ (by simp)).set S 8 _ (by simp)
  have hX2 : Ex [S] w1 (((w1.setCell ⟨S, 7, none⟩ (.string t)).setCell ⟨S, 0, none⟩ (.int .i64 4)).setCell ⟨S, 8, none⟩ (.int .i64 0)) := (((Ex.refl [S] w1).set S 7 _ (by simp)).set S 0 _ (by simp)).set S 8 _ (by simp)
  have hF2 := HF1.out.ex0 hX2 (by simp; omega)
  clear HS1 HE1 HF1 hX2 k0 k5 k7 k8 z0 z7 z8 l1
  generalize (((w1.setCell ⟨S, 7, none⟩ (.string t)).setCell ⟨S, 0, none⟩ (.int .i64 4)).setCell ⟨S, 8, none⟩ (.int .i64 0)) = W2 at *
  have k5 := hS2.cell 5
  have k7 := hS2.cell 7
  have l2 := hS2.lt
  simp only [List.getElem?_toArray, List.getElem?_cons_zero, List.getElem?_cons_succ] at k5 k7
  have HS2 := Lib.hid hS2
  have HF2 := Lib.hid hF2
  have HE2 := Lib.hid hE2
  clear hS2 hF2 hE2
  go_region
  go_wp2_with fail
  rw [Exit.noGoto_ret]
  go_ret
  exact ⟨rfl, HS2.out, HF2.out.ex0 (Ex.refl [] W2).drew (by simp), HE2.out.drew⟩
set_option maxRecDepth 100000 in
set_option maxHeartbeats 4000000 in
theorem step_last (S fp FD cfd SR csr own sb nx kb : Nat) (q : Value) (cap : Nat) (ad : Option Addr) (K : Int) (L : Nat → Nat → Bool) (t : ByteArray) (ht : t.size = 4) (hie : t.toList.isEmpty = false) (hr : rightB 2 L K = true) (ho : occ t 2 L K = [0, 2]) (w : World)
    (hS : At w S (strC 4 0 q 9 2 t 0 (.slice (some ⟨SR, 0, none⟩) 1 csr) (.slice (some ⟨FD, 0, none⟩) 1 cfd))) (hf : FeedSt w fp t [] t.size t.size 1) (hsr : Row1 w SR (srchV own sb nx kb)) (hF : At w FD (.cells #[.slice none 0 0] 24)) (hC : SrchC w S own sb nx kb ad 2 cap K) (hR : RowC w ad 2 L w.heap.size)
    (hP : ∀ a, ad = some a → a.block ≠ S) (hne : own ≠ FD ∧ sb ≠ FD ∧ S ≠ FD ∧ nx ≠ FD ∧ kb ≠ FD) (hne2 : S ≠ nx ∧ S ≠ own ∧ S ≠ sb ∧ S ≠ kb) (hne3 : SR ≠ S ∧ SR ≠ FD ∧ SR ≠ nx) :
    Calls Tryz.prog 28 #[.pointer (some ⟨S, 0, none⟩), .pointer (some ⟨fp, 0, none⟩)] w fun e w' => e = .returned (.bool false) ∧ ∃ h g c, At w' S (strC 4 1 q 9 2 h 1 (.slice (some ⟨SR, 0, none⟩) 1 csr) (.slice (some ⟨FD, 0, none⟩) 1 cfd)) ∧ Ex [S, FD, nx] w w' ∧ Row1 w' FD (.slice (some ⟨g, 0, none⟩) 2 c) ∧ Two w' g 0 2 := by
  have h1 := Lib.hid (read_end fp t [] t.size 1 w hf)
  have hti : (t.size : Int) = 4 := by omega
  have hcat : t ++ (⟨#[]⟩ : ByteArray) = t := ByteArray.append_empty
  have hnil : t ≠ (⟨#[]⟩ : ByteArray) := by intro h; rw [h] at ht; exact absurd ht (by decide)
  have HS := Lib.hid hS
  have c8 := hS.cell 8
  have sl := hS.lt
  have HQ := Lib.hid (show Row1 w SR (srchV own sb nx kb) ∧ At w FD (.cells #[.slice none 0 0] 24) ∧ SrchC w S own sb nx kb ad 2 cap K ∧ RowC w ad 2 L w.heap.size from ⟨hsr, hF, hC, hR⟩)
  have HP := Lib.hid hP
  have hr' := Lib.hid hr
  have ho' := Lib.hid ho
  simp only [List.getElem?_toArray, List.getElem?_cons_zero, List.getElem?_cons_succ] at c8
  clear hS hf hsr hF hC hR hP hr ho
  have ht' := Lib.hid ht
  have m1 : Hid (own ∉ [S] ∧ sb ∉ [S] ∧ nx ∉ [S] ∧ kb ∉ [S]) := Lib.hid (by simp; omega)
  have m2 : Hid (SR ∉ [S]) := Lib.hid (by simp; omega)
  have m3 : Hid (FD ∉ [S]) := Lib.hid (by simp; omega)
  have m4 : Hid (S ∉ [FD, nx]) := Lib.hid (by simp; omega)
  clear ht
  go_enter Tryz.func28, Tryz.ntmps28
  go_wp2_with fail
  refine wp_scope_fwd 0 rfl ?_
  go_wp2_with (go_at_call 60; refine h1.out.mono ?_; rintro e w1 ⟨rfl, hb1⟩; have hS1 := HS.out.below hb1 sl; have k0 := hS1.cell 0; have k5 := hS1.cell 5; have k7 := hS1.cell 7; have k8 := hS1.cell 8; have z0 := hS1.free 0; have z7 := hS1.free 7; have z8 := hS1.free 8; have l1 := hS1.lt; simp only [List.getElem?_toArray, List.getElem?_cons_zero, List.getElem?_cons_succ] at k0 k5 k7 k8; have HS1 := Lib.hid hS1; have HE1 := Lib.hid (Ex.of (S := []) hb1); clear hS1 hb1)
  have hS2 : At (((w1.setCell ⟨S, 7, none⟩ (.string t)).setCell ⟨S, 0, none⟩ (.int .i64 4)).setCell ⟨S, 8, none⟩ (.int .i64 1)) S (strC 4 0 q 9 2 t 1 (.slice (some ⟨SR, 0, none⟩) 1 csr) (.slice (some ⟨FD, 0, none⟩) 1 cfd)) := ((HS1.out.set 7 _).set 0 _).set 8 _
  have hE2 : Ex [S] w (((w1.setCell ⟨S, 7, none⟩ (.string t)).setCell ⟨S, 0, none⟩ (.int .i64 4)).setCell ⟨S, 8, none⟩ (.int .i64 1)) := (((HE1.out.mono (T := [S]) (by intro x hx; simp at hx)).set S 7 _ (by simp)).set S 0 _ (by simp)).set S 8 _ (by simp)
  clear HS1 HE1 k0 k5 k7 k8 z0 z7 z8 l1
  generalize (((w1.setCell ⟨S, 7, none⟩ (.string t)).setCell ⟨S, 0, none⟩ (.int .i64 4)).setCell ⟨S, 8, none⟩ (.int .i64 1)) = W2 at *
  have k1 := hS2.cell 1
  have k5 := hS2.cell 5
  have k7 := hS2.cell 7
  have k9 := hS2.cell 9
  have z1 := hS2.free 1
  have l2 := hS2.lt
  simp only [List.getElem?_toArray, List.getElem?_cons_zero, List.getElem?_cons_succ] at k1 k5 k7 k9
  have HS2 := Lib.hid hS2
  have HE2 := Lib.hid hE2
  clear hS2 hE2
  go_quiet (fail)
  go_wp2_with fail
  all_goals (try go_step3)
  all_goals (refine ⟨rfl, ?_⟩)
  all_goals (dsimp only)
  go_wp2_with fail
  refine wp_loop_rounds 2 ?_
  rw [rounds_succ]
  have hS3 : At (W2.drewN nq |>.setCell ⟨S, 1, none⟩ (.int .i64 1)) S (strC 4 1 q 9 2 t 1 (.slice (some ⟨SR, 0, none⟩) 1 csr) (.slice (some ⟨FD, 0, none⟩) 1 cfd)) := At.set (w := W2.drewN nq) HS2.out 1 _
  have hE3 : Ex [S] w ((W2.drewN nq).setCell ⟨S, 1, none⟩ (.int .i64 1)) := Ex.set (b := W2.drewN nq) ⟨HE2.out.os, HE2.out.tape, HE2.out.output, HE2.out.size, HE2.out.block⟩ S 1 _ (by simp)
  clear HS2 HE2 k1 k5 k7 k9 z1 l2
  generalize ((W2.drewN nq).setCell ⟨S, 1, none⟩ (.int .i64 1)) = W3 at *
  obtain ⟨r3, f3, C3, R3⟩ := HQ.out
  have r3 := r3.ex hE3 m2.out
  have f3 := f3.ex hE3 m3.out
  have C3 := C3.ex hE3 m1.out
  have R3 := R3.ex hE3 (fun a ha => by have := HP.out a ha; simpa using this)
  have k0 := hS3.cell 0
  have k7 := hS3.cell 7
  have k9 := r3.c0
  have l9 := r3.lt
  have lF3 := Lib.hid f3.lt
  have l3 := hS3.lt
  simp only [List.getElem?_toArray, List.getElem?_cons_zero, List.getElem?_cons_succ] at k0 k7
  have HE3 := Lib.hid hE3
  have HS3 := Lib.hid hS3
  have x3 : Ex [] W3 W3.drew := (Ex.refl [] W3).drew
  have H2 := Lib.hid (closure_two S own sb nx kb FD cfd cap ad K 4 1 9 2 1 q (.slice (some ⟨SR, 0, none⟩) 1 csr) L t ht'.out hr'.out ho'.out W3.drew (R3.ex x3 (by simp)) (C3.ex x3 (by simp)) (hS3.ex x3 (by simp)) (f3.ex x3 (by simp)) hne)
  clear r3 f3 C3 R3 hE3 hS3 x3
  go_wp2_with fail
  have dA : W3.drew.cell? ⟨S, 0, none⟩ = some (.int .i64 4) ∧ W3.drew.cell? ⟨S, 7, none⟩ = some (.string t) := ⟨k0, k7⟩
  go_region_held3 (fun w' => w'.cell? ⟨S, 0, none⟩ = some (.int .i64 4) ∧ w'.cell? ⟨S, 7, none⟩ = some (.string t)) (with_reducible assumption) (first | (go_at_call 162; refine H2.out.mono ?_; rintro e w4 ⟨v4, g, c, rfl, he4, hg4, hfd4, htw4⟩; have dB : w4.cell? ⟨S, 0, none⟩ = some (.int .i64 4) ∧ w4.cell? ⟨S, 7, none⟩ = some (.string t) := ⟨(he4.cell (show S < W3.drew.heap.size from l3) m4.out 0).trans k0, (he4.cell (show S < W3.drew.heap.size from l3) m4.out 7).trans k7⟩))
  go_wp2_with fail
  rw [rounds_succ]
  have hS4 := (At.ex (w := W3.drew) HS3.out he4 m4.out)
  have hE4 : Ex [S, FD, nx] w w4 := (HE3.out.drew.trans he4).mono (by intro x hx; left; simp at hx ⊢; exact hx)
  have g4 : Hid (g ≠ S) := Lib.hid (by have e : W3.drew.heap.size = W3.heap.size := rfl; omega)
  have F4 : Hid (Row1 w4 FD (.slice (some ⟨g, 0, none⟩) 2 c)) := Lib.hid ⟨hfd4, Nat.lt_of_lt_of_le (show FD < W3.drew.heap.size from lF3.out) he4.size⟩
  have T4 := Lib.hid htw4
  have q6 := hS4.cell 6
  have q7 := hS4.cell 7
  have y7 := hS4.free 7
  have y8 := hS4.lt
  simp only [List.getElem?_toArray, List.getElem?_cons_zero, List.getElem?_cons_succ] at q6 q7
  have HS4 := Lib.hid hS4
  have HE4 := Lib.hid hE4
  have m5 : Hid (FD ∉ [S]) := m3
  clear hS4 hE4 he4 hfd4 htw4 hg4 dA dB k0 k7 k9 l9 l3 HS3 HE3 H2
  go_wp2_with fail
  go_region
  all_goals (go_wp2_with fail)
  simp only [Exit.jump]
  go_ret
  refine ⟨rfl, t.extract 3 t.size, g, c, HS4.out.set 7 _, (HE4.out.set S 7 _ (by simp)).drew, F4.out.ex ((Ex.refl [S] w4).set S 7 _ (by simp)).drew m5.out, T4.out.ex ((Ex.refl [S] w4).set S 7 _ (by simp)).drew (by have := g4.out; simpa using this)⟩
set_option maxRecDepth 100000 in
set_option maxHeartbeats 4000000 in
theorem result_one (S Q2 cq2 FD cfd g c : Nat) (sr : Value) (h : ByteArray) (ad : Option Addr) (cap : Nat) (K : Int) (L : Nat → Nat → Bool) (hr : rightB 2 L K = true) (w : World) (hS : At w S (strC 4 1 (.slice (some ⟨Q2, 0, none⟩) 1 cq2) 9 2 h 1 sr (.slice (some ⟨FD, 0, none⟩) 1 cfd))) (hQ : One w Q2 ad 2 cap K) (hR : RowC w ad 2 L w.heap.size) (hF : Row1 w FD (.slice (some ⟨g, 0, none⟩) 2 c)) (hT : Two w g 0 2) :
    Calls Tryz.prog 29 #[.pointer (some ⟨S, 0, none⟩)] w fun e w' => ∃ v, e = .returned (.tuple #[v, .int .i64 0]) ∧ w'.ownsRow w.heap.size 3 1 v 2 [.int .i64 0, .int .i64 2] ∧ Below w.heap.size w w' := by
  have x0 : Ex [] w w.drew := (Ex.refl [] w).drew
  have h1 := Lib.hid (join_one Q2 cq2 FD cfd g c ad 2 cap K L (by omega) hr w.drew (hQ.ex x0 (by simp)) (hR.ex x0 (by simp)) (hT.ex x0 (by simp)) (hF.ex x0 (by simp)))
  have k0 := hS.cell 0
  have k2 := hS.cell 2
  have k8 := hS.cell 8
  have k10 := hS.cell 10
  have l0 := hS.lt
  simp only [List.getElem?_toArray, List.getElem?_cons_zero, List.getElem?_cons_succ] at k0 k2 k8 k10
  clear hS hQ hR hF hT hr x0
  go_enter Tryz.func29, Tryz.ntmps29
  go_wp2_with fail
  go_region_held3 (fun w' => Old w w') (first | with_reducible assumption | with_reducible exact Old.start _) (first | (go_at_call 61; refine h1.out.mono ?_; rintro e w1 ⟨v, rfl, ho1, hb1⟩; have O1 := Old.calld (Old.refl w) hb1; have k18 := (hb1.cell (p := ⟨S, 8, none⟩) l0).trans k8; have l1 := Nat.lt_of_lt_of_le (show S < w.drew.heap.size from l0) hb1.size))
  go_wp2_with fail
  go_ret2
  exact ⟨v, rfl, ho1, O1.2.2.2⟩
end Go.Proofs.YtjfkmoinldlmaaaGreat

/- Walks of the scanner at one text. -/
namespace Go.Proofs.YtjfkmoinldlmaaaGreat
open Go.RowKit Go.Shelf

/-- The query. -/
abbrev qs : ByteArray := ⟨#[34, 97, 98, 34]⟩
abbrev scC (k : Int) : Obj := .cells #[.string qs, .int .i64 k, .int .i64 0] 215

set_option maxRecDepth 100000 in
set_option maxHeartbeats 4000000 in
theorem end_at (C : Nat) (k : Int) (w : World) (hC : At w C (scC k)) :
    Calls Tryz.prog 154 #[.pointer (some ⟨C, 0, none⟩)] w fun e w' => e = .returned (.bool (decide (4 ≤ k))) ∧ Below w.heap.size w w' := by
  have c0 := hC.cell 0
  have c1 := hC.cell 1
  have cl := hC.lt
  simp only [List.getElem?_toArray, List.getElem?_cons_zero, List.getElem?_cons_succ] at c0 c1
  clear hC
  go_enter Tryz.func154, Tryz.ntmps154
  go_wp2_with fail
  go_quiet (fail)
  go_wp2_with fail
  go_ret
  exact ⟨rfl, below_drewN (Below.refl _ _) _⟩

set_option maxRecDepth 100000 in
set_option maxHeartbeats 4000000 in
theorem has_no (C : Nat) (k : Nat) (hk : k < 4) (b : Nat) (hb : ∀ h : k < qs.size, ((qs[k].toNat : Int) != (b : Int)) = true) (w : World) (hC : At w C (scC k)) :
    Calls Tryz.prog 155 #[.pointer (some ⟨C, 0, none⟩), .int .u8 (b : Nat)] w fun e w' => e = .returned (.bool false) ∧ Below w.heap.size w w' := by
  have h1 := Lib.hid fun w' h => end_at C k w' h
  have HC := Lib.hid hC
  have c0 := hC.cell 0
  have c1 := hC.cell 1
  have cl := hC.lt
  simp only [List.getElem?_toArray, List.getElem?_cons_zero, List.getElem?_cons_succ] at c0 c1
  have hki : decide ((4 : Int) ≤ k) = false := by simp; omega
  rw [hki] at h1
  have hbb := hb hk
  clear hC hki hb
  go_enter Tryz.func155, Tryz.ntmps155
  go_wp2_with fail
  go_region_held3 (fun w' => Old w w') (first | with_reducible assumption | with_reducible exact Old.start _) (first | (go_at_call 154; refine (h1.out w.drew HC.out).mono ?_; rintro e w1 ⟨rfl, hb1⟩; have O1 := Old.calld (Old.refl w) hb1))
  all_goals (go_wp2_with fail)
  all_goals go_ret
  all_goals (exact ⟨rfl, O1.2.2.2⟩)

set_option maxRecDepth 100000 in
set_option maxHeartbeats 4000000 in
theorem has_yes (C : Nat) (k : Nat) (hk : k < 4) (b : Nat) (hb : ∀ h : k < qs.size, ((qs[k].toNat : Int) != (b : Int)) = false) (w : World) (hC : At w C (scC k)) :
    Calls Tryz.prog 155 #[.pointer (some ⟨C, 0, none⟩), .int .u8 (b : Nat)] w fun e w' => e = .returned (.bool true) ∧ Ex [C] w w' ∧ At w' C (scC ((k : Int) + 1)) := by
  have h1 := Lib.hid fun w' h => end_at C k w' h
  have HC := Lib.hid hC
  have c0 := hC.cell 0
  have c1 := hC.cell 1
  have fz := hC.free 1
  have cl := hC.lt
  simp only [List.getElem?_toArray, List.getElem?_cons_zero, List.getElem?_cons_succ] at c0 c1
  have hki : decide ((4 : Int) ≤ k) = false := by simp; omega
  rw [hki] at h1
  have hbb := hb hk
  clear hC hki hb
  go_enter Tryz.func155, Tryz.ntmps155
  go_wp2_with fail
  go_region_held3 (fun w' => Old w w') (first | with_reducible assumption | with_reducible exact Old.start _) (first | (go_at_call 154; refine (h1.out w.drew HC.out).mono ?_; rintro e w1 ⟨rfl, hb1⟩; have O1 := Old.calld (Old.refl w) hb1; have hC1 := At.below (w := w.drew) HC.out hb1 cl; have d0 := hC1.cell 0; have d1 := hC1.cell 1; have dz := hC1.free 1; have dl := hC1.lt; have HC1 := Lib.hid hC1; clear hC1; simp only [List.getElem?_toArray, List.getElem?_cons_zero, List.getElem?_cons_succ] at d0 d1))
  all_goals (go_wp2_with fail)
  all_goals go_ret
  all_goals (exact ⟨rfl, (Ex.of (S := [C]) O1.2.2.2).set C 1 _ (by simp), HC1.out.set 1 _⟩)
end Go.Proofs.YtjfkmoinldlmaaaGreat
