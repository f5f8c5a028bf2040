/- Walk of grid.Find at one field and one mask. -/
import Derived.Test.YtjfkmoinldlmaaaGreatSa29
import Derived.Test.YtjfkmoinldlmaaaGreatSa21
namespace Go.Proofs.YtjfkmoinldlmaaaGreat
open Go.RowKit Go.Shelf

theorem grow_row (b o cap lb mb fb : Nat) (S : Nat → Bool) (w : World) (h : RowC w (some ⟨b, o, none⟩) 1 (fun _ => S) w.heap.size)
    (k0 : w.cell? ⟨lb, 0, none⟩ = some (.int .i64 1)) (kl : lb < w.heap.size) (m0 : w.cell? ⟨mb, 0, none⟩ = some (.int .i64 1)) (m1 : w.cell? ⟨mb, 1, none⟩ = some (.slice (some ⟨b, o, none⟩) 1 cap)) (ml : mb < w.heap.size) (f0 : w.cell? ⟨fb, 0, none⟩ = some (.int .i64 2)) (fl : fb < w.heap.size) :
    Calls Tryz.prog 49 #[cv S, .pointer (some ⟨lb, 0, none⟩), .pointer (some ⟨mb, 0, none⟩), .pointer (some ⟨fb, 0, none⟩)] w fun e w' => ∃ g, e = .returned (.tuple #[.slice (some ⟨g, 0, none⟩) 1 1, .int .u64 1]) ∧ w.heap.size ≤ g ∧ BlkU w' g 1 (fun _ => 1) ∧ Below w.heap.size w w' := by
  obtain ⟨b', o', hbo, hb', e0, e1, e2, e3⟩ := h.at (show 0 < 1 by omega)
  cases hbo
  simp only [Nat.zero_mul, Nat.add_zero] at e0 e1 e2 e3
  exact grow_one b o cap lb mb fb S w hb' e0 e1 e2 e3 k0 kl m0 m1 ml f0 fl
theorem gkinds_row (b o cap : Nat) (S : Nat → Bool) (hS : clsEq S (fun _ => true) = false) (w : World) (h : RowC w (some ⟨b, o, none⟩) 1 (fun _ => S) w.heap.size) :
    Calls Tryz.prog 50 #[.agg #[.int .i64 1, .slice (some ⟨b, o, none⟩) 1 cap]] w fun e w' => ∃ v, e = .returned v ∧ w'.ownsRow w.heap.size 100 4 v 1 (cls4 S) ∧ Below w.heap.size w w' := by
  obtain ⟨b', o', hbo, hb', e0, e1, e2, e3⟩ := h.at (show 0 < 1 by omega)
  cases hbo
  simp only [Nat.zero_mul, Nat.add_zero] at e0 e1 e2 e3
  exact gkinds_one b o cap S hS w hb' e0 e1 e2 e3

theorem gmarks (S : Nat → Bool) (w : World) : Calls Tryz.prog 51 #[.string ts, cv S] w fun e w' => ∃ g, e = .returned (.slice (some ⟨g, 0, none⟩) 4 4) ∧ w.heap.size ≤ g ∧ BlkU w' g 4 (fun i => bit (S (tb ts i))) ∧ Below w.heap.size w w' := marks_any ts (by decide) S w
theorem gcorr (S : Nat → Bool) (h97 : S 97 = true) (h98 : S 98 = false) (ap at' : Option Addr) (w : World) (hA : RowU w ap 1 (fun _ => 1) w.heap.size) (hB : RowU w at' 4 (fun i => bit (S (tb ts i))) w.heap.size) :
    Calls Tryz.prog 13 #[.slice ap 1 1, .slice at' 4 4, .int .i64 4] w fun e w' => ∃ v z, e = .returned (.tuple #[v, .int .i64 z, .int .i64 0]) ∧ w'.ownsRow w.heap.size 46 1 v 4 [.int .u64 1, .int .u64 0, .int .u64 1, .int .u64 0] ∧ Below w.heap.size w w' := by
  have h := corr_small ap at' 1 4 1 4 (fun _ => 1) (fun i => bit (S (tb ts i))) 4 (by omega) (by omega) (by omega) (by omega) (fun _ _ => by omega) (fun _ _ => bit_le _) (.inr (by decide)) w hA hB
  have e : wordCells (fun i => sumP (fun _ => 1) (fun i => bit (S (tb ts i))) i 1) 4 = [.int .u64 1, .int .u64 0, .int .u64 1, .int .u64 0] := by
    simp [wordCells, sumP, bit, show tb ts 0 = 97 by decide, show tb ts 1 = 98 by decide, show tb ts 2 = 97 by decide, show tb ts 3 = 98 by decide, h97, h98]
  rwa [show 4 + 1 - 1 = 4 by rfl, e] at h

/-- A row of four words. -/
structure X4 (w : World) (g : Nat) : Prop where
  c0 : w.cell? ⟨g, 0, none⟩ = some (.int .u64 1)
  c1 : w.cell? ⟨g, 1, none⟩ = some (.int .u64 0)
  c2 : w.cell? ⟨g, 2, none⟩ = some (.int .u64 1)
  c3 : w.cell? ⟨g, 3, none⟩ = some (.int .u64 0)
theorem X4.far {w : World} {g B : Nat} (h : X4 w g) (hn : g ≠ B) (o : Nat) (v : Value) : X4 (w.setCell ⟨B, o, none⟩ v) g := by
  have k : ∀ i, (w.setCell ⟨B, o, none⟩ v).cell? ⟨g, i, none⟩ = w.cell? ⟨g, i, none⟩ := fun i => World.cell?_setCell_other _ _ _ _ (by intro e; injection e with h1 h2; exact hn h1.symm)
  exact ⟨(k _).trans h.c0, (k _).trans h.c1, (k _).trans h.c2, (k _).trans h.c3⟩

theorem elem56 : ElemT 56 116 2 16 := elem_of (z := .agg #[.int .i64 0, .int .i64 0]) Tryz.underlying56 (by kernel_rfl) rfl (by decide)
theorem makeB4 (w : World) : (Instr.makeSlice 112 (.int .i64 4) (.int .i64 4)).run Tryz.prog w = .ok (.slice (some ⟨w.heap.size, 0, none⟩) 4 4) (w.alloc (.cells #[.bool false, .bool false, .bool false, .bool false] 4)) := by kernel_rfl

set_option maxRecDepth 100000 in
set_option maxHeartbeats 4000000 in
theorem gfind_one (b o cap : Nat) (S : Nat → Bool) (hS : clsEq S (fun _ => true) = false) (hS0 : clsEq noByte S = false) (h97 : S 97 = true) (h98 : S 98 = false) (w : World) (hb : b < w.heap.size)
    (e0 : w.cell? ⟨b, o, none⟩ = some (.int .u64 (wd S 0 : Nat))) (e1 : w.cell? ⟨b, o + 1, none⟩ = some (.int .u64 (wd S 1 : Nat))) (e2 : w.cell? ⟨b, o + 2, none⟩ = some (.int .u64 (wd S 2 : Nat))) (e3 : w.cell? ⟨b, o + 3, none⟩ = some (.int .u64 (wd S 3 : Nat))) :
    Calls Tryz.prog 21 #[.agg #[.int .i64 2, .string ts], .agg #[.int .i64 1, .slice (some ⟨b, o, none⟩) 1 cap], .int .i64 4] w fun e w' => ∃ ad c z, e = .returned (.tuple #[.slice ad 2 c, .int .i64 z, .int .i64 0]) ∧ Below w.heap.size w w' := by
  have hrf := Lib.hid fun w' => right_field w'
  have hmm := Lib.hid fun w' (h : RowC w' (some ⟨b, o, none⟩) 1 (fun _ => S) w'.heap.size) => may_mask (some ⟨b, o, none⟩) cap (fun _ => S) (by simp [anyN, hS0]) w' h
  have HF := At.alloc (At.new w (.cells #[.int .i64 2, .string ts] 60)) (.cells #[.int .i64 1, .slice (some ⟨b, o, none⟩) 1 cap] 62)
  have HM := At.new (w.alloc (.cells #[.int .i64 2, .string ts] 60)) (.cells #[.int .i64 1, .slice (some ⟨b, o, none⟩) 1 cap] 62)
  rw [World.size_alloc] at HM
  have hA : Below w.heap.size w ((w.alloc (.cells #[.int .i64 2, .string ts] 60)).alloc (.cells #[.int .i64 1, .slice (some ⟨b, o, none⟩) 1 cap] 62)) := ((Below.refl _ _).alloc (Nat.le_refl _) _).alloc (by simp) _
  have HA := Lib.hid hA
  clear hA
  have f0 := HF.cell 0
  have f1 := HF.cell 1
  have m0 := HM.cell 0
  have m1 := HM.cell 1
  have ml := HM.lt
  have fl := HF.lt
  simp only [List.getElem?_toArray, List.getElem?_cons_zero, List.getElem?_cons_succ] at f0 f1 m0 m1
  have hkd := Lib.hid fun w' h => gkinds_row b o cap S hS w' h
  have hgr := Lib.hid fun lb mb fb w' (h : RowC w' (some ⟨b, o, none⟩) 1 (fun _ => S) w'.heap.size) k0 kl m0 m1 ml f0 fl => grow_row b o cap lb mb fb S w' h k0 kl m0 m1 ml f0 fl
  have hmk2 := Lib.hid fun w' => gmarks S w'
  have hco := Lib.hid fun ap at' w' h1 h2 => gcorr S h97 h98 ap at' w' h1 h2
  have hlog : Hid (∀ w', Calls Tryz.prog 48 #[.int .i64 4] w' fun e w2 => e = .returned (.tuple #[.int .i64 2, .bool true]) ∧ Below w'.heap.size w' w2) := Lib.hid fun w' => by
    have h := log_any 4 w'
    rwa [show lgV 4 = 2 by decide, show lgB 4 = true by decide] at h
  go_enter Tryz.func21, Tryz.ntmps21
  go_wp2_with fail
  generalize hW : (w.alloc (.cells #[.int .i64 2, .string ts] 60)).alloc (.cells #[.int .i64 1, .slice (some ⟨b, o, none⟩) 1 cap] 62) = W1 at *
  obtain ⟨FB, hFB⟩ : ∃ FB, FB = w.heap.size := ⟨_, rfl⟩
  have hne := Lib.hid hFB
  have HR1 := Lib.hid (show RowC W1 (some ⟨b, o, none⟩) 1 (fun _ => S) W1.heap.size from .inr ⟨b, o, rfl, Nat.lt_of_lt_of_le hb HA.out.size, fun j hj => by
    obtain rfl : j = 0 := by omega
    have k := fun i => HA.out.cell (p := ⟨b, i, none⟩) hb
    exact ⟨(k _).trans e0, (k _).trans e1, (k _).trans e2, (k _).trans e3⟩⟩)
  have HFx := Lib.hid HF
  have HMx := Lib.hid HM
  clear hW HF HM e0 e1 e2 e3 hFB
  go_step3
  go_wp2_with (first | (go_at_call 46; refine (hrf.out _).mono ?_; rintro e w1 ⟨rfl, hb1⟩; have B1 := Lib.hid hb1; have k0 := (hb1.cell (p := ⟨w.heap.size + 1, 0, none⟩) ml).trans m0; have k1 := (hb1.cell (p := ⟨w.heap.size + 1, 1, none⟩) ml).trans m1; have R1 := Lib.hid ((HR1.out.below hb1 (Nat.le_refl _)).mono hb1.size); clear hb1 HR1) | (go_at_call 47; refine (hmm.out _ R1.out).mono ?_; rintro e w2 ⟨rfl, hb2⟩; have B2 := Lib.hid (B1.out.trans (hb2.mono B1.out.size)); have R2 := Lib.hid ((R1.out.below hb2 (Nat.le_refl _)).mono hb2.size); clear hb2 R1 B1 k0 k1))
  have F2 := Lib.hid (HFx.out.below B2.out fl)
  have M2 := Lib.hid (HMx.out.below B2.out ml)
  clear f0 f1 m0 m1 ml fl hrf hmm
  have f0 := F2.out.cell 0
  have f1 := F2.out.cell 1
  have m0 := M2.out.cell 0
  have m1 := M2.out.cell 1
  have ml := M2.out.lt
  have fl := F2.out.lt
  simp only [List.getElem?_toArray, List.getElem?_cons_zero, List.getElem?_cons_succ] at f0 f1 m0 m1
  go_quiet (fail)
  go_wp2_with fail
  obtain ⟨W3, hW3⟩ : ∃ W3, W3 = w2.drewN nq := ⟨_, rfl⟩
  rw [← hW3]
  have B3 : Hid (Below W1.heap.size W1 W3) := Lib.hid (hW3 ▸ below_drewN B2.out _)
  have R3 : Hid (RowC W3 (some ⟨b, o, none⟩) 1 (fun _ => S) W3.heap.size) := Lib.hid (hW3 ▸ (R2.out.below (below_drewN (Below.refl w2.heap.size w2) nq) (Nat.le_refl _)).mono (below_drewN (Below.refl w2.heap.size w2) nq).size)
  have F3 := Lib.hid (HFx.out.below B3.out (by have := HA.out.size; have := HMx.out.lt; omega))
  have M3 := Lib.hid (HMx.out.below B3.out HMx.out.lt)
  clear f0 f1 m0 m1 ml fl B2 R2 F2 M2 hW3
  have f0 := F3.out.cell 0
  have f1 := F3.out.cell 1
  have m0 := M3.out.cell 0
  have m1 := M3.out.cell 1
  have ml := M3.out.lt
  have fl := F3.out.lt
  simp only [List.getElem?_toArray, List.getElem?_cons_zero, List.getElem?_cons_succ] at f0 f1 m0 m1
  go_region
  have B4 : Hid (Below W1.heap.size W1 (W3.alloc (.cells #[.int .i64 1] 3)).drew) := Lib.hid ((B3.out.alloc B3.out.size _).drew)
  have L4 : Hid (At (W3.alloc (.cells #[.int .i64 1] 3)).drew W3.heap.size (.cells #[.int .i64 1] 3)) := Lib.hid (At.new W3 _)
  have R4 : Hid (RowC (W3.alloc (.cells #[.int .i64 1] 3)).drew (some ⟨b, o, none⟩) 1 (fun _ => S) (W3.alloc (.cells #[.int .i64 1] 3)).drew.heap.size) := Lib.hid ((R3.out.below ((Below.refl W3.heap.size W3).alloc (Nat.le_refl _) (.cells #[.int .i64 1] 3)).drew (Nat.le_refl _)).mono (by simp))
  have hlb : Hid (W1.heap.size ≤ W3.heap.size) := Lib.hid B3.out.size
  have hWL : Hid (W3.heap.size < (W3.alloc (.cells #[.int .i64 1] 3)).drew.heap.size) := Lib.hid (by simp)
  generalize (W3.alloc (.cells #[.int .i64 1] 3)).drew = W4 at *
  generalize W3.heap.size = LB at *
  clear f0 f1 m0 m1 ml fl F3 M3 R3 B3
  have c0 := L4.out.cell 0
  have cl := hWL.out
  simp only [List.getElem?_toArray, List.getElem?_cons_zero] at c0
  have hmk := makeB4
  go_wp2_with (go_at_call 48; refine (hlog.out _).mono ?_; rintro e w5 ⟨rfl, hb5⟩; have B5 := Lib.hid (B4.out.trans (hb5.mono B4.out.size)); have L5 := Lib.hid (L4.out.below hb5 hWL.out); have R5 := Lib.hid ((R4.out.below hb5 (Nat.le_refl _)).mono hb5.size); have c0' := (hb5.cell (p := ⟨LB, 0, none⟩) hWL.out).trans c0; have cl' := Nat.lt_of_lt_of_le cl hb5.size; have f1 : w5.cell? ⟨w.heap.size, 1, none⟩ = some (.string ts) := (HFx.out.below B5.out HFx.out.lt).cell 1; have m0 : w5.cell? ⟨w.heap.size + 1, 0, none⟩ = some (.int .i64 1) := (HMx.out.below B5.out HMx.out.lt).cell 0; have m1 : w5.cell? ⟨w.heap.size + 1, 1, none⟩ = some (.slice (some ⟨b, o, none⟩) 1 cap) := (HMx.out.below B5.out HMx.out.lt).cell 1; have ml := (HMx.out.below B5.out HMx.out.lt).lt; clear c0 cl B4 L4 R4 hb5)
  have B6 : Hid (Below W1.heap.size W1 (w5.alloc (.cells #[.bool false, .bool false, .bool false, .bool false] 4))) := Lib.hid (B5.out.alloc B5.out.size _)
  have S6 := Lib.hid (At.new w5 (.cells #[.bool false, .bool false, .bool false, .bool false] 4))
  have L6 := Lib.hid (L5.out.alloc (.cells #[.bool false, .bool false, .bool false, .bool false] 4))
  have R6 : Hid (RowC (w5.alloc (.cells #[.bool false, .bool false, .bool false, .bool false] 4)) (some ⟨b, o, none⟩) 1 (fun _ => S) (w5.alloc (.cells #[.bool false, .bool false, .bool false, .bool false] 4)).heap.size) := Lib.hid ((R5.out.below ((Below.refl w5.heap.size w5).alloc (Nat.le_refl _) _) (Nat.le_refl _)).mono (by simp))
  have hsb : Hid (w5.heap.size < (w5.alloc (.cells #[.bool false, .bool false, .bool false, .bool false] 4)).heap.size) := Lib.hid (by simp)
  have hsb1 : Hid (W1.heap.size ≤ w5.heap.size) := Lib.hid B5.out.size
  have hls : Hid (LB < w5.heap.size) := Lib.hid cl'
  have hws : Hid (w.heap.size + 1 < w5.heap.size) := Lib.hid (by have := B5.out.size; have := HMx.out.lt; omega)
  generalize w5.alloc (.cells #[.bool false, .bool false, .bool false, .bool false] 4) = W6 at *
  generalize w5.heap.size = SB at *
  clear f1 c0' cl' B5 L5 R5 m0 m1 ml
  go_wp2_with (go_at_call 50; refine (hkd.out W6 R6.out).mono ?_; rintro e w7 ⟨v, rfl, ho7, hb7⟩; have B7 := Lib.hid (B6.out.trans (hb7.mono B6.out.size)); have L7 := Lib.hid (L6.out.below hb7 L6.out.lt); have S7 := Lib.hid (S6.out.below hb7 hsb.out); have R7 := Lib.hid ((R6.out.below hb7 (Nat.le_refl _)).mono hb7.size); obtain ⟨gk, ck, rfl, hgk, hgkl, cc⟩ := own_at ho7 (Nat.succ_pos _) rfl; have k0 := cc 0 _ rfl; have k1 := cc 1 _ rfl; have k2 := cc 2 _ rfl; have k3 := cc 3 _ rfl; have hsl := Lib.hid (Nat.lt_of_lt_of_le hsb.out hb7.size); clear cc ho7 hb7 B6 L6 S6 R6)
  refine wp_loop_rounds 2 ?_
  rw [rounds_succ]
  have B8 : Hid (Below W1.heap.size W1 (w7.alloc (.cells #[.int .u64 (wd S 0 : Nat), .int .u64 (wd S 1 : Nat), .int .u64 (wd S 2 : Nat), .int .u64 (wd S 3 : Nat)] 100))) := Lib.hid (B7.out.alloc B7.out.size _)
  have S8 := Lib.hid (S7.out.alloc (.cells #[.int .u64 (wd S 0 : Nat), .int .u64 (wd S 1 : Nat), .int .u64 (wd S 2 : Nat), .int .u64 (wd S 3 : Nat)] 100))
  have L8 := Lib.hid (L7.out.alloc (.cells #[.int .u64 (wd S 0 : Nat), .int .u64 (wd S 1 : Nat), .int .u64 (wd S 2 : Nat), .int .u64 (wd S 3 : Nat)] 100))
  have R8 : Hid (RowC (w7.alloc (.cells #[.int .u64 (wd S 0 : Nat), .int .u64 (wd S 1 : Nat), .int .u64 (wd S 2 : Nat), .int .u64 (wd S 3 : Nat)] 100)) (some ⟨b, o, none⟩) 1 (fun _ => S) (w7.alloc (.cells #[.int .u64 (wd S 0 : Nat), .int .u64 (wd S 1 : Nat), .int .u64 (wd S 2 : Nat), .int .u64 (wd S 3 : Nat)] 100)).heap.size) := Lib.hid ((R7.out.below ((Below.refl w7.heap.size w7).alloc (Nat.le_refl _) _) (Nat.le_refl _)).mono (by simp))
  have C8 := Lib.hid (HoldsC.new w7 S)
  have q8 : Hid (SB < w7.heap.size) := hsl
  go_wp2_with (first | (go_at_call 49; refine (hgr.out LB (w.heap.size + 1) w.heap.size _ R8.out (L8.out.cell 0) L8.out.lt ((HMx.out.below B8.out HMx.out.lt).cell 0) ((HMx.out.below B8.out HMx.out.lt).cell 1) (HMx.out.below B8.out HMx.out.lt).lt ((HFx.out.below B8.out HFx.out.lt).cell 0) (HFx.out.below B8.out HFx.out.lt).lt).mono ?_; rintro e w9 ⟨gp, rfl, hgp, hP9, hb9⟩; have P9 := Lib.hid hP9; have C9 := Lib.hid (C8.out.below hb9 C8.out.2.2); have B9 := Lib.hid (B8.out.trans (hb9.mono B8.out.size)); have S9 := Lib.hid (S8.out.below hb9 S8.out.lt); have f1 : w9.cell? ⟨w.heap.size, 1, none⟩ = some (.string ts) := (HFx.out.below B9.out HFx.out.lt).cell 1; have fl := (HFx.out.below B9.out HFx.out.lt).lt; obtain ⟨⟨d0, d1, d2, d3⟩, -, dl⟩ := C9.out; clear hgp hP9 hb9) | (go_at_call 51; refine (hmk2.out _).mono ?_; rintro e w10 ⟨gm, rfl, hgm, hM10, hb10⟩; have M10 := Lib.hid hM10; have P10 := Lib.hid (P9.out.below hb10 P9.out.lt); have B10 := Lib.hid (B9.out.trans (hb10.mono B9.out.size)); have S10 := Lib.hid (S9.out.below hb10 S9.out.lt); clear hgm hM10 hb10) | (go_at_call 13; refine (hco.out _ _ _ P10.out.row M10.out.row).mono ?_; rintro e w11 ⟨v, z, rfl, ho11, hb11⟩; have B11 := Lib.hid (B10.out.trans (hb11.mono B10.out.size)); have S11 := Lib.hid (S10.out.below hb11 S10.out.lt); have hsl2 := Lib.hid S10.out.lt; obtain ⟨gh, ch, rfl, hgh, hghl, cc⟩ := own_at ho11 (Nat.succ_pos _) rfl; have hgs := Lib.hid hgh; have x0 := cc 0 _ rfl; have x1 := cc 1 _ rfl; have x2 := cc 2 _ rfl; have x3 := cc 3 _ rfl; clear cc ho11 hb11 hgh B10 S10))
  have hx : X4 w11 gh := ⟨x0, x1, x2, x3⟩
  have HX11 := Lib.hid hx
  have hne := Lib.hid (show gh ≠ SB by have := hgs.out; have := hsl2.out; omega)
  have E11 := Lib.hid (Ex.refl [SB] w11)
  clear hx x0 x1 x2 x3 f1 fl d0 d1 d2 d3 dl k0 k1 k2 k3
  have ghl := hghl
  refine wp_loop_rounds 5 ?_
  rw [rounds_succ]
  obtain ⟨x0, x1, x2, x3⟩ := HX11.out
  have s0 := S11.out.cell 0
  have s1 := S11.out.free 0
  have s2 := S11.out.lt
  simp only [List.getElem?_toArray, List.getElem?_cons_zero] at s0
  go_wp2_with fail
  have hS := S11.out.set 0 (.bool false)
  have hX := HX11.out.far hne.out 0 (.bool false)
  have hE := E11.out.set SB 0 (.bool false) (by simp)
  have hl2 : gh < (w11.setCell ⟨SB, 0, none⟩ (.bool false)).heap.size := by simpa using ghl
  generalize w11.setCell ⟨SB, 0, none⟩ (.bool false) = w12 at *
  have S12 : Hid (At w12 SB (.cells #[.bool false, .bool false, .bool false, .bool false] 4)) := Lib.hid hS
  have HX12 := Lib.hid hX
  have E12 := Lib.hid hE
  clear s0 s1 s2 x0 x1 x2 x3 hS hX hE ghl S11 HX11 E11
  have ghl := hl2
  clear hl2
  rw [rounds_succ]
  obtain ⟨x0, x1, x2, x3⟩ := HX12.out
  have s0 := S12.out.cell 1
  have s1 := S12.out.free 1
  have s2 := S12.out.lt
  simp only [List.getElem?_toArray, List.getElem?_cons_zero, List.getElem?_cons_succ] at s0
  go_wp2_with fail
  have hS := S12.out.set 1 (.bool true)
  have hX := HX12.out.far hne.out 1 (.bool true)
  have hE := E12.out.set SB 1 (.bool true) (by simp)
  have hl2 : gh < (w12.setCell ⟨SB, 1, none⟩ (.bool true)).heap.size := by simpa using ghl
  generalize w12.setCell ⟨SB, 1, none⟩ (.bool true) = w13 at *
  have S13 : Hid (At w13 SB (.cells #[.bool false, .bool true, .bool false, .bool false] 4)) := Lib.hid hS
  have HX13 := Lib.hid hX
  have E13 := Lib.hid hE
  clear s0 s1 s2 x0 x1 x2 x3 hS hX hE ghl S12 HX12 E12
  have ghl := hl2
  clear hl2
  rw [rounds_succ]
  obtain ⟨x0, x1, x2, x3⟩ := HX13.out
  have s0 := S13.out.cell 2
  have s1 := S13.out.free 2
  have s2 := S13.out.lt
  simp only [List.getElem?_toArray, List.getElem?_cons_zero, List.getElem?_cons_succ] at s0
  go_wp2_with fail
  have hS := S13.out.set 2 (.bool false)
  have hX := HX13.out.far hne.out 2 (.bool false)
  have hE := E13.out.set SB 2 (.bool false) (by simp)
  have hl2 : gh < (w13.setCell ⟨SB, 2, none⟩ (.bool false)).heap.size := by simpa using ghl
  generalize w13.setCell ⟨SB, 2, none⟩ (.bool false) = w14 at *
  have S14 : Hid (At w14 SB (.cells #[.bool false, .bool true, .bool false, .bool false] 4)) := Lib.hid hS
  have HX14 := Lib.hid hX
  have E14 := Lib.hid hE
  clear s0 s1 s2 x0 x1 x2 x3 hS hX hE ghl S13 HX13 E13
  have ghl := hl2
  clear hl2
  rw [rounds_succ]
  obtain ⟨x0, x1, x2, x3⟩ := HX14.out
  have s0 := S14.out.cell 3
  have s1 := S14.out.free 3
  have s2 := S14.out.lt
  simp only [List.getElem?_toArray, List.getElem?_cons_zero, List.getElem?_cons_succ] at s0
  go_wp2_with fail
  have hS := S14.out.set 3 (.bool true)
  have hX := HX14.out.far hne.out 3 (.bool true)
  have hE := E14.out.set SB 3 (.bool true) (by simp)
  have hl2 : gh < (w14.setCell ⟨SB, 3, none⟩ (.bool true)).heap.size := by simpa using ghl
  generalize w14.setCell ⟨SB, 3, none⟩ (.bool true) = w15 at *
  have S15 : Hid (At w15 SB (.cells #[.bool false, .bool true, .bool false, .bool true] 4)) := Lib.hid hS
  have HX15 := Lib.hid hX
  have E15 := Lib.hid hE
  clear s0 s1 s2 x0 x1 x2 x3 hS hX hE ghl S14 HX14 E14
  have ghl := hl2
  clear hl2
  rw [rounds_succ]
  go_wp2_with fail
  rw [rounds_succ]
  go_wp2_with fail
  have B15 : Hid (Below W1.heap.size W1 w15) := Lib.hid (B11.out.trans (E15.out.below B11.out.size (by intro x hx; obtain rfl := List.mem_singleton.1 hx; exact hsb1.out)))
  have f0 : w15.cell? ⟨w.heap.size, 0, none⟩ = some (.int .i64 2) := (HFx.out.below B15.out HFx.out.lt).cell 0
  have fl := (HFx.out.below B15.out HFx.out.lt).lt
  have s0 := S15.out.cell 0
  have s1 := S15.out.cell 1
  have s2 := S15.out.cell 2
  have s3 := S15.out.cell 3
  have sl := S15.out.lt
  simp only [List.getElem?_toArray, List.getElem?_cons_zero, List.getElem?_cons_succ] at s0 s1 s2 s3
  clear ghl
  go_step3
  go_wp2_with fail
  refine wp_loop_rounds 5 ?_
  rw [rounds_succ]
  go_wp2_with fail
  refine wp_region_held_drew (S := fun w' => w'.cell? ⟨w.heap.size, 0, none⟩ = some (.int .i64 2)) (by kernel_rfl) (show w15.drew.cell? ⟨w.heap.size, 0, none⟩ = some (.int .i64 2) from f0) (fun hS => ?_)
  refine takeD 0 162 (.slice none 0 0) rfl rfl (by kernel_rfl) (by kernel_rfl) (by kernel_rfl) (fun _ _ _ h => h) (Or.inl ⟨by rfl, by intro w' hSw; first | (go_simp; done) | (go_simp; decide)⟩) hS ?_
  simp only [Act.put, List.setIfInBounds_toArray, List.set_cons_zero, List.set_cons_succ]
  refine takeD 1 163 (.int .i64 0) rfl rfl (by kernel_rfl) (by kernel_rfl) (by kernel_rfl) (fun _ _ _ h => h) (Or.inl ⟨by rfl, by intro w' hSw; first | (go_simp; done) | (go_simp; decide)⟩) hS ?_
  simp only [Act.put, List.setIfInBounds_toArray, List.set_cons_zero, List.set_cons_succ]
  refine takeD 2 164 (.pointer (some ⟨w.heap.size, 0, none⟩)) rfl rfl (by kernel_rfl) (by kernel_rfl) (by kernel_rfl) (fun _ _ _ h => h) (Or.inl ⟨by rfl, by intro w' hSw; first | (go_simp; done) | (go_simp; decide)⟩) hS ?_
  simp only [Act.put, List.setIfInBounds_toArray, List.set_cons_zero, List.set_cons_succ]
  refine takeD 3 165 (.int .i64 2) rfl rfl (by kernel_rfl) (by kernel_rfl) (by kernel_rfl) (fun _ _ _ h => h) (Or.inl ⟨by rfl, by intro w' hSw; first | (go_simp; done) | (go_simp; decide)⟩) hS ?_
  simp only [Act.put, List.setIfInBounds_toArray, List.set_cons_zero, List.set_cons_succ]
  refine takeD 4 166 (.int .i64 0) rfl rfl (by kernel_rfl) (by kernel_rfl) (by kernel_rfl) (fun _ _ _ h => h) (Or.inl ⟨by rfl, by intro w' hSw; first | (go_simp; done) | (go_simp; decide)⟩) hS ?_
  simp only [Act.put, List.setIfInBounds_toArray, List.set_cons_zero, List.set_cons_succ]
  refine takeD 5 167 (.int .i64 0) rfl rfl (by kernel_rfl) (by kernel_rfl) (by kernel_rfl) (fun _ _ _ h => h) (Or.inl ⟨by rfl, by intro w' hSw; first | (go_simp; done) | (go_simp; decide)⟩) hS ?_
  simp only [Act.put, List.setIfInBounds_toArray, List.set_cons_zero, List.set_cons_succ]
  refine takeD 6 168 (.pointer (some ⟨w.heap.size, 0, none⟩)) rfl rfl (by kernel_rfl) (by kernel_rfl) (by kernel_rfl) (fun _ _ _ h => h) (Or.inl ⟨by rfl, by intro w' hSw; first | (go_simp; done) | (go_simp; decide)⟩) hS ?_
  simp only [Act.put, List.setIfInBounds_toArray, List.set_cons_zero, List.set_cons_succ]
  refine takeD 7 169 (.int .i64 2) rfl rfl (by kernel_rfl) (by kernel_rfl) (by kernel_rfl) (fun _ _ _ h => h) (Or.inl ⟨by rfl, by intro w' hSw; first | (go_simp; done) | (go_simp; decide)⟩) hS ?_
  simp only [Act.put, List.setIfInBounds_toArray, List.set_cons_zero, List.set_cons_succ]
  refine takeD 8 170 (.int .i64 0) rfl rfl (by kernel_rfl) (by kernel_rfl) (by kernel_rfl) (fun _ _ _ h => h) (Or.inl ⟨by rfl, by intro w' hSw; first | (go_simp; done) | (go_simp; decide)⟩) hS ?_
  simp only [Act.put, List.setIfInBounds_toArray, List.set_cons_zero, List.set_cons_succ]
  refine takeD 9 171 (.agg #[.int .i64 0, .int .i64 0]) rfl rfl (by kernel_rfl) (by kernel_rfl) (by kernel_rfl) (fun _ _ _ h => h) (Or.inl ⟨by rfl, by intro w' hSw; first | (go_simp; done) | (go_simp; decide)⟩) hS ?_
  simp only [Act.put, List.setIfInBounds_toArray, List.set_cons_zero, List.set_cons_succ]
  refine wpAnyH_ready (rs := [10]) (by kernel_rfl) (by simp) ?_
  refine AllReadyH.cons rfl (fun Kc hK => ?_) AllReadyH.nil
  go_simp
  refine hK.out _ _ (show (w15.drew.alloc (.cells #[.int .i64 0, .int .i64 0] 116)).cell? ⟨w.heap.size, 0, none⟩ = some (.int .i64 2) by go_simp) (fun hH => ?_)
  try simp only [Act.put, List.setIfInBounds_toArray, List.set_cons_zero, List.set_cons_succ]
  clear hK Kc
  refine wpAnyH_ready (rs := [11]) (by kernel_rfl) (by simp) ?_
  refine AllReadyH.cons (o := { dst := some 173, op := .call { callee := .builtin .append, args := #[.tmp 162, .tmp 172], argTypes := #[56, 56] }, type := 56, pos := "grid.go:92", after := _, guard := none }) rfl (fun Kc hK => ?_) AllReadyH.nil
  refine step_app elem56 (by with_reducible rfl) (.tmp 162) (.tmp 172) (by with_reducible rfl) (v := .slice none 0 0) (n := 0) (xs := []) (base := w15.heap.size) (w0 := w15.drew) (by rfl) (World.ownsRow_nil _ _ _ _) [.int .i64 0, .int .i64 0] (by rfl) (by rfl) (by simp [Value.oneCell']) (by unfold maxLen; omega) (by omega) (Nat.le_refl _) ?_
  intro v16 w16 ho16 hb16
  refine hK.out _ _ ((hb16.cell (p := ⟨w.heap.size, 0, none⟩) fl).trans f0) (fun hH => ?_)
  try simp only [Act.put, List.setIfInBounds_toArray, List.set_cons_zero, List.set_cons_succ]
  clear hK Kc
  refine wpAnyH_ready (rs := [12]) (by kernel_rfl) (by simp) ?_
  refine AllReadyH.cons rfl (fun Kc hK => ?_) AllReadyH.nil
  go_simp
  refine hK.out _ _ ((hb16.cell (p := ⟨w.heap.size, 0, none⟩) fl).trans f0) (fun hH => ?_)
  try simp only [Act.put, List.setIfInBounds_toArray, List.set_cons_zero, List.set_cons_succ]
  clear hK Kc
  refine wpAnyH_done (by kernel_rfl) ?_ _
  go_wp2_with fail
  have hz16 := hb16.size
  have hcl := Lib.hid fun j => hb16.cell (p := ⟨SB, j, none⟩) sl
  have f16 := (hb16.cell (p := ⟨w.heap.size, 0, none⟩) fl).trans f0
  have t1 := (hcl.out 1).trans s1
  have t2 := (hcl.out 2).trans s2
  have t3 := (hcl.out 3).trans s3
  have sl16 := Nat.lt_of_lt_of_le sl hz16
  have sl17 := Lib.hid (show SB < w15.heap.size from sl)
  have fl17 : w.heap.size < w15.heap.size := fl
  have fl16 := Nat.lt_of_lt_of_le fl hz16
  have HB16 := Lib.hid hb16
  have HO16 := Lib.hid ho16
  have HZ := Lib.hid hz16
  clear hcl s0 s1 s2 s3 sl fl f0 hb16 ho16 hz16 hS hH
  rw [rounds_succ]
  go_wp2_with fail
  rw [rounds_succ]
  go_wp2_with fail
  obtain ⟨a16, c16, rfl⟩ := own_slice HO16.out
  refine wp_region_held_drew (S := fun w' => w'.cell? ⟨w.heap.size, 0, none⟩ = some (.int .i64 2)) (by kernel_rfl) (show w16.drew.cell? ⟨w.heap.size, 0, none⟩ = some (.int .i64 2) from f16) (fun hS => ?_)
  refine takeD 0 162 (.slice a16 1 c16) rfl rfl (by kernel_rfl) (by kernel_rfl) (by kernel_rfl) (fun _ _ _ h => h) (Or.inl ⟨by rfl, by intro w' hSw; first | (go_simp; done) | (go_simp; decide)⟩) hS ?_
  simp only [Act.put, List.setIfInBounds_toArray, List.set_cons_zero, List.set_cons_succ]
  refine takeD 1 163 (.int .i64 2) rfl rfl (by kernel_rfl) (by kernel_rfl) (by kernel_rfl) (fun _ _ _ h => h) (Or.inl ⟨by rfl, by intro w' hSw; first | (go_simp; done) | (go_simp; decide)⟩) hS ?_
  simp only [Act.put, List.setIfInBounds_toArray, List.set_cons_zero, List.set_cons_succ]
  refine takeD 2 164 (.pointer (some ⟨w.heap.size, 0, none⟩)) rfl rfl (by kernel_rfl) (by kernel_rfl) (by kernel_rfl) (fun _ _ _ h => h) (Or.inl ⟨by rfl, by intro w' hSw; first | (go_simp; done) | (go_simp; decide)⟩) hS ?_
  simp only [Act.put, List.setIfInBounds_toArray, List.set_cons_zero, List.set_cons_succ]
  refine takeD 3 165 (.int .i64 2) rfl rfl (by kernel_rfl) (by kernel_rfl) (by kernel_rfl) (fun _ _ _ h => h) (Or.inl ⟨by rfl, by intro w' hSw; first | (go_simp; done) | (go_simp; decide)⟩) hS ?_
  simp only [Act.put, List.setIfInBounds_toArray, List.set_cons_zero, List.set_cons_succ]
  refine takeD 4 166 (.int .i64 0) rfl rfl (by kernel_rfl) (by kernel_rfl) (by kernel_rfl) (fun _ _ _ h => h) (Or.inl ⟨by rfl, by intro w' hSw; first | (go_simp; done) | (go_simp; decide)⟩) hS ?_
  simp only [Act.put, List.setIfInBounds_toArray, List.set_cons_zero, List.set_cons_succ]
  refine takeD 5 167 (.int .i64 2) rfl rfl (by kernel_rfl) (by kernel_rfl) (by kernel_rfl) (fun _ _ _ h => h) (Or.inl ⟨by rfl, by intro w' hSw; first | (go_simp; done) | (go_simp; decide)⟩) hS ?_
  simp only [Act.put, List.setIfInBounds_toArray, List.set_cons_zero, List.set_cons_succ]
  refine takeD 6 168 (.pointer (some ⟨w.heap.size, 0, none⟩)) rfl rfl (by kernel_rfl) (by kernel_rfl) (by kernel_rfl) (fun _ _ _ h => h) (Or.inl ⟨by rfl, by intro w' hSw; first | (go_simp; done) | (go_simp; decide)⟩) hS ?_
  simp only [Act.put, List.setIfInBounds_toArray, List.set_cons_zero, List.set_cons_succ]
  refine takeD 7 169 (.int .i64 2) rfl rfl (by kernel_rfl) (by kernel_rfl) (by kernel_rfl) (fun _ _ _ h => h) (Or.inl ⟨by rfl, by intro w' hSw; first | (go_simp; done) | (go_simp; decide)⟩) hS ?_
  simp only [Act.put, List.setIfInBounds_toArray, List.set_cons_zero, List.set_cons_succ]
  refine takeD 8 170 (.int .i64 1) rfl rfl (by kernel_rfl) (by kernel_rfl) (by kernel_rfl) (fun _ _ _ h => h) (Or.inl ⟨by rfl, by intro w' hSw; first | (go_simp; done) | (go_simp; decide)⟩) hS ?_
  simp only [Act.put, List.setIfInBounds_toArray, List.set_cons_zero, List.set_cons_succ]
  refine takeD 9 171 (.agg #[.int .i64 0, .int .i64 1]) rfl rfl (by kernel_rfl) (by kernel_rfl) (by kernel_rfl) (fun _ _ _ h => h) (Or.inl ⟨by rfl, by intro w' hSw; first | (go_simp; done) | (go_simp; decide)⟩) hS ?_
  simp only [Act.put, List.setIfInBounds_toArray, List.set_cons_zero, List.set_cons_succ]
  refine wpAnyH_ready (rs := [10]) (by kernel_rfl) (by simp) ?_
  refine AllReadyH.cons rfl (fun Kc hK => ?_) AllReadyH.nil
  go_simp
  refine hK.out _ _ (show (w16.drew.alloc (.cells #[.int .i64 0, .int .i64 1] 116)).cell? ⟨w.heap.size, 0, none⟩ = some (.int .i64 2) by go_simp) (fun hH => ?_)
  try simp only [Act.put, List.setIfInBounds_toArray, List.set_cons_zero, List.set_cons_succ]
  clear hK Kc
  refine wpAnyH_ready (rs := [11]) (by kernel_rfl) (by simp) ?_
  refine AllReadyH.cons (o := { dst := some 173, op := .call { callee := .builtin .append, args := #[.tmp 162, .tmp 172], argTypes := #[56, 56] }, type := 56, pos := "grid.go:92", after := _, guard := none }) rfl (fun Kc hK => ?_) AllReadyH.nil
  refine step_app elem56 (by with_reducible rfl) (.tmp 162) (.tmp 172) (by with_reducible rfl) (v := .slice a16 1 c16) (n := 1) (xs := [.int .i64 0, .int .i64 0]) (base := w15.heap.size) (w0 := w16.drew) (by rfl) (HO16.out.drew) [.int .i64 0, .int .i64 1] (by rfl) (by rfl) (by simp [Value.oneCell']) (by unfold maxLen; omega) (by omega) HZ.out ?_
  intro v17 w17 ho17 hb17
  refine hK.out _ _ ((hb17.cell (p := ⟨w.heap.size, 0, none⟩) fl17).trans f16) (fun hH => ?_)
  try simp only [Act.put, List.setIfInBounds_toArray, List.set_cons_zero, List.set_cons_succ]
  clear hK Kc
  refine wpAnyH_ready (rs := [12]) (by kernel_rfl) (by simp) ?_
  refine AllReadyH.cons rfl (fun Kc hK => ?_) AllReadyH.nil
  go_simp
  refine hK.out _ _ ((hb17.cell (p := ⟨w.heap.size, 0, none⟩) fl17).trans f16) (fun hH => ?_)
  try simp only [Act.put, List.setIfInBounds_toArray, List.set_cons_zero, List.set_cons_succ]
  clear hK Kc
  refine wpAnyH_done (by kernel_rfl) ?_ _
  go_wp2_with fail
  have u3 := (hb17.cell (p := ⟨SB, 3, none⟩) sl17.out).trans t3
  have ul := Nat.lt_of_lt_of_le sl16 hb17.size
  have HB17 := Lib.hid hb17
  obtain ⟨a17, c17, rfl⟩ := own_slice ho17
  clear t1 t2 t3 sl16 fl16 f16 hb17 ho17 hS hH fl17
  rw [rounds_succ]
  go_wp2_with fail
  rw [rounds_succ]
  go_wp2_with fail
  rw [Exit.noGoto_ret]
  refine bodyPost_ret (v := .tuple #[.slice a17 2 c17, .int .i64 (wrap64 z), .int .i64 0]) (by first | rfl | simp [results, Tryz.results21, go_sem]) rfl ?_
  have hf1 : w.heap.size ≤ W1.heap.size := HA.out.size
  have hf2 : w.heap.size ≤ w15.heap.size := Nat.le_trans hf1 B15.out.size
  exact ⟨a17, c17, _, rfl, (((HA.out.trans (B15.out.mono hf1)).trans ((Below.refl w15.heap.size w15).drew.mono hf2)).trans (HB16.out.mono hf2)).trans (((Below.refl w16.heap.size w16).drew.mono (Nat.le_trans hf2 HZ.out)).trans (HB17.out.mono hf2))⟩
end Go.Proofs.YtjfkmoinldlmaaaGreat
