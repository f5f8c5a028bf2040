/- Walk of alive, the law's own three searches. -/
import Derived.Test.YtjfkmoinldlmaaaGreatSa30
import Derived.Test.YtjfkmoinldlmaaaGreatSa21
import Derived.Test.YtjfkmoinldlmaaaGreatSa09
namespace Go.Proofs.YtjfkmoinldlmaaaGreat
open Go.RowKit Go.Shelf

abbrev abS : ByteArray := ⟨#[97, 98]⟩
theorem ab_sized (way : Int) (h : way = 1 ∨ way = 2 ∨ way = 3 ∨ way = 4 ∨ way = 5) : sdB way ts.size 4 0 (byteS abS) 2 = true := by
  rcases h with rfl | rfl | rfl | rfl | rfl <;> decide +kernel
theorem ab_occ : occ ts 2 (byteS abS) 0 = [0, 2] := by decide +kernel
theorem a_full : clsEq (byteS abS 0) (fun _ => true) = false := by decide +kernel
theorem a_none : clsEq noByte (byteS abS 0) = false := by decide +kernel
theorem a_97 : byteS abS 0 97 = true := by decide +kernel
theorem a_98 : byteS abS 0 98 = false := by decide +kernel

theorem find_ab (way : Int) (h : way = 1 ∨ way = 2 ∨ way = 3 ∨ way = 4 ∨ way = 5) (ad : Option Addr) (cap : Nat) (w : World) (hR : RowC w ad 2 (byteS abS) w.heap.size) :
    Calls Tryz.prog 19 #[.int .i64 way, .agg #[.slice ad 2 cap, .int .i64 0], .string ts, .int .i64 4] w fun e w' => ∃ ad2 c z, e = .returned (.tuple #[.slice ad2 2 c, .int .i64 z, .int .i64 0]) ∧ RowI w' ad2 2 (gi [0, 2]) w'.heap.size ∧ Below w.heap.size w w' := by
  have hf := mfind_any way ad 2 cap 0 (byteS abS) ts 4 (by decide) (ab_sized way h) w hR
  rw [ab_occ] at hf
  refine hf.mono ?_
  rintro e w' ⟨v, z, rfl, ho, hb⟩
  obtain ⟨ad2, c, rfl⟩ := own_slice ho
  exact ⟨ad2, c, z, rfl, rowI_of_ints (l := [0, 2]) ho, hb⟩
theorem places_ab (ad ad' : Option Addr) (c c' : Nat) (w : World) (h : RowI w ad 2 (gi [0, 2]) w.heap.size) (h' : RowI w ad' 2 (gi [0, 2]) w.heap.size) :
    Calls Tryz.prog 20 #[.slice ad 2 c, .slice ad' 2 c'] w fun e w' => e = .returned (.bool true) ∧ Below w.heap.size w w' := by
  have hp := places_any ad 2 c (gi [0, 2]) ad' 2 c' (gi [0, 2]) (by omega) (by omega) w h h'
  rwa [show (decide ((2 : Nat) = 2) && agI (gi [0, 2]) (gi [0, 2]) 2) = true by decide] at hp

theorem rowI_new (w : World) : RowI (w.alloc (.cells #[.int .i64 0, .int .i64 2] 3)) (some ⟨w.heap.size, 0, none⟩) 2 (gi [0, 2]) (w.alloc (.cells #[.int .i64 0, .int .i64 2] 3)).heap.size := by
  refine .inr ⟨w.heap.size, 0, rfl, by simp, fun j hj => ?_⟩
  have h := At.new w (.cells #[.int .i64 0, .int .i64 2] 3)
  rw [Nat.zero_add, h.cell j]
  rcases (show j = 0 ∨ j = 1 by omega) with rfl | rfl <;> rfl
theorem text_ab (w : World) : Calls Tryz.prog 18 #[.string abS, .int .i64 0] w fun e w' => ∃ g cap, e = .returned (.agg #[.slice (some ⟨g, 0, none⟩) 2 cap, .int .i64 0]) ∧ 2 ≤ cap ∧ RowC w' (some ⟨g, 0, none⟩) 2 (byteS abS) w'.heap.size ∧ Below w.heap.size w w' := by
  refine (text_any abS (by decide) 0 w).mono ?_
  rintro e w' ⟨ad, cap, rfl, ho, hb⟩
  have hr := rowC_of_own ho
  rcases ho.2 with ⟨-, h0⟩ | ⟨g, c, cur, hv, -, -, hn, -⟩
  · cases h0
  · cases hv
    exact ⟨g, cap, rfl, hn, hr, hb⟩

theorem gfind_ab (g cap : Nat) (w : World) (hR : RowC w (some ⟨g, 0, none⟩) 2 (byteS abS) w.heap.size) :
    Calls Tryz.prog 21 #[.agg #[.int .i64 2, .string ts], .agg #[.int .i64 1, .slice (some ⟨g, 0, none⟩) 1 cap], .int .i64 4] w fun e w' => ∃ ad c z, e = .returned (.tuple #[.slice ad 2 c, .int .i64 z, .int .i64 0]) ∧ Below w.heap.size w w' := by
  obtain ⟨b, o, hbo, hb, e0, e1, e2, e3⟩ := hR.at (show 0 < 2 by omega)
  cases hbo
  simp only [Nat.zero_mul, Nat.add_zero] at e0 e1 e2 e3
  exact gfind_one g 0 cap (byteS abS 0) a_full a_none a_97 a_98 w hb e0 e1 e2 e3

set_option maxRecDepth 100000 in
set_option maxHeartbeats 8000000 in
theorem alive_any (w : World) : Calls Tryz.prog 6 #[] w fun e w' => e = .returned (.bool true) ∧ Below w.heap.size w w' := by
  have hte := Lib.hid fun w' => text_ab w'
  have hpl := Lib.hid fun ad ad' c c' w' h h' => places_ab ad ad' c c' w' h h'
  have hli := Lib.hid fun w' => line_at w'
  have hgf := Lib.hid fun g cap w' h => gfind_ab g cap w' h
  have hf1 := Lib.hid fun ad cap w' h => find_ab 1 (by decide) ad cap w' h
  have hf2 := Lib.hid fun ad cap w' h => find_ab 2 (by decide) ad cap w' h
  have hf3 := Lib.hid fun ad cap w' h => find_ab 3 (by decide) ad cap w' h
  have hf4 := Lib.hid fun ad cap w' h => find_ab 4 (by decide) ad cap w' h
  have hf5 := Lib.hid fun ad cap w' h => find_ab 5 (by decide) ad cap w' h
  go_enter Tryz.func6, Tryz.ntmps6
  go_wp2_with (go_at_call 18; refine (hte.out (w.alloc cfC)).mono ?_; rintro e w1 ⟨g, cap, rfl, hcap, hR1, hb1⟩; have R1 := Lib.hid hR1; have B1 := Lib.hid hb1; clear hR1 hb1)
  have HB0 := Lib.hid (((((Below.refl w.heap.size w).alloc (Nat.le_refl _) cfC)).trans (B1.out.mono (by simp))).alloc (Nat.le_trans (by simp) B1.out.size) (.cells #[.slice (some ⟨g, 0, none⟩) 2 cap, .int .i64 0] 52))
  have HC0 := Lib.hid (((At.new w cfC).below B1.out (by simp)).alloc (.cells #[.slice (some ⟨g, 0, none⟩) 2 cap, .int .i64 0] 52))
  have HL0 := Lib.hid (At.new w1 (.cells #[.slice (some ⟨g, 0, none⟩) 2 cap, .int .i64 0] 52))
  have HR0 : Hid (RowC (w1.alloc (.cells #[.slice (some ⟨g, 0, none⟩) 2 cap, .int .i64 0] 52)) (some ⟨g, 0, none⟩) 2 (byteS abS) (w1.alloc (.cells #[.slice (some ⟨g, 0, none⟩) 2 cap, .int .i64 0] 52)).heap.size) := Lib.hid ((R1.out.below ((Below.refl w1.heap.size w1).alloc (Nat.le_refl _) _) (Nat.le_refl _)).mono (by simp))
  have HCap := Lib.hid hcap
  generalize w1.alloc (.cells #[.slice (some ⟨g, 0, none⟩) 2 cap, .int .i64 0] 52) = V0 at *
  generalize w1.heap.size = LB at *
  clear R1 B1 hcap
  refine wp_loop_rounds 6 ?_
  have l0 := HL0.out.cell 0
  have l1 := HL0.out.cell 1
  have ll := HL0.out.lt
  simp only [List.getElem?_toArray, List.getElem?_cons_zero, List.getElem?_cons_succ] at l0 l1
  rw [rounds_succ]
  go_wp2_with (first | (go_at_call 19; refine (hf1.out _ _ V0 HR0.out).mono ?_; rintro e w2 ⟨ad2, c2, z2, rfl, hI, hb⟩; have Ia := Lib.hid hI; have Ba := Lib.hid hb; clear hI hb) | (go_at_call 20; refine (hpl.out _ _ _ _ _ ((Ia.out.below ((Below.refl w2.heap.size w2).alloc (Nat.le_refl _) _) (Nat.le_refl _)).mono (by simp)) (rowI_new w2)).mono ?_; rintro e w3 ⟨rfl, hb⟩; have Bb := Lib.hid ((Ba.out.alloc Ba.out.size _).trans (hb.mono (Nat.le_trans Ba.out.size (by simp)))); clear hb))
  have HL1 := Lib.hid (HL0.out.below Bb.out HL0.out.lt)
  have HC1 := Lib.hid (HC0.out.below Bb.out HC0.out.lt)
  have HR1 := Lib.hid ((HR0.out.below Bb.out (Nat.le_refl _)).mono Bb.out.size)
  have HB1 := Lib.hid (HB0.out.trans (Bb.out.mono HB0.out.size))
  clear l0 l1 ll Ia Ba Bb HL0 HC0 HR0 HB0
  obtain ⟨V1, rfl⟩ : ∃ V, V = w3 := ⟨w3, rfl⟩
  have l0 := HL1.out.cell 0
  have l1 := HL1.out.cell 1
  have ll := HL1.out.lt
  simp only [List.getElem?_toArray, List.getElem?_cons_zero, List.getElem?_cons_succ] at l0 l1
  rw [rounds_succ]
  go_wp2_with (first | (go_at_call 19; refine (hf2.out _ _ V1 HR1.out).mono ?_; rintro e w2 ⟨ad2, c2, z2, rfl, hI, hb⟩; have Ia := Lib.hid hI; have Ba := Lib.hid hb; clear hI hb) | (go_at_call 20; refine (hpl.out _ _ _ _ _ ((Ia.out.below ((Below.refl w2.heap.size w2).alloc (Nat.le_refl _) _) (Nat.le_refl _)).mono (by simp)) (rowI_new w2)).mono ?_; rintro e w3 ⟨rfl, hb⟩; have Bb := Lib.hid ((Ba.out.alloc Ba.out.size _).trans (hb.mono (Nat.le_trans Ba.out.size (by simp)))); clear hb))
  have HL2 := Lib.hid (HL1.out.below Bb.out HL1.out.lt)
  have HC2 := Lib.hid (HC1.out.below Bb.out HC1.out.lt)
  have HR2 := Lib.hid ((HR1.out.below Bb.out (Nat.le_refl _)).mono Bb.out.size)
  have HB2 := Lib.hid (HB1.out.trans (Bb.out.mono HB1.out.size))
  clear l0 l1 ll Ia Ba Bb HL1 HC1 HR1 HB1
  obtain ⟨V2, rfl⟩ : ∃ V, V = w3 := ⟨w3, rfl⟩
  have l0 := HL2.out.cell 0
  have l1 := HL2.out.cell 1
  have ll := HL2.out.lt
  simp only [List.getElem?_toArray, List.getElem?_cons_zero, List.getElem?_cons_succ] at l0 l1
  rw [rounds_succ]
  go_wp2_with (first | (go_at_call 19; refine (hf3.out _ _ V2 HR2.out).mono ?_; rintro e w2 ⟨ad2, c2, z2, rfl, hI, hb⟩; have Ia := Lib.hid hI; have Ba := Lib.hid hb; clear hI hb) | (go_at_call 20; refine (hpl.out _ _ _ _ _ ((Ia.out.below ((Below.refl w2.heap.size w2).alloc (Nat.le_refl _) _) (Nat.le_refl _)).mono (by simp)) (rowI_new w2)).mono ?_; rintro e w3 ⟨rfl, hb⟩; have Bb := Lib.hid ((Ba.out.alloc Ba.out.size _).trans (hb.mono (Nat.le_trans Ba.out.size (by simp)))); clear hb))
  have HL3 := Lib.hid (HL2.out.below Bb.out HL2.out.lt)
  have HC3 := Lib.hid (HC2.out.below Bb.out HC2.out.lt)
  have HR3 := Lib.hid ((HR2.out.below Bb.out (Nat.le_refl _)).mono Bb.out.size)
  have HB3 := Lib.hid (HB2.out.trans (Bb.out.mono HB2.out.size))
  clear l0 l1 ll Ia Ba Bb HL2 HC2 HR2 HB2
  obtain ⟨V3, rfl⟩ : ∃ V, V = w3 := ⟨w3, rfl⟩
  have l0 := HL3.out.cell 0
  have l1 := HL3.out.cell 1
  have ll := HL3.out.lt
  simp only [List.getElem?_toArray, List.getElem?_cons_zero, List.getElem?_cons_succ] at l0 l1
  rw [rounds_succ]
  go_wp2_with (first | (go_at_call 19; refine (hf4.out _ _ V3 HR3.out).mono ?_; rintro e w2 ⟨ad2, c2, z2, rfl, hI, hb⟩; have Ia := Lib.hid hI; have Ba := Lib.hid hb; clear hI hb) | (go_at_call 20; refine (hpl.out _ _ _ _ _ ((Ia.out.below ((Below.refl w2.heap.size w2).alloc (Nat.le_refl _) _) (Nat.le_refl _)).mono (by simp)) (rowI_new w2)).mono ?_; rintro e w3 ⟨rfl, hb⟩; have Bb := Lib.hid ((Ba.out.alloc Ba.out.size _).trans (hb.mono (Nat.le_trans Ba.out.size (by simp)))); clear hb))
  have HL4 := Lib.hid (HL3.out.below Bb.out HL3.out.lt)
  have HC4 := Lib.hid (HC3.out.below Bb.out HC3.out.lt)
  have HR4 := Lib.hid ((HR3.out.below Bb.out (Nat.le_refl _)).mono Bb.out.size)
  have HB4 := Lib.hid (HB3.out.trans (Bb.out.mono HB3.out.size))
  clear l0 l1 ll Ia Ba Bb HL3 HC3 HR3 HB3
  obtain ⟨V4, rfl⟩ : ∃ V, V = w3 := ⟨w3, rfl⟩
  have l0 := HL4.out.cell 0
  have l1 := HL4.out.cell 1
  have ll := HL4.out.lt
  simp only [List.getElem?_toArray, List.getElem?_cons_zero, List.getElem?_cons_succ] at l0 l1
  rw [rounds_succ]
  go_wp2_with (first | (go_at_call 19; refine (hf5.out _ _ V4 HR4.out).mono ?_; rintro e w2 ⟨ad2, c2, z2, rfl, hI, hb⟩; have Ia := Lib.hid hI; have Ba := Lib.hid hb; clear hI hb) | (go_at_call 20; refine (hpl.out _ _ _ _ _ ((Ia.out.below ((Below.refl w2.heap.size w2).alloc (Nat.le_refl _) _) (Nat.le_refl _)).mono (by simp)) (rowI_new w2)).mono ?_; rintro e w3 ⟨rfl, hb⟩; have Bb := Lib.hid ((Ba.out.alloc Ba.out.size _).trans (hb.mono (Nat.le_trans Ba.out.size (by simp)))); clear hb))
  have HL5 := Lib.hid (HL4.out.below Bb.out HL4.out.lt)
  have HC5 := Lib.hid (HC4.out.below Bb.out HC4.out.lt)
  have HR5 := Lib.hid ((HR4.out.below Bb.out (Nat.le_refl _)).mono Bb.out.size)
  have HB5 := Lib.hid (HB4.out.trans (Bb.out.mono HB4.out.size))
  clear l0 l1 ll Ia Ba Bb HL4 HC4 HR4 HB4
  obtain ⟨V5, rfl⟩ : ∃ V, V = w3 := ⟨w3, rfl⟩
  rw [rounds_succ]
  have l0 := HL5.out.cell 0
  have ll := HL5.out.lt
  simp only [List.getElem?_toArray, List.getElem?_cons_zero] at l0
  have hcp := HCap.out
  go_wp2_with (first | (go_at_call 21; refine (hgf.out g cap V5 HR5.out).mono ?_; rintro e w4 ⟨ad4, c4, z4, rfl, hb⟩; have HB6 := Lib.hid (HB5.out.trans (hb.mono HB5.out.size)); have HC6 := Lib.hid (HC5.out.below hb HC5.out.lt); have a0 := HC6.out.cell 0; have a1 := HC6.out.cell 1; have a2 := HC6.out.cell 2; have a3 := HC6.out.cell 3; have a4 := HC6.out.cell 4; have a5 := HC6.out.cell 5; have al := HC6.out.lt; simp only [List.getElem?_toArray, List.getElem?_cons_zero, List.getElem?_cons_succ] at a0 a1 a2 a3 a4 a5; clear hb l0 ll) | (go_at_call 22; refine (hli.out w4).mono ?_; rintro e w5 ⟨rfl, hb⟩; have HB7 := Lib.hid (HB6.out.trans (hb.mono HB6.out.size)); clear hb))
  go_ret
  exact ⟨rfl, HB7.out⟩
end Go.Proofs.YtjfkmoinldlmaaaGreat

/- The row of the law BeagleSums: sums of products are exact, whatever the rows and the block size. -/
namespace Go.Proofs.YtjfkmoinldlmaaaGreat
open Go.ChangeShapes Go.WideShapes Go.ChangeAt Go.RowKit Go.Deep
open Go.ChangeMaps (open_string shut_string)

section
variable {H : Type} {enc : TypeId × Value → H} {w : World} {base : Nat} {spare : Nat → Bool} {held : Bool}
set_option maxRecDepth 100000 in
/-- An argument that is a row of words. -/
theorem open_words {v : Value} {d : DataW H} {p : List MemPlace} {b0 : Nat} (hv : Value.okWide Tryz.prog w .any b0 42 v) (h : DataW.Trod enc Tryz.prog w base spare held 42 v d p) :
    ∃ ad n cap A, v = .slice ad n cap ∧ n ≤ cap ∧ RowU w ad n A w.heap.size := by
  obtain ⟨fuel, hf⟩ := h
  rcases open_slice1 Tryz.underlying42 cells24 hf with ⟨hc, _⟩ | ⟨⟨b, o, s⟩, len, cap, m, k, V, D, Pl, hc, hb, hl, hm, hmm, hx, hV⟩
  · refine ⟨none, 0, 0, fun _ => 0, ?_, Nat.le_refl _, .inl rfl⟩
    cases v <;> simp_all [Value.cells, Value.okWide, Tryz.underlying42, Cell.okWide, Cell.ok]
  · have hlm : len ≤ m := by rw [hmm]; split <;> omega
    have hel : ∀ i, ∃ x : Nat, i < len → s = none ∧ b < w.heap.size ∧ w.cell? ⟨b, o + i, none⟩ = some (.int .u64 (x : Nat)) := by
      intro i
      by_cases hi : i < len
      · obtain ⟨h1, h2⟩ := hV i (by omega)
        obtain ⟨x, e1, _, w1⟩ := DataW.trod_int Tryz.underlying46 h2
        simp at e1
        have hb1 := bounds_u64 w1
        obtain ⟨x, rfl⟩ := Int.eq_ofNat_of_zero_le hb1.1
        have hs : s = none := by simpa [Addr.add] using World.cell?_spot (hV 0 (by omega)).1
        rw [e1, spot_plain hs] at h1
        exact ⟨x, fun _ => ⟨hs, World.block_lt_of_cell? w _ h1, h1⟩⟩
      · exact ⟨0, fun h => absurd h hi⟩
    obtain ⟨A, hA⟩ := Classical.axiomOfChoice hel
    refine ⟨some ⟨b, o, s⟩, len, cap, A, ?_, by omega, ?_⟩
    · clear hx hV hmm hel
      cases v <;> simp_all [Value.cells, Value.okWide, Tryz.underlying42, Cell.okWide, Cell.ok]
    · rcases Nat.eq_zero_or_pos len with h0 | h0
      · exact .inl h0
      · obtain ⟨rfl, hbl, _⟩ := hA 0 h0
        exact .inr ⟨b, o, rfl, hbl, fun j hj => (hA j hj).2.2⟩
end

set_option maxRecDepth 100000 in
theorem beagleSums_lifted (os : Os) (started : os.Started) (H : Type) (enc : TypeId × Value → H) :
    ReturnsInHanded {} Tryz.checked os 4 .any (Rows.beagleSumsSpec.pre6 enc Tryz.prog Tryz.f4 Rows.beagleSumsRow.domain false) (Rows.beagleSumsSpec.post enc Tryz.prog Tryz.f4 false true false false) := by
  refine returnsInHanded_of_change_sized (C := Tryz.checked) try_own started (by kernel_rfl) Tryz.func4
    (ChangeSpec.witness6 (enc := enc) (C := Tryz.checked) false ⟨#[], #[.slice none 0 0, .slice none 0 0, .int .i64 0], []⟩ 8 (by kernel_rfl) (by kernel_rfl) (by kernel_rfl) (by kernel_rfl)) ?_
  intro W base args ds gs before hval0 hW hcnd hsz0 _
  have hval : ∀ (j : Nat) t v, Tryz.f4.params[j]? = some t → args[j]? = some v → Value.okWide Tryz.prog W .any base t v := hval0
  have hW' := hW
  obtain ⟨p, q, hA0, hV, rfl, hfz, hnd⟩ := hW
  have hA : DataW.TrodAll enc Tryz.prog W 0 (fun _ => true) true Tryz.f4.params.toList args.toList ds p := hA0
  rw [Tryz.params4] at hA hval
  obtain ⟨v0, vs0, d0, ds0, p0, q0, hargs, rfl, rfl, h0, r0⟩ := trodAll_cons hA
  obtain ⟨v1, vs1, d1, ds1, p1, q1, rfl, rfl, rfl, h1, r1⟩ := trodAll_cons r0
  obtain ⟨v2, vs2, d2, ds2, p2, q2, rfl, rfl, rfl, h2, r2⟩ := trodAll_cons r1
  obtain ⟨rfl, rfl, rfl⟩ := trodAll_nil r2
  obtain rfl : args = #[v0, v1, v2] := by cases args; simp_all
  obtain ⟨rfl, rfl⟩ := trodVars_none hV
  have k0 := h0
  have lt0 : ∀ x ∈ p0, x.block < W.heap.size := by obtain ⟨m, hm⟩ := k0; exact DataW.trod_lt m _ _ _ hm
  have k1 := h1
  have lt1 : ∀ x ∈ p1, x.block < W.heap.size := by obtain ⟨m, hm⟩ := k1; exact DataW.trod_lt m _ _ _ hm
  have k2 := h2
  have lt2 : ∀ x ∈ p2, x.block < W.heap.size := by obtain ⟨m, hm⟩ := k2; exact DataW.trod_lt m _ _ _ hm
  obtain ⟨A0, n0, c0, L0, rfl, _, R0⟩ := open_words (hval 0 42 v0 rfl rfl) h0
  obtain ⟨A1, n1, c1, L1, rfl, z1, R1⟩ := open_words (hval 1 42 v1 rfl rfl) h1
  obtain ⟨a2, rfl, _, _, y2⟩ := open_int Tryz.underlying3 (hval 2 3 v2 rfl rfl) h2
  clear hA0 hval0
  refine (sums_any alive_any A0 A1 n0 n1 c0 c1 L0 L1 a2 z1 W R0 R1).mono fun e W' ⟨he, bel⟩ => ?_
  subst he
  exact ⟨_, rfl, _, _, _, [], _, [], hW', trodAll_mk1 (shut_bool Tryz.underlying4 _), (trodAll_cons_mk (Below.trod try_laid (by kernel_rfl) (of_decide_eq_true (by kernel_rfl)) k0 bel lt0) (trodAll_cons_mk (Below.trod try_laid (by kernel_rfl) (of_decide_eq_true (by kernel_rfl)) k1 bel lt1) (trodAll_cons_mk (Below.trod try_laid (by kernel_rfl) (of_decide_eq_true (by kernel_rfl)) k2 bel lt2) trodAll_mk0))), rfl, bel.frame _, fun h => by cases h⟩

/-- the row of the law BeagleSums -/
theorem beagleSums_holds : Rows.BeagleSumsSaid :=
  OpenClaim.holds_of_wide 4 Tryz.f4 rfl rfl rfl rfl rfl rfl rfl ⟨rfl, rfl, rfl, rfl, rfl⟩ rfl rfl rfl rfl rfl (by kernel_rfl) Tryz.func4
    (by kernel_rfl)
    (of_decide_eq_true (by kernel_rfl)) (by unfold Func.isWrapper; first | (rw [if_pos (by decide +kernel)]; kernel_rfl) | (rw [if_neg (by decide +kernel)]; exact ⟨rfl, rfl⟩))
    (fun os started H enc _ => beagleSums_lifted os started H enc)

#print axioms beagleSums_holds
end Go.Proofs.YtjfkmoinldlmaaaGreat
