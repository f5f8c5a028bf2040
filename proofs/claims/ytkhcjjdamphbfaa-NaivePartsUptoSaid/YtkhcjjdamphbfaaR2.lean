/- Walks of the reference classes, second part: Of, Range, Full. -/
import Derived.Test.YtkhcjjdamphbfaaR1
namespace Go.Proofs.Ytkhcjjdamphbfaa
open Go.RowKit

theorem own_form {w : World} {base : Nat} {e : TypeId} {size n : Nat} {v : Value} {xs : List Value} (h : w.ownsRow base e size v n xs) (hn : 0 < n) : ∃ g cap, v = .slice (some ⟨g, 0, none⟩) n cap ∧ base ≤ g ∧ g < w.heap.size := by
  have hl := h.lt
  rcases h.2 with ⟨_, h1⟩ | ⟨g, cap, cur, hv, hg, _⟩
  · omega
  · exact ⟨g, cap, hv, hg, (hl g (by rw [hv]; rfl)).2⟩

/-- A block of 256 bools. -/
structure BoolsAt (w : World) (g : Nat) (S : Nat → Bool) : Prop where
  cells : ∀ j, j < 256 → w.cell? ⟨g, j, none⟩ = some (.bool (S j))
  free : ∀ j, j < 256 → w.frozen? ⟨g, j, none⟩ = false
  lt : g < w.heap.size

theorem BoolsAt.below {w w' : World} {g n : Nat} {S : Nat → Bool} (h : BoolsAt w g S) (hb : Below n w w') (hg : g < n) : BoolsAt w' g S where
  cells j hj := (hb.cell (p := ⟨g, j, none⟩) hg).trans (h.cells j hj)
  free j hj := (hb.frozen (p := ⟨g, j, none⟩) hg).trans (h.free j hj)
  lt := Nat.lt_of_lt_of_le h.lt hb.size

theorem BoolsAt.congr {w : World} {g : Nat} {S T : Nat → Bool} (h : BoolsAt w g S) (he : ∀ j, j < 256 → S j = T j) : BoolsAt w g T where
  cells j hj := by rw [h.cells j hj, he j hj]
  free := h.free
  lt := h.lt

theorem BoolsAt.set {w : World} {g : Nat} {S : Nat → Bool} (h : BoolsAt w g S) (i : Nat) (hi : i < 256) (b : Bool) : BoolsAt (w.setCell ⟨g, i, none⟩ (.bool b)) g (fun n => if n = i then b else S n) where
  cells j hj := by
    by_cases he : j = i
    · subst he
      rw [World.cell?_setCell_same' _ _ _ (by rw [h.cells j hj]; rfl), if_pos rfl]
    · rw [World.cell?_setCell_other _ _ _ _ (by intro e; cases e; exact he rfl), h.cells j hj, if_neg he]
  free j hj := by rw [World.frozen?_setCell]; exact h.free j hj
  lt := by simpa using h.lt

theorem BoolsAt.of_own {w : World} {g cap base : Nat} {S : Nat → Bool} (h : w.ownsRow base 4 1 (.slice (some ⟨g, 0, none⟩) 256 cap) 256 (bls S 256)) : BoolsAt w g S where
  cells j hj := by rw [h.cellAt j (by omega), bls_at S 256 j hj]
  free j _ := h.frozenAt j
  lt := (h.lt g rfl).2

/-- 256 times false. -/
def mk256 : Array Value := madeCells #[.bool false] 256
theorem make256 (w : World) : (Instr.makeSlice 84 (.int .i64 256) (.int .i64 256)).run Try.prog w = .ok (.slice (some ⟨w.heap.size, 0, none⟩) 256 256) (w.alloc (.cells mk256 4)) := by
  obtain ⟨i, hi, h1, h2, h3⟩ := info_parts (P := Try.prog) (show (Try.prog.info? 4).map (fun i => (i.zero, i.size, i.bytes)) = some (some (.bool false), 1, 1) from by kernel_rfl)
  have h := run_make (P := Try.prog) w 84 4 i (.bool false) Try.underlying84 hi h1 .i64 .i64 256 256 (by omega) (by omega) (by rw [h3]; omega) (by omega)
  rw [h2] at h
  exact h
theorem BoolsAt.new (w : World) : BoolsAt (w.alloc (.cells mk256 4)) w.heap.size noByte where
  cells j hj := by
    rw [World.cell?_alloc_new]
    have : mk256.toList[j]? = some (.bool false) := by
      unfold mk256
      rw [toList_madeCells_one]
      rw [List.getElem?_replicate, if_pos hj]
    rw [← Array.getElem?_toList, this]
    rfl
  free j _ := World.frozen?_alloc_new _ _ _ _
  lt := by simp

theorem rbytes_any (S : Nat → Bool) (w : World) :
    Calls Try.prog 107 #[cv S] w fun e w' => ∃ g cap, e = .returned (.slice (some ⟨g, 0, none⟩) 256 cap) ∧ w.heap.size < g ∧ BoolsAt w' g S ∧ Below w.heap.size w w' :=
  (bytes_any S w).mono fun e w' ⟨v, he, ho, hb⟩ => by
    obtain ⟨g, cap, hv, hg, _⟩ := own_form ho (by omega)
    subst hv
    exact ⟨g, cap, he, hg, .of_own ho, hb⟩


set_option maxHeartbeats 1000000 in
set_option maxRecDepth 100000 in
theorem rof_any (s : ByteArray) (hs : s.size ≤ 140737488351232) (w : World) :
    Calls Try.prog 35 #[.string s] w fun e w' => e = .returned (cv (strSet s s.size)) ∧ Below w.heap.size w w' := by
  have hmk := make256
  go_enter Try.func35, Try.ntmps35
  go_wp2
  clear hmk
  obtain ⟨W0, hW0⟩ : ∃ W0 : World, ((w.alloc (Obj.cells #[Value.int IntKind.u64 0, Value.int IntKind.u64 0, Value.int IntKind.u64 0, Value.int IntKind.u64 0] 26)).alloc (Obj.cells mk256 4)) = W0 := ⟨_, rfl⟩
  have H1 : HoldsC W0 w.heap.size noByte := by subst hW0; exact (HoldsC.new0 w).alloc _
  have H2 : BoolsAt W0 (w.heap.size + 1) noByte := by subst hW0; have := BoolsAt.new (w.alloc (Obj.cells #[Value.int IntKind.u64 0, Value.int IntKind.u64 0, Value.int IntKind.u64 0, Value.int IntKind.u64 0] 26)); rwa [World.size_alloc] at this
  have HB : Below w.heap.size w W0 := by subst hW0; exact ((Below.refl _ _).alloc (Nat.le_refl _) _).alloc (by simp) _
  rw [hW0]
  clear hW0
  go_loopw [4] (fun i wr => ∃ k : Nat, k ≤ s.size ∧ i = .int .i64 k ∧ BoolsAt wr (w.heap.size + 1) (strSet s k) ∧ Below (w.heap.size + 1) W0 wr) (fun i _ => s.size - (intOf i).toNat)
  case atStart => exact ⟨0, by omega, rfl, by rw [strSet_zero]; exact H2, Below.refl _ _⟩
  case round =>
    obtain ⟨k, hk, rfl, hbl, hb⟩ := hrel
    by_cases hlt : k < s.size
    · have hby : s[k].toNat < 256 := s[k].toNat_lt
      have hcell := hbl.cells _ hby
      have hfree := hbl.free _ hby
      have hll := hbl.lt
      go_wp2
      refine ⟨⟨k + 1, by omega, by go_num, ?_, hb.setCell (Nat.le_refl _) _⟩, by simp [intOf]; omega⟩
      refine (hbl.set s[k].toNat hby true).congr fun j hj => ?_
      rw [← strSet_succ s k hlt]
      unfold upd
      by_cases he : j = s[k].toNat <;> simp [he]
    · obtain rfl : k = s.size := by omega
      have hr := H1.below hb (by omega)
      have hr' := Lib.hid hr
      obtain ⟨⟨d0, d1, d2, d3⟩, ⟨g0, g1, g2, g3⟩, gl⟩ := hr
      go_wp2_with (go_at_call 106; refine (make_any (strSet s s.size) _ _ _ hbl.lt hbl.cells).mono ?_; rintro e w1 ⟨rfl, hb1⟩; obtain ⟨hc1, hf1, hz1, -⟩ := Old.of hb1)
      obtain ⟨⟨e0, e1, e2, e3⟩, -, -⟩ := (hr'.out.below hb1 gl).set (strSet s s.size)
      exact bodyPost_ret (v := cv (strSet s s.size)) (by simp [results, Try.results35, go_sem, e0, e1, e2, e3]) rfl ⟨rfl, below_setC ((HB.trans (hb.mono (by omega))).trans (hb1.mono (by omega))) (Nat.le_refl _) _⟩

set_option maxHeartbeats 1000000 in
set_option maxRecDepth 100000 in
theorem rrange_any (f t : Int) (hf : 0 ≤ f) (hf2 : f ≤ 255) (ht : 0 ≤ t) (ht2 : t ≤ 255) (w : World) :
    Calls Try.prog 37 #[.int .u8 f, .int .u8 t] w fun e w' => e = .returned (cv (rangeS f.toNat t.toNat)) ∧ Below w.heap.size w w' := by
  obtain ⟨f, rfl⟩ := Int.eq_ofNat_of_zero_le hf
  obtain ⟨t, rfl⟩ := Int.eq_ofNat_of_zero_le ht
  simp only [Int.toNat_natCast]
  have hmk := make256
  go_enter Try.func37, Try.ntmps37
  go_wp2
  clear hmk
  obtain ⟨W0, hW0⟩ : ∃ W0 : World, ((w.alloc (Obj.cells #[Value.int IntKind.u64 0, Value.int IntKind.u64 0, Value.int IntKind.u64 0, Value.int IntKind.u64 0] 26)).alloc (Obj.cells mk256 4)) = W0 := ⟨_, rfl⟩
  have H1 : HoldsC W0 w.heap.size noByte := by subst hW0; exact (HoldsC.new0 w).alloc _
  have H2 : BoolsAt W0 (w.heap.size + 1) noByte := by subst hW0; have := BoolsAt.new (w.alloc (Obj.cells #[Value.int IntKind.u64 0, Value.int IntKind.u64 0, Value.int IntKind.u64 0, Value.int IntKind.u64 0] 26)); rwa [World.size_alloc] at this
  have HB : Below w.heap.size w W0 := by subst hW0; exact ((Below.refl _ _).alloc (Nat.le_refl _) _).alloc (by simp) _
  rw [hW0]
  clear hW0
  go_loopw [6] (fun i wr => ∃ k : Nat, f ≤ k ∧ k ≤ 256 ∧ i = .int .i64 k ∧ Hid (k = f ∨ k ≤ t + 1) ∧ BoolsAt wr (w.heap.size + 1) (upTo f k) ∧ Below (w.heap.size + 1) W0 wr) (fun i _ => 256 - (intOf i).toNat)
  case atStart => exact ⟨f, by omega, by omega, rfl, Or.inl rfl, by rw [upTo_self]; exact H2, Below.refl _ _⟩
  case round =>
    obtain ⟨k, hk1, hk2, rfl, HK, hbl, hb⟩ := hrel
    by_cases hlt : k ≤ t
    · have hby : k < 256 := by omega
      have hcell := hbl.cells _ hby
      have hfree := hbl.free _ hby
      have hll := hbl.lt
      go_wp2
      refine ⟨⟨k + 1, by omega, by omega, by go_num, Or.inr (by omega), ?_, hb.setCell (Nat.le_refl _) _⟩, by simp [intOf]; omega⟩
      refine (hbl.set k hby true).congr fun j hj => ?_
      rw [← upTo_succ f k hk1]
      unfold upd
      by_cases he : j = k <;> simp [he]
    · have hend := upTo_end f t k (by omega) (by rcases HK.out with h | h <;> omega)
      have HE := Lib.hid hend
      clear hend
      have hr := H1.below hb (by omega)
      have hr' := Lib.hid hr
      obtain ⟨⟨d0, d1, d2, d3⟩, ⟨g0, g1, g2, g3⟩, gl⟩ := hr
      go_wp2_with (go_at_call 106; refine (make_any (upTo f k) _ _ _ hbl.lt hbl.cells).mono ?_; rintro e w1 ⟨rfl, hb1⟩; obtain ⟨hc1, hf1, hz1, -⟩ := Old.of hb1)
      rw [← HE.out]
      obtain ⟨⟨e0, e1, e2, e3⟩, -, -⟩ := (hr'.out.below hb1 gl).set (upTo f k)
      exact bodyPost_ret (v := cv (upTo f k)) (by simp [results, Try.results37, go_sem, e0, e1, e2, e3]) rfl ⟨rfl, below_setC ((HB.trans (hb.mono (by omega))).trans (hb1.mono (by omega))) (Nat.le_refl _) _⟩

theorem range_all : cv (rangeS 0 255) = cv (fun _ => true) := cv_congr fun n hn => by unfold rangeS; simp; omega

set_option maxHeartbeats 1000000 in
theorem rfull_any (w : World) :
    Calls Try.prog 39 #[] w fun e w' => e = .returned (cv (fun _ => true)) ∧ Below w.heap.size w w' := by
  rw [← range_all]
  go_enter Try.func39, Try.ntmps39
  go_wp2_with (go_at_call 37; refine (rrange_any 0 255 (by omega) (by omega) (by omega) (by omega) _).mono ?_; rintro e w1 ⟨rfl, hb1⟩; have hcl := (HoldsC.new0 w).below hb1 (by simp); have hcl' := Lib.hid hcl; obtain ⟨⟨c0, c1, c2, c3⟩, ⟨f0, f1, f2, f3⟩, hl⟩ := hcl)
  obtain ⟨⟨e0, e1, e2, e3⟩, -, -⟩ := hcl'.out.set (rangeS 0 255)
  exact bodyPost_ret (v := cv (rangeS 0 255)) (by simp [results, Try.results39, go_sem, e0, e1, e2, e3]) rfl ⟨rfl, below_setC (((Below.refl _ w).alloc (Nat.le_refl _) _).trans (hb1.mono (by simp))) (Nat.le_refl _) _⟩
end Go.Proofs.Ytkhcjjdamphbfaa
