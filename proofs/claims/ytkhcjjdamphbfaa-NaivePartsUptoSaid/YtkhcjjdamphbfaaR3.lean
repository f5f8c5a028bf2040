/- Walks of the reference classes, third part: Not, Or. -/
import Derived.Test.YtkhcjjdamphbfaaR2
namespace Go.Proofs.Ytkhcjjdamphbfaa
open Go.RowKit

/-- Turned round below a place. -/
def notTo (S : Nat → Bool) (k : Nat) : Nat → Bool := fun n => if n < k then !S n else S n
/-- Joined below a place. -/
def orTo (S T : Nat → Bool) (k : Nat) : Nat → Bool := fun n => if n < k then S n || T n else S n

set_option maxHeartbeats 1000000 in
set_option maxRecDepth 100000 in
theorem rnot_any (S : Nat → Bool) (w : World) :
    Calls Try.prog 41 #[cv S] w fun e w' => e = .returned (cv (fun n => !S n)) ∧ Below w.heap.size w w' := by
  go_enter Try.func41, Try.ntmps41
  go_wp2_with fail
  have H0 := HoldsC.new w S
  obtain ⟨W0, hW0⟩ : ∃ W0 : World, ((w.alloc (.cells #[.int .u64 (wd S 0 : Nat), .int .u64 (wd S 1 : Nat), .int .u64 (wd S 2 : Nat), .int .u64 (wd S 3 : Nat)] 26)).alloc (Obj.cells #[Value.int IntKind.u64 0, Value.int IntKind.u64 0, Value.int IntKind.u64 0, Value.int IntKind.u64 0] 26)) = W0 := ⟨_, rfl⟩
  have H1 : HoldsC W0 (w.heap.size + 1) noByte := by subst hW0; have := HoldsC.new0 (w.alloc (.cells #[.int .u64 (wd S 0 : Nat), .int .u64 (wd S 1 : Nat), .int .u64 (wd S 2 : Nat), .int .u64 (wd S 3 : Nat)] 26)); rwa [World.size_alloc] at this
  have HB : Below w.heap.size w W0 := by subst hW0; exact ((Below.refl _ _).alloc (Nat.le_refl _) _).alloc (by simp) _
  have hsz : w.heap.size + 2 ≤ W0.heap.size := by subst hW0; simp
  rw [hW0]
  clear hW0
  go_wp2_with (go_at_call 107; refine (rbytes_any S _).mono ?_; rintro e w1 ⟨g, cap, rfl, hg, hbl, hb1⟩)
  go_loopw [4] (fun i wr => ∃ k : Nat, k ≤ 256 ∧ i = .int .i64 k ∧ BoolsAt wr g (notTo S k) ∧ Below W0.heap.size W0 wr) (fun i _ => 256 - (intOf i).toNat)
  case atStart => exact ⟨0, by omega, rfl, hbl.congr fun j _ => by simp [notTo], hb1⟩
  case round =>
    obtain ⟨k, hk, rfl, hbl, hb⟩ := hrel
    by_cases hlt : k < 256
    · have hcell := hbl.cells k hlt
      have hfree := hbl.free k hlt
      have hll := hbl.lt
      go_wp2
      refine ⟨⟨k + 1, by omega, by go_num, (hbl.set k hlt _).congr fun j hj => ?_, hb.setCell (by simp; omega) _⟩, by simp [intOf]; omega⟩
      unfold notTo
      by_cases he : j = k
      · subst he; simp
      · by_cases hl : j < k
        · simp [he, hl, Nat.lt_succ_of_lt hl]
        · have : ¬ j < k + 1 := by omega
          simp [he, hl, this]
    · obtain rfl : k = 256 := by omega
      have hr := H1.below hb (by omega)
      have hr' := Lib.hid hr
      obtain ⟨⟨d0, d1, d2, d3⟩, ⟨g0, g1, g2, g3⟩, gl⟩ := hr
      have hbl' := hbl.congr (T := fun n => !S n) fun j hj => by simp [notTo, hj]
      go_wp2_with (go_at_call 106; refine (make_any (fun n => !S n) _ _ _ hbl'.lt hbl'.cells).mono ?_; rintro e w2 ⟨rfl, hb2⟩; obtain ⟨hc1, hf1, hz1, -⟩ := Old.of hb2)
      obtain ⟨⟨e0, e1, e2, e3⟩, -, -⟩ := (hr'.out.below hb2 gl).set (fun n => !S n)
      exact bodyPost_ret (v := cv (fun n => !S n)) (by simp [results, Try.results41, go_sem, e0, e1, e2, e3]) rfl ⟨rfl, below_setC ((HB.trans (hb.mono (by omega))).trans (hb2.mono (by have := hb.size; omega))) (by omega) _⟩


theorem orTo_step (S T : Nat → Bool) (k : Nat) (j : Nat) : (if j = k then (S k || T k) else orTo S T k j) = orTo S T (k + 1) j := by
  unfold orTo
  by_cases he : j = k
  · subst he; simp
  · by_cases hl : j < k
    · simp [he, hl, Nat.lt_succ_of_lt hl]
    · have : ¬ j < k + 1 := by omega
      simp [he, hl, this]

set_option maxHeartbeats 1000000 in
set_option maxRecDepth 100000 in
theorem ror_any (S T : Nat → Bool) (w : World) :
    Calls Try.prog 43 #[cv S, cv T] w fun e w' => e = .returned (cv (fun n => S n || T n)) ∧ Below w.heap.size w w' := by
  go_enter Try.func43, Try.ntmps43
  go_wp2_with fail
  obtain ⟨Wa, hWa⟩ : ∃ Wa : World, w.alloc (.cells #[.int .u64 (wd S 0 : Nat), .int .u64 (wd S 1 : Nat), .int .u64 (wd S 2 : Nat), .int .u64 (wd S 3 : Nat)] 26) = Wa := ⟨_, rfl⟩
  have hBa : Below w.heap.size w Wa := by subst hWa; exact (Below.refl _ _).alloc (Nat.le_refl _) _
  have hsa : Wa.heap.size = w.heap.size + 1 := by subst hWa; simp
  obtain ⟨W0, hW0⟩ : ∃ W0 : World, ((Wa.alloc (.cells #[.int .u64 (wd T 0 : Nat), .int .u64 (wd T 1 : Nat), .int .u64 (wd T 2 : Nat), .int .u64 (wd T 3 : Nat)] 26)).alloc (Obj.cells #[Value.int IntKind.u64 0, Value.int IntKind.u64 0, Value.int IntKind.u64 0, Value.int IntKind.u64 0] 26)) = W0 := ⟨_, rfl⟩
  have HT : HoldsC W0 (w.heap.size + 1) T := by subst hW0; rw [← hsa]; exact (HoldsC.new Wa T).alloc _
  have H1 : HoldsC W0 (w.heap.size + 2) noByte := by subst hW0; have := HoldsC.new0 (Wa.alloc (.cells #[.int .u64 (wd T 0 : Nat), .int .u64 (wd T 1 : Nat), .int .u64 (wd T 2 : Nat), .int .u64 (wd T 3 : Nat)] 26)); rwa [World.size_alloc, hsa] at this
  have HB : Below w.heap.size w W0 := by subst hW0; exact hBa.trans (((Below.refl _ _).alloc (by omega) _).alloc (by simp; omega) _)
  have hsz : w.heap.size + 3 ≤ W0.heap.size := by subst hW0; simp; omega
  rw [hWa, hW0]
  clear hWa hW0 hsa hBa
  have HT1 := Lib.hid HT
  have HH := Lib.hid H1
  clear HT H1
  go_wp2_with fail
  refine (rbytes_any S _).mono ?_
  rintro e w1 ⟨g, cap, rfl, hg, hbl, hb1⟩
  have hT := HT1.out.below hb1 (by omega)
  obtain ⟨⟨c0, c1, c2, c3⟩, -, -⟩ := hT
  go_wp2_with fail
  refine (rbytes_any T _).mono ?_
  rintro e w2 ⟨g2, cap2, rfl, hg2, hbl2, hb2⟩
  have hgl := hbl.lt
  have HX := hbl.below hb2 (by omega)
  have hb02 : Below W0.heap.size W0 w2 := hb1.trans (hb2.mono hb1.size)
  clear hbl c0 c1 c2 c3 hb1 hb2
  go_wp2_with fail
  go_loopw [7] (fun i wr => ∃ k : Nat, k ≤ 256 ∧ i = .int .i64 k ∧ BoolsAt wr g (orTo S T k) ∧ BoolsAt wr g2 T ∧ Below W0.heap.size W0 wr) (fun i _ => 256 - (intOf i).toNat)
  case atStart => exact ⟨0, by omega, rfl, HX.congr fun j _ => by simp [orTo], hbl2, hb02⟩
  case round =>
    obtain ⟨k, hk, rfl, hbl, hblT, hb⟩ := hrel
    by_cases hlt : k < 256
    · have hgg : ¬ g2 = g := by omega
      have hcell := hbl.cells k hlt
      have hfree := hbl.free k hlt
      have hll := hbl.lt
      have hcellT := hblT.cells k hlt
      have hS : orTo S T k k = S k := by simp [orTo]
      rw [hS] at hcell
      have HL := Lib.hid (hbl.set k hlt (S k || T k))
      have HT2 := Lib.hid hblT
      clear hbl hblT hS
      have hnext : ∀ b, (S k || T k) = b → (∃ k' : Nat, k' ≤ 256 ∧ Value.int .i64 ((k : Int) + 1) = .int .i64 k' ∧ BoolsAt (wr.setCell ⟨g, k, none⟩ (.bool b)) g (orTo S T k') ∧ BoolsAt (wr.setCell ⟨g, k, none⟩ (.bool b)) g2 T ∧ Below W0.heap.size W0 (wr.setCell ⟨g, k, none⟩ (.bool b))) := by
        rintro b rfl
        refine ⟨k + 1, by omega, by go_num, HL.out.congr fun j _ => orTo_step S T k j, ?_, hb.setCell (by simp; omega) _⟩
        refine ⟨fun j hj => ?_, fun j hj => ?_, by simpa using HT2.out.lt⟩
        · rw [World.cell?_setCell_other _ _ _ _ (by intro e; cases e; exact hgg rfl)]; exact HT2.out.cells j hj
        · rw [World.frozen?_setCell]; exact HT2.out.free j hj
      have HN := Lib.hid hnext
      clear hnext
      cases hsk : S k
      · rw [hsk] at hcell
        go_wp2
        exact ⟨HN.out _ (by rw [hsk]; simp), by simp [intOf]; omega⟩
      · rw [hsk] at hcell
        go_wp2
        exact ⟨HN.out _ (by rw [hsk]; simp), by simp [intOf]; omega⟩
    · obtain rfl : k = 256 := by omega
      have hr := HH.out.below hb (by omega)
      have hr' := Lib.hid hr
      obtain ⟨⟨d0, d1, d2, d3⟩, ⟨g0, g1, g2', g3⟩, gl⟩ := hr
      have hbl' := hbl.congr (T := fun n => S n || T n) fun j hj => by simp [orTo, hj]
      go_wp2_with (go_at_call 106; refine (make_any (fun n => S n || T n) _ _ _ hbl'.lt hbl'.cells).mono ?_; rintro e w3 ⟨rfl, hb3⟩; obtain ⟨hc1, hf1, hz1, -⟩ := Old.of hb3)
      obtain ⟨⟨e0, e1, e2, e3⟩, -, -⟩ := (hr'.out.below hb3 gl).set (fun n => S n || T n)
      exact bodyPost_ret (v := cv (fun n => S n || T n)) (by simp [results, Try.results43, go_sem, e0, e1, e2, e3]) rfl ⟨rfl, below_setC ((HB.trans (hb.mono (by omega))).trans (hb3.mono (by have := hb.size; omega))) (by omega) _⟩
end Go.Proofs.Ytkhcjjdamphbfaa
