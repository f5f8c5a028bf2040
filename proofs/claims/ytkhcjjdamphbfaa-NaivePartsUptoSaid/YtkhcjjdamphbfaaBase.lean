/- What the walks share: a class as a value, a variable that holds one, and worlds that keep what was there. -/
import Derived.Test.YtkhcjjdamphbfaaRows
import Derived.Test.YtkhcjjdamphbfaaBits
import Derived.WalkKit
import Derived.WalkLawsBesides
import Derived.WalkSpells
import Derived.BigQuiet
import Derived.Deep.QuietTactic
import Derived.Deep.RegionHeld3
import Derived.Lib.Hide
import Derived.Outline
namespace Go.Proofs.Ytkhcjjdamphbfaa
open Go.RowKit

/-- A class as the program holds it. -/
abbrev cv (S : Nat → Bool) : Value := .agg #[.int .u64 (wd S 0 : Nat), .int .u64 (wd S 1 : Nat), .int .u64 (wd S 2 : Nat), .int .u64 (wd S 3 : Nat)]

theorem cv_congr {S T : Nat → Bool} (h : ∀ n, n < 256 → S n = T n) : cv S = cv T := by
  obtain ⟨h0, h1, h2, h3⟩ := (words_iff S T).1 ((clsEq_iff S T).2 h)
  unfold cv
  rw [h0, h1, h2, h3]

/-- w' is as W was, wherever W reached. -/
abbrev Old (W w' : World) : Prop :=
  (∀ b o, b < W.heap.size → w'.cell? ⟨b, o, none⟩ = W.cell? ⟨b, o, none⟩) ∧ (∀ b o, b < W.heap.size → w'.frozen? ⟨b, o, none⟩ = W.frozen? ⟨b, o, none⟩) ∧ W.heap.size ≤ w'.heap.size ∧ Below W.heap.size W w'

theorem Old.of {W w' : World} (h : Below W.heap.size W w') : Old W w' :=
  ⟨fun b o hb => h.cell (p := ⟨b, o, none⟩) hb, fun b o hb => h.frozen (p := ⟨b, o, none⟩) hb, h.size, h⟩
theorem Old.refl (W : World) : Old W W := .of (Below.refl _ _)
theorem Old.start (W : World) : Old W W.drew := .of (Below.refl _ _).drew
theorem Old.call {W w w' : World} (h : Old W w) (hb : Below w.heap.size w w') : Old W w' := .of (h.2.2.2.trans (hb.mono h.2.2.1))
theorem Old.calld {W w w' : World} (h : Old W w) (hb : Below w.drew.heap.size w.drew w') : Old W w' := .of (h.2.2.2.trans ((Below.refl _ w).drew.trans (hb.mono h.2.2.1)))
theorem Old.alloc {W w : World} (h : Old W w) (o : Obj) : Old W (w.alloc o) := .of (h.2.2.2.alloc h.2.2.1 o)
theorem Old.trans {a b c : World} (h : Old a b) (k : Old b c) : Old a c := .of (h.2.2.2.trans (k.2.2.2.mono h.2.2.1))

/-- A variable of four words. -/
abbrev HoldsC (w : World) (B : Nat) (S : Nat → Bool) : Prop :=
  (w.cell? ⟨B, 0, none⟩ = some (.int .u64 (wd S 0 : Nat)) ∧ w.cell? ⟨B, 1, none⟩ = some (.int .u64 (wd S 1 : Nat)) ∧ w.cell? ⟨B, 2, none⟩ = some (.int .u64 (wd S 2 : Nat)) ∧ w.cell? ⟨B, 3, none⟩ = some (.int .u64 (wd S 3 : Nat))) ∧
  (w.frozen? ⟨B, 0, none⟩ = false ∧ w.frozen? ⟨B, 1, none⟩ = false ∧ w.frozen? ⟨B, 2, none⟩ = false ∧ w.frozen? ⟨B, 3, none⟩ = false) ∧ B < w.heap.size

/-- A world with a class stored at a block. -/
abbrev setC (w : World) (B : Nat) (S : Nat → Bool) : World :=
  (((w.setCell ⟨B, 0, none⟩ (.int .u64 (wd S 0 : Nat))).setCell ⟨B, 1, none⟩ (.int .u64 (wd S 1 : Nat))).setCell ⟨B, 2, none⟩ (.int .u64 (wd S 2 : Nat))).setCell ⟨B, 3, none⟩ (.int .u64 (wd S 3 : Nat))

theorem HoldsC.set {w : World} {B : Nat} {S : Nat → Bool} (h : HoldsC w B S) (T : Nat → Bool) : HoldsC (setC w B T) B T := by
  obtain ⟨⟨c0, c1, c2, c3⟩, ⟨f0, f1, f2, f3⟩, hl⟩ := h
  refine ⟨⟨?_, ?_, ?_, ?_⟩, ⟨?_, ?_, ?_, ?_⟩, ?_⟩ <;> simp [go_sem, c0, c1, c2, c3, f0, f1, f2, f3, hl]

theorem HoldsC.below {w w' : World} {B n : Nat} {S : Nat → Bool} (h : HoldsC w B S) (hb : Below n w w') (hn : B < n) : HoldsC w' B S := by
  obtain ⟨⟨c0, c1, c2, c3⟩, ⟨f0, f1, f2, f3⟩, hl⟩ := h
  have hc := fun o => hb.cell (p := ⟨B, o, none⟩) hn
  have hf := fun o => hb.frozen (p := ⟨B, o, none⟩) hn
  exact ⟨⟨(hc 0).trans c0, (hc 1).trans c1, (hc 2).trans c2, (hc 3).trans c3⟩, ⟨(hf 0).trans f0, (hf 1).trans f1, (hf 2).trans f2, (hf 3).trans f3⟩, Nat.lt_of_lt_of_le hl hb.size⟩

theorem below_setC {n : Nat} {a w : World} (h : Below n a w) {B : Nat} (hB : n ≤ B) (S : Nat → Bool) : Below n a (setC w B S) :=
  (((h.setCell (p := ⟨B, 0, none⟩) hB _).setCell (p := ⟨B, 1, none⟩) hB _).setCell (p := ⟨B, 2, none⟩) hB _).setCell (p := ⟨B, 3, none⟩) hB _

/-- A new variable of four words. -/
theorem HoldsC.new (w : World) (S : Nat → Bool) : HoldsC (w.alloc (.cells #[.int .u64 (wd S 0 : Nat), .int .u64 (wd S 1 : Nat), .int .u64 (wd S 2 : Nat), .int .u64 (wd S 3 : Nat)] 26)) w.heap.size S := by
  refine ⟨⟨?_, ?_, ?_, ?_⟩, ⟨?_, ?_, ?_, ?_⟩, ?_⟩ <;> simp [go_sem]

theorem HoldsC.new0 (w : World) : HoldsC (w.alloc (.cells #[.int .u64 0, .int .u64 0, .int .u64 0, .int .u64 0] 26)) w.heap.size noByte := by
  have h := HoldsC.new w noByte
  simp only [wd_noByte] at h
  simp only [HoldsC, wd_noByte]
  exact h

theorem HoldsC.alloc {w : World} {B : Nat} {S : Nat → Bool} (h : HoldsC w B S) (o : Obj) : HoldsC (w.alloc o) B S :=
  h.below ((Below.refl _ w).alloc (Nat.le_refl _) o) h.2.2

theorem ret_eq {a b : Value} (h : a = b) : Ending.returned a = .returned b := by rw [h]
end Go.Proofs.Ytkhcjjdamphbfaa
