/- From a law's walk to its row: what an argument of each type of this program looks like as a value. -/
import Derived.Test.YtjfkmoinldlmaaaGreatSa01
import Derived.ProofKit
import Derived.OpenShut
import Derived.ShutString
import Derived.ChangeOld
import Derived.SizedLaws
import Derived.ChangeSame
import Derived.JoinedOf
import Derived.JoinedAt
import Derived.Laws.IdiomArrays
namespace Go.Proofs.YtjfkmoinldlmaaaGreat
open Go.ChangeShapes Go.WideShapes Go.ChangeAt Go.RowKit

set_option maxRecDepth 100000 in
theorem try_own : ownKnob Tryz.prog.godebug = none := by kernel_rfl
set_option maxRecDepth 100000 in
theorem try_laid : laidOutB Tryz.prog = true := by kernel_rfl
set_option maxRecDepth 100000 in
theorem cells24 : Tryz.prog.cellsOf 46 = 1 := by kernel_rfl
set_option maxRecDepth 100000 in
theorem cells26 : Tryz.prog.cellsOf 100 = 4 := by kernel_rfl
set_option maxRecDepth 100000 in
theorem cells5 : Tryz.prog.cellsOf 5 = 1 := by kernel_rfl
theorem list_four {α : Type} (l : List α) (h : (⟨l⟩ : Array α).size = 4) : ∃ a b c d, l = [a, b, c, d] := by
  match l, h with
  | [a, b, c, d], _ => exact ⟨a, b, c, d, rfl⟩
theorem list_two {α : Type} (l : List α) (h : (⟨l⟩ : Array α).size = 2) : ∃ a b, l = [a, b] := by
  match l, h with
  | [a, b], _ => exact ⟨a, b, rfl⟩

section
variable {H : Type} {enc : TypeId × Value → H} {w : World} {base : Nat} {spare : Nat → Bool} {held : Bool}

set_option maxRecDepth 100000 in
/-- Four cells that read as a class are a class. -/
theorem class_cells {fuel : Nat} {c0 c1 c2 c3 : Value} {x : DataW H × List MemPlace} (h : DataW.trod enc Tryz.prog w base spare held fuel 100 [c0, c1, c2, c3] = some x) :
    ∃ S : Nat → Bool, c0 = .int .u64 (wd S 0 : Nat) ∧ c1 = .int .u64 (wd S 1 : Nat) ∧ c2 = .int .u64 (wd S 2 : Nat) ∧ c3 = .int .u64 (wd S 3 : Nat) := by
  obtain ⟨y0, y1, y2, y3, m, _, hy0, hy1, hy2, hy3⟩ := trod_array4 Tryz.underlying100 cells24 h
  obtain ⟨x0, e0, _, w0⟩ := DataW.trod_int Tryz.underlying46 hy0
  obtain ⟨x1, e1, _, w1⟩ := DataW.trod_int Tryz.underlying46 hy1
  obtain ⟨x2, e2, _, w2⟩ := DataW.trod_int Tryz.underlying46 hy2
  obtain ⟨x3, e3, _, w3⟩ := DataW.trod_int Tryz.underlying46 hy3
  simp at e0 e1 e2 e3
  subst e0 e1 e2 e3
  have b0 := bounds_u64 w0
  have b1 := bounds_u64 w1
  have b2 := bounds_u64 w2
  have b3 := bounds_u64 w3
  obtain ⟨n0, rfl⟩ := Int.eq_ofNat_of_zero_le b0.1
  obtain ⟨n1, rfl⟩ := Int.eq_ofNat_of_zero_le b1.1
  obtain ⟨n2, rfl⟩ := Int.eq_ofNat_of_zero_le b2.1
  obtain ⟨n3, rfl⟩ := Int.eq_ofNat_of_zero_le b3.1
  obtain ⟨h0, h1, h2, h3⟩ := setOf4_words (a := n0) (b := n1) (c := n2) (d := n3) (by omega) (by omega) (by omega) (by omega)
  exact ⟨setOf4 n0 n1 n2 n3, by rw [h0], by rw [h1], by rw [h2], by rw [h3]⟩

set_option maxRecDepth 100000 in
/-- An argument that is a class. -/
theorem open_class {v : Value} {d : DataW H} {p : List MemPlace} {b0 : Nat} (hv : Value.okWide Tryz.prog w .any b0 100 v) (h : DataW.Trod enc Tryz.prog w base spare held 100 v d p) : ∃ S, v = cv S := by
  obtain ⟨cs, rfl, hsz, _⟩ : ∃ cs, v = .agg cs ∧ cs.size = Tryz.prog.cellsOf 100 ∧ Row.okWide Tryz.prog w .any b0 100 cs := by
    simpa [Value.okWide, Tryz.underlying100] using hv
  rw [cells26] at hsz
  obtain ⟨l⟩ := cs
  obtain ⟨c0, c1, c2, c3, rfl⟩ := list_four l hsz
  obtain ⟨fuel, hf⟩ := h
  obtain ⟨S, rfl, rfl, rfl, rfl⟩ := class_cells (by simpa [Value.cells] using hf)
  exact ⟨S, rfl⟩

end
end Go.Proofs.YtjfkmoinldlmaaaGreat
