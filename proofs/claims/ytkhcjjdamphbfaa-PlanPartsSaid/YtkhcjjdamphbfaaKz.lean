/- A variable that holds a length and a size. -/
import Derived.Test.YtkhcjjdamphbfaaAl16
namespace Go.Proofs.Ytkhcjjdamphbfaa
open Go.RowKit

/-- A variable that holds a length, and a size. -/
abbrev HoldsQ (w : World) (B : Nat) (nn size : Int) : Prop :=
  w.cell? ⟨B, 0, none⟩ = some (.int .i64 nn) ∧ w.cell? ⟨B, 1, none⟩ = some (.int .i64 size) ∧ B < w.heap.size
theorem HoldsQ.below {w w' : World} {B n' : Nat} {nn size : Int} (h : HoldsQ w B nn size) (hb : Below n' w w') (hn : B < n') : HoldsQ w' B nn size :=
  ⟨(hb.cell (p := ⟨B, 0, none⟩) hn).trans h.1, (hb.cell (p := ⟨B, 1, none⟩) hn).trans h.2.1, Nat.lt_of_lt_of_le h.2.2 hb.size⟩
end Go.Proofs.Ytkhcjjdamphbfaa
