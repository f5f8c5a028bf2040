/- append of one element onto a slice of the call's own, for each element type of this program; rows that the call owns, kept while memory grows. -/
import Derived.Test.YtkhcjjdamphbfaaBase
namespace Go.Proofs.Ytkhcjjdamphbfaa
open Go.RowKit

/-- What the append law asks of a slice type T and its element type E. -/
def ElemT (T E size bytes : Nat) : Prop :=
  ∃ (i : TypeInfo) (z : Value), Try.prog.underlying T = some (.slice E) ∧ Try.prog.info? E = some i ∧ i.zero = some z ∧ i.size = size ∧ i.bytes = bytes ∧ z.cells.size = size ∧ 0 < size

theorem elem_of {T E size bytes : Nat} {z : Value} (ht : Try.prog.underlying T = some (.slice E)) (h : (Try.prog.info? E).map (fun i => (i.zero, i.size, i.bytes)) = some (some z, size, bytes)) (hz : z.cells.size = size) (hs : 0 < size) : ElemT T E size bytes := by
  obtain ⟨i, hi, h1, h2, h3⟩ := info_parts h
  exact ⟨i, z, ht, hi, h1, h2, h3, hz, hs⟩

theorem elem48 : ElemT 48 3 1 8 := elem_of (z := .int .i64 0) Try.underlying48 (by kernel_rfl) rfl (by decide)
theorem elem84 : ElemT 84 4 1 1 := elem_of (z := .bool false) Try.underlying84 (by kernel_rfl) rfl (by decide)
theorem elem38 : ElemT 38 22 2 2 := elem_of (z := .agg #[.int .u8 0, .int .u8 0]) Try.underlying38 (by kernel_rfl) rfl (by decide)
theorem elem41 : ElemT 41 26 4 32 := elem_of (z := .agg #[.int .u64 0, .int .u64 0, .int .u64 0, .int .u64 0]) Try.underlying41 (by kernel_rfl) rfl (by decide)
theorem elem91 : ElemT 91 5 1 1 := elem_of (z := .int .u8 0) Try.underlying91 (by kernel_rfl) rfl (by decide)

theorem grown_below {base : Nat} {w w' : World} {row : Option Nat} (hg : w.grownBy w' row) (hB : base ≤ w.heap.size) (hr : ∀ k, row = some k → base ≤ k) : Below base w w' :=
  (Below.refl base w).grown hg hB hr

theorem grown_of_below {w w1 : World} (h : Below w.heap.size w w1) (row : Option Nat) : w.grownBy w1 row := ⟨h.os, h.tape, h.output, h.size, fun i hi _ => h.block i hi⟩

/-- What is owned stays owned while memory only grows. -/
theorem own_below {w w1 : World} {base : Nat} {e : TypeId} {size n : Nat} {v : Value} {xs : List Value} (h : w.ownsRow base e size v n xs) (hb : Below w.heap.size w w1) : w1.ownsRow base e size v n xs :=
  h.kept (grown_of_below hb none) (by cases v.ownBlock <;> simp)

/-- 'out = append(out, x)', out the call's own: the element stands in a new block. -/
theorem wpList_app {T E size bytes base : Nat} (hE : ElemT T E size bytes) {ops : Array Oper} {rest : List Oper} {o : Oper} {a : Act} {Q : Exit → Act → World → Prop} (hgd : o.guard = none) (s x : Operand)
    (ho : o.op = .call { callee := .builtin .append, args := #[s, x], argTypes := #[T, T] })
    {v : Value} {n : Nat} {xs : List Value} (hs : a.eval s = v) {w0 : World} (hown : w0.ownsRow base E size v n xs) (nc : List Value)
    (hx : a.eval x = .slice (some ⟨w0.heap.size, 0, none⟩) 1 1) (hl : nc.length = size) (h1 : ∀ u ∈ nc, u.oneCell' = true) (hn : n + 1 ≤ maxLen) (hbytes : (n + 1) * bytes ≤ 140737488355328) (hbase : base ≤ w0.heap.size)
    (h : ∀ v' w', w'.ownsRow base E size v' (n + 1) (xs ++ nc) → Below base w0 w' → wpList Try.prog ops Q rest (a.put o.dst v') w') :
    wpList Try.prog ops Q (o :: rest) a (w0.alloc (.cells nc.toArray E)) := by
  obtain ⟨i, z, ht, hi, hz, hsize, hby, hzs, hsz⟩ := hE
  refine wpList_append_own (w0.alloc (.cells nc.toArray E)) hgd s x T ho base E i z size bytes ht hi hz hsize hby hzs hsz v n xs hs (hown.alloc _) ⟨w0.heap.size, 0, none⟩ 1 1 nc hx (by omega) ?_ h1 hn hbytes (by simp; omega) ?_
  · intro j u hj
    have e : (⟨w0.heap.size, 0, none⟩ : Addr).add j = ⟨w0.heap.size, j, none⟩ := by unfold Addr.add; split <;> simp_all
    rw [e, World.cell?_alloc_new]
    simpa using hj
  · intro v' w' h2 h3 _
    refine h v' w' h2 ?_
    have hlt := (hown.alloc (.cells nc.toArray E)).lt
    exact ((Below.refl base w0).alloc hbase _).trans (grown_below h3 (by simp; omega) fun k hk => (hlt k hk).1)
end Go.Proofs.Ytkhcjjdamphbfaa
