/- From a law's walk to its row: arguments that are leaves, rows of numbers, pairs of numbers. -/
import Derived.Test.YtjfkmoinldlmaaaGreatSa04
import Derived.Test.YtjfkmoinldlmaaaGreatSa07
import Derived.Deep.Slices
import Derived.Deep.RegionHeld
import Derived.SizedLaws
namespace Go.Proofs.YtjfkmoinldlmaaaGreat
open Go.ChangeShapes Go.WideShapes Go.ChangeAt Go.RowKit Go.Deep

set_option maxRecDepth 100000 in
theorem cells43 : Tryz.prog.cellsOf 52 = 2 := by kernel_rfl
set_option maxRecDepth 100000 in
theorem cells41 : Tryz.prog.cellsOf 50 = 1 := by kernel_rfl
set_option maxRecDepth 100000 in
theorem cells3 : Tryz.prog.cellsOf 3 = 1 := by kernel_rfl
set_option maxRecDepth 100000 in
theorem bytes26 : Tryz.prog.bytesOf 100 = 32 := by kernel_rfl
set_option maxRecDepth 100000 in
theorem bytes3 : Tryz.prog.bytesOf 3 = 8 := by kernel_rfl

section
variable {H : Type} {enc : TypeId × Value → H} {w : World} {base : Nat} {spare : Nat → Bool} {held : Bool}

theorem spot_plain {b o i : Nat} {s : Option Nat} (hs : s = none) : (⟨b, o, s⟩ : Addr).add i = ⟨b, o + i, none⟩ := by
  subst hs
  unfold Addr.add
  split <;> simp_all

set_option maxRecDepth 100000 in
/-- A slice of classes. -/
theorem open_classes {fuel : Nat} {cs : List Value} {x : DataW H × List MemPlace} (h : DataW.trod enc Tryz.prog w base spare held fuel 50 cs = some x) :
    ∃ ad n cap L, cs = [.slice ad n cap] ∧ RowC w ad n L w.heap.size ∧ (n = 0 ∨ ∃ m, n ≤ m ∧ m * 32 ∈ x.1.weights Tryz.prog 50) := by
  rcases open_slice Tryz.underlying50 h with ⟨rfl, rfl⟩ | ⟨⟨b, o, s⟩, len, cap, m, k, D, Pl, rfl, hb, hl, hm, hmm, rfl, hx⟩
  · exact ⟨none, 0, 0, fun _ => noByte, rfl, .inl rfl, .inl rfl⟩
  · have hlm : len ≤ m := by rw [hmm]; split <;> omega
    have hel : ∀ i, ∃ S : Nat → Bool, i < len → s = none ∧ b < w.heap.size ∧ w.cell? ⟨b, o + i * 4, none⟩ = some (.int .u64 (wd S 0 : Nat)) ∧ w.cell? ⟨b, o + i * 4 + 1, none⟩ = some (.int .u64 (wd S 1 : Nat)) ∧
        w.cell? ⟨b, o + i * 4 + 2, none⟩ = some (.int .u64 (wd S 2 : Nat)) ∧ w.cell? ⟨b, o + i * 4 + 3, none⟩ = some (.int .u64 (wd S 3 : Nat)) := by
      intro i
      by_cases hi : i < len
      · obtain ⟨cs', h1, h2⟩ := hx i (by omega)
        rw [cells26] at h1
        obtain ⟨_, hlen, hcell⟩ := World.cells?_some h1
        obtain ⟨c0, c1, c2, c3, rfl⟩ := list_four cs' (by simpa using hlen)
        obtain ⟨S, rfl, rfl, rfl, rfl⟩ := class_cells h2
        have hs : s = none := by
          obtain ⟨cs0, g1, _⟩ := hx 0 (by omega)
          rw [cells26] at g1
          obtain ⟨_, hlen0, hcell0⟩ := World.cells?_some g1
          have g0 := hcell0 0 (by omega)
          rw [List.getElem?_eq_getElem (show 0 < cs0.length by omega)] at g0
          exact World.cell?_spot g0
        have e := fun j hj => hcell j hj
        simp only [spot_plain hs, spot_plain rfl] at e
        have e0 := e 0 (by omega)
        have e1 := e 1 (by omega)
        have e2 := e 2 (by omega)
        have e3 := e 3 (by omega)
        refine ⟨S, fun _ => ⟨hs, ?_, by simpa using e0, by simpa using e1, by simpa using e2, by simpa using e3⟩⟩
        exact World.block_lt_of_cell? w _ e0
      · exact ⟨noByte, fun h => absurd h hi⟩
    obtain ⟨L, hL⟩ := Classical.axiomOfChoice hel
    refine ⟨some ⟨b, o, s⟩, len, cap, L, rfl, ?_, .inr ⟨m, hlm, ?_⟩⟩
    · rcases Nat.eq_zero_or_pos len with h0 | h0
      · exact .inl h0
      · obtain ⟨rfl, hbl, _⟩ := hL 0 h0
        exact .inr ⟨b, o, rfl, hbl, fun j hj => (hL j hj).2.2⟩
    · simp [DataW.weights, Tryz.underlying50, bytes26]
      exact .inl (by omega)

set_option maxRecDepth 100000 in
/-- An argument that is a leaf. -/
theorem open_leaf {v : Value} {d : DataW H} {p : List MemPlace} {b0 : Nat} (hv : Value.okWide Tryz.prog w .any b0 52 v) (h : DataW.Trod enc Tryz.prog w base spare held 52 v d p) :
    ∃ ad n cap K L, v = lv ad n cap K ∧ RowC w ad n L w.heap.size ∧ (-9223372036854775808 ≤ K ∧ K ≤ 9223372036854775807) ∧ (n = 0 ∨ ∃ m, n ≤ m ∧ m * 32 ∈ d.weights Tryz.prog 52) := by
  obtain ⟨cs, rfl, hsz, _⟩ : ∃ cs, v = .agg cs ∧ cs.size = Tryz.prog.cellsOf 52 ∧ Row.okWide Tryz.prog w .any b0 52 cs := by
    simpa [Value.okWide, Tryz.underlying52] using hv
  rw [cells43] at hsz
  obtain ⟨l⟩ := cs
  obtain ⟨c0, c1, rfl⟩ := list_two l hsz
  obtain ⟨fuel, hf⟩ := h
  obtain ⟨y0, y1, k, hx, _, h0, h1⟩ := trod_struct2 Tryz.underlying52 (by simpa [Value.cells] using hf)
  simp only [cells41, cells3] at h0 h1
  obtain ⟨ad, n, cap, L, hc, hR, hw⟩ := open_classes h0
  obtain ⟨x1, e1, _, w1⟩ := DataW.trod_int Tryz.underlying3 h1
  simp at hc e1
  subst hc e1
  refine ⟨ad, n, cap, x1, L, rfl, hR, bounds_i64 w1, ?_⟩
  rcases hw with hw | ⟨m, hm, hmem⟩
  · exact .inl hw
  · refine .inr ⟨m, hm, ?_⟩
    obtain rfl : d = .agg [y0.1, y1.1] := (congrArg Prod.fst hx)
    simp only [DataW.weights, Tryz.underlying52]
    simpa [DataW.weightsEach] using .inl hmem

set_option maxRecDepth 100000 in
/-- An argument that is a row of numbers. -/
theorem open_ints48 {v : Value} {d : DataW H} {p : List MemPlace} {b0 : Nat} (hv : Value.okWide Tryz.prog w .any b0 24 v) (h : DataW.Trod enc Tryz.prog w base spare held 24 v d p) :
    ∃ ad n cap A, v = .slice ad n cap ∧ RowI w ad n A w.heap.size ∧ (n = 0 ∨ ∃ m, n ≤ m ∧ m * 8 ∈ d.weights Tryz.prog 24) := by
  obtain ⟨fuel, hf⟩ := h
  rcases open_slice1 Tryz.underlying24 cells3 hf with ⟨hc, _⟩ | ⟨⟨b, o, s⟩, len, cap, m, k, V, D, Pl, hc, hb, hl, hm, hmm, hx, hV⟩
  · refine ⟨none, 0, 0, fun _ => 0, ?_, .inl rfl, .inl rfl⟩
    cases v <;> simp_all [Value.cells, Value.okWide, Tryz.underlying24, Cell.okWide, Cell.ok]
  · have hlm : len ≤ m := by rw [hmm]; split <;> omega
    have hel : ∀ i, ∃ x : Int, i < len → s = none ∧ b < w.heap.size ∧ w.cell? ⟨b, o + i, none⟩ = some (.int .i64 x) := by
      intro i
      by_cases hi : i < len
      · obtain ⟨h1, h2⟩ := hV i (by omega)
        obtain ⟨x, e1, _, _⟩ := DataW.trod_int Tryz.underlying3 h2
        simp at e1
        have hs : s = none := by simpa [Addr.add] using World.cell?_spot (hV 0 (by omega)).1
        rw [e1, spot_plain hs] at h1
        exact ⟨x, fun _ => ⟨hs, World.block_lt_of_cell? w _ h1, h1⟩⟩
      · exact ⟨0, fun h => absurd h hi⟩
    obtain ⟨A, hA⟩ := Classical.axiomOfChoice hel
    refine ⟨some ⟨b, o, s⟩, len, cap, A, ?_, ?_, .inr ⟨m, hlm, ?_⟩⟩
    · clear hx hV hmm hel
      cases v <;> simp_all [Value.cells, Value.okWide, Tryz.underlying24, Cell.okWide, Cell.ok]
    · rcases Nat.eq_zero_or_pos len with h0 | h0
      · exact .inl h0
      · obtain ⟨rfl, hbl, _⟩ := hA 0 h0
        exact .inr ⟨b, o, rfl, hbl, fun j hj => (hA j hj).2.2⟩
    · obtain rfl : d = _ := (congrArg Prod.fst hx)
      simp [DataW.weights, Tryz.underlying24, bytes3]
      exact .inl (by omega)

set_option maxRecDepth 100000 in
/-- What a weight among an argument's weights may be. -/
theorem sized_mem {H : Type} {ts : List TypeId} {ds : List (DataW H)} (h : (DataW.weightsEach Tryz.prog ts ds).all (· ≤ reachBytes) = true) {j : Nat} {t : TypeId} {d : DataW H} (ht : ts[j]? = some t) (hd : ds[j]? = some d) {x : Nat} (hx : x ∈ d.weights Tryz.prog t) : x ≤ reachBytes := by
  have := List.all_eq_true.1 h _ (DataW.weights_mem_each ht hd x hx)
  simpa using this

end
end Go.Proofs.YtjfkmoinldlmaaaGreat
