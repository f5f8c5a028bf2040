/- append in regions that draw; rows of classes and numbers as cells; walks of leaf.Text and ref Text. -/
import Derived.Test.YtkhcjjdamphbfaaL0
import Derived.Deep.RegionLaw
namespace Go.Proofs.Ytkhcjjdamphbfaa
open Go.RowKit

/-- append at a step of a region that draws its order. -/
theorem step_app {T E size bytes base : Nat} (hE : ElemT T E size bytes) {ops : Array Oper} {o : Oper} {a : Act} {K : Act → World → Prop} {Q : Exit → Act → World → Prop} {E' : Prop} (hgd : o.guard = none) (s x : Operand)
    (ho : o.op = .call { callee := .builtin .append, args := #[s, x], argTypes := #[T, T] })
    {v : Value} {n : Nat} {xs : List Value} (hs : a.eval s = v) {w0 : World} (hown : w0.ownsRow base E size v n xs) (nc : List Value)
    (hx : a.eval x = .slice (some ⟨w0.heap.size, 0, none⟩) 1 1) (hl : nc.length = size) (h1 : ∀ u ∈ nc, u.oneCell' = true) (hn : n + 1 ≤ maxLen) (hbytes : (n + 1) * bytes ≤ 140737488355328) (hbase : base ≤ w0.heap.size)
    (h : ∀ v' w', w'.ownsRow base E size v' (n + 1) (xs ++ nc) → Below base w0 w' → K (a.put o.dst v') w') :
    if Region.wanted o (yielded ops a.tmps) = true then Oper.wp Try.prog o a (w0.alloc (.cells nc.toArray E)) K Q else E' := by
  have hw : Region.wanted o (yielded ops a.tmps) = true := by simp [Region.wanted, hgd]
  rw [if_pos hw]
  obtain ⟨i, z, ht, hi, hz, hsize, hby, hzs, hsz⟩ := hE
  have hnews : ∀ (j : Nat) u, nc[j]? = some u → (w0.alloc (.cells nc.toArray E)).cell? ((⟨w0.heap.size, 0, none⟩ : Addr).add j) = some u := by
    intro j u hj
    have e : (⟨w0.heap.size, 0, none⟩ : Addr).add j = ⟨w0.heap.size, j, none⟩ := by unfold Addr.add; split <;> simp_all
    rw [e, World.cell?_alloc_new]
    simpa using hj
  obtain ⟨v', w', hr, h2, h3, _, _⟩ := run_append_own_at (P := Try.prog) (w0.alloc (.cells nc.toArray E)) base T o.type E i z size bytes ht hi hz hsize hby hzs hsz v n xs (hown.alloc _) ⟨w0.heap.size, 0, none⟩ 1 1 nc (by omega) hnews h1 hn hbytes (by simp; omega)
  unfold Oper.wp execOp
  simp only [ho, resolve, invoke, builtin, Sem.run_bind, Sem.run_pure, Result.andThen_ok, List.map_toArray, List.map_cons, List.map_nil, hs, hx, hr]
  refine h v' w' h2 ?_
  have hlt := (hown.alloc (.cells nc.toArray E)).lt
  exact ((Below.refl base w0).alloc hbase _).trans (grown_below h3 (by simp; omega) fun k hk => (hlt k hk).1)

/-- Is it a call of that function? -/
theorem step_is (n : Nat) {args : Array Operand} {tys : Array TypeId} {ops : Array Oper} {o : Oper} {a : Act} {w : World} {K : Act → World → Prop} {Q : Exit → Act → World → Prop} {E' : Prop} (_ : o.op = .call { callee := .value (.func n), args := args, argTypes := tys })
    (h : if Region.wanted o (yielded ops a.tmps) = true then Oper.wp Try.prog o a w K Q else E') : if Region.wanted o (yielded ops a.tmps) = true then Oper.wp Try.prog o a w K Q else E' := h

/-- n classes as cells. -/
def clsCells (L : Nat → Nat → Bool) : Nat → List Value
  | 0 => []
  | k + 1 => clsCells L k ++ [.int .u64 (wd (L k) 0 : Nat), .int .u64 (wd (L k) 1 : Nat), .int .u64 (wd (L k) 2 : Nat), .int .u64 (wd (L k) 3 : Nat)]
theorem clsCells_length (L : Nat → Nat → Bool) (n : Nat) : (clsCells L n).length = n * 4 := by
  induction n with
  | zero => rfl
  | succ n ih => simp only [clsCells, List.length_append, List.length_cons, List.length_nil, ih]; omega
theorem clsCells_at (L : Nat → Nat → Bool) (n j : Nat) (hj : j < n) : (clsCells L n)[j * 4]? = some (.int .u64 (wd (L j) 0 : Nat)) ∧ (clsCells L n)[j * 4 + 1]? = some (.int .u64 (wd (L j) 1 : Nat)) ∧
    (clsCells L n)[j * 4 + 2]? = some (.int .u64 (wd (L j) 2 : Nat)) ∧ (clsCells L n)[j * 4 + 3]? = some (.int .u64 (wd (L j) 3 : Nat)) := by
  induction n with
  | zero => omega
  | succ n ih =>
    have hl := clsCells_length L n
    simp only [clsCells]
    by_cases he : j = n
    · subst he
      refine ⟨?_, ?_, ?_, ?_⟩ <;> rw [List.getElem?_append_right (by omega), hl] <;> simp
    · obtain ⟨h0, h1, h2, h3⟩ := ih (by omega)
      refine ⟨?_, ?_, ?_, ?_⟩ <;> rw [List.getElem?_append_left (by omega)] <;> assumption
theorem clsCells_congr {L L' : Nat → Nat → Bool} {n : Nat} (h : ∀ j, j < n → L j = L' j) : clsCells L n = clsCells L' n := by
  induction n with
  | zero => rfl
  | succ n ih => simp only [clsCells]; rw [ih fun j hj => h j (by omega), h n (by omega)]

theorem rowC_of_own {w : World} {base n cap : Nat} {ad : Option Addr} {L : Nat → Nat → Bool} (h : w.ownsRow base 26 4 (.slice ad n cap) n (clsCells L n)) : RowC w ad n L w.heap.size := by
  rcases Nat.eq_zero_or_pos n with h0 | h0
  · exact .inl h0
  · obtain ⟨g, cp, hv, _, hlt⟩ := own_form h h0
    cases hv
    refine .inr ⟨g, 0, rfl, hlt, fun j hj => ?_⟩
    obtain ⟨e0, e1, e2, e3⟩ := clsCells_at L n j hj
    rw [Nat.zero_add]
    have hl := clsCells_length L n
    have key : ∀ i x, (clsCells L n)[i]? = some x → w.cell? ⟨g, i, none⟩ = some x := fun i x hx => by
      have hi : i < (clsCells L n).length := by
        rcases Nat.lt_or_ge i (clsCells L n).length with h | h
        · exact h
        · rw [List.getElem?_eq_none h] at hx; cases hx
      rw [h.cellAt i (by omega)]
      exact hx
    exact ⟨key _ _ e0, key _ _ e1, key _ _ e2, key _ _ e3⟩

/-- n numbers as cells. -/
def intCells (A : Nat → Int) : Nat → List Value
  | 0 => []
  | k + 1 => intCells A k ++ [.int .i64 (A k)]
theorem intCells_length (A : Nat → Int) (n : Nat) : (intCells A n).length = n := by
  induction n with
  | zero => rfl
  | succ n ih => simp only [intCells, List.length_append, List.length_cons, List.length_nil, ih]
theorem intCells_at (A : Nat → Int) (n j : Nat) (hj : j < n) : (intCells A n)[j]? = some (.int .i64 (A j)) := by
  induction n with
  | zero => omega
  | succ n ih =>
    have hl := intCells_length A n
    simp only [intCells]
    by_cases he : j = n
    · subst he; rw [List.getElem?_append_right (by omega), hl]; simp
    · rw [List.getElem?_append_left (by omega)]; exact ih (by omega)
theorem intCells_congr {A A' : Nat → Int} {n : Nat} (h : ∀ j, j < n → A j = A' j) : intCells A n = intCells A' n := by
  induction n with
  | zero => rfl
  | succ n ih => simp only [intCells]; rw [ih fun j hj => h j (by omega), h n (by omega)]
theorem rowI_of_own {w : World} {base n cap : Nat} {ad : Option Addr} {A : Nat → Int} (h : w.ownsRow base 3 1 (.slice ad n cap) n (intCells A n)) : RowI w ad n A w.heap.size := by
  rcases Nat.eq_zero_or_pos n with h0 | h0
  · exact .inl h0
  · obtain ⟨g, cp, hv, _, hlt⟩ := own_form h h0
    cases hv
    refine .inr ⟨g, 0, rfl, hlt, fun j hj => ?_⟩
    rw [Nat.zero_add, h.cellAt j (by omega)]
    exact intCells_at A n j hj

theorem own_slice {w : World} {base : Nat} {e : TypeId} {size n : Nat} {v : Value} {xs : List Value} (h : w.ownsRow base e size v n xs) : ∃ ad cap, v = .slice ad n cap := by
  rcases h.2 with ⟨rfl, rfl⟩ | ⟨g, cap, cur, hv, _⟩
  · exact ⟨_, _, rfl⟩
  · exact ⟨_, _, hv⟩

/-- The class of one byte. -/
def byteS (s : ByteArray) (j : Nat) : Nat → Bool := fun n => decide ((s.data.toList[j]?.map fun c => c.toNat) = some n)

theorem HoldsL.set {w : World} {B : Nat} {ad : Option Addr} {n cap : Nat} {K : Int} (h : HoldsL w B ad n cap K) (ad' : Option Addr) (n' cap' : Nat) : HoldsL (w.setCell ⟨B, 0, none⟩ (.slice ad' n' cap')) B ad' n' cap' K := by
  obtain ⟨h0, h1, hl⟩ := h
  refine ⟨?_, ?_, ?_⟩ <;> simp [go_sem, h0, h1, hl]
theorem extract_one (s : ByteArray) (k : Nat) (hk : k < s.size) : (s.extract k (k + 1)).data.toList = [s[k]] := by
  have h : k < s.data.toList.length := by simpa using hk
  rw [ByteArray.data_extract, Array.toList_extract, List.extract_eq_take_drop, show k + 1 - k = 1 by omega, List.drop_eq_getElem_cons h, List.take_succ_cons, List.take_zero]
  rfl
theorem byteS_eq (s : ByteArray) (k : Nat) (hk : k < s.size) : strSet (s.extract k (k + 1)) (s.extract k (k + 1)).size = byteS s k := by
  have h : k < s.data.toList.length := by simpa using hk
  funext n
  unfold strSet byteS
  rw [extract_one s k hk, List.getElem?_eq_getElem h, show (s.extract k (k + 1)).size = 1 by simp; omega]
  simp
  rfl
theorem of_byte (s : ByteArray) (k : Nat) (hk : k < s.size) (w : World) :
    Calls Try.prog 34 #[.string (s.extract k (k + 1))] w fun e w' => e = .returned (cv (byteS s k)) ∧ Below w.heap.size w w' := by
  have h := of_any (s.extract k (k + 1)) (by simp; omega) w
  rw [byteS_eq s k hk] at h
  exact h
theorem rof_byte (s : ByteArray) (k : Nat) (hk : k < s.size) (w : World) :
    Calls Try.prog 35 #[.string (s.extract k (k + 1))] w fun e w' => e = .returned (cv (byteS s k)) ∧ Below w.heap.size w w' := by
  have h := rof_any (s.extract k (k + 1)) (by simp; omega) w
  rw [byteS_eq s k hk] at h
  exact h

set_option maxRecDepth 100000 in
set_option maxHeartbeats 4000000 in
theorem text_any (s : ByteArray) (hs : s.size ≤ 1000) (K : Int) (w : World) :
    Calls Try.prog 73 #[.string s, .int .i64 K] w fun e w' => ∃ ad cap, e = .returned (lv ad s.size cap K) ∧ w'.ownsRow w.heap.size 26 4 (.slice ad s.size cap) s.size (clsCells (byteS s) s.size) ∧ Below w.heap.size w w' := by
  go_enter Try.func73, Try.ntmps73
  go_wp2_with fail
  obtain ⟨W0, hW0⟩ : ∃ W0 : World, (w.alloc (.cells #[.slice none 0 0, .int .i64 0] 43)).alloc (.cells #[.slice none 0 0, .int .i64 K] 43) = W0 := ⟨_, rfl⟩
  have HB : Below w.heap.size w W0 := by subst hW0; exact ((Below.refl _ _).alloc (Nat.le_refl _) _).alloc (by simp) _
  have hsz : W0.heap.size = w.heap.size + 2 := by subst hW0; simp
  have hl : HoldsL W0 (w.heap.size + 1) none 0 0 K := by subst hW0; have := HoldsL.new (w.alloc (.cells #[.slice none 0 0, .int .i64 0] 43)) none 0 0 K; rwa [World.size_alloc] at this
  have hf : W0.frozen? ⟨w.heap.size + 1, 0, none⟩ = false := by subst hW0; simp [go_sem]
  have r0 : W0.cell? ⟨w.heap.size, 0, none⟩ = some (.slice none 0 0) := by subst hW0; simp [go_sem]
  have r1 : W0.cell? ⟨w.heap.size, 1, none⟩ = some (.int .i64 0) := by subst hW0; simp [go_sem]
  have g0 : W0.frozen? ⟨w.heap.size, 0, none⟩ = false := by subst hW0; simp [go_sem]
  have g1 : W0.frozen? ⟨w.heap.size, 1, none⟩ = false := by subst hW0; simp [go_sem]
  rw [hW0]
  clear hW0
  go_loopw [11] (fun i wr => ∃ (k : Nat) (ad : Option Addr) (cap : Nat), k ≤ s.size ∧ i = .int .i64 k ∧ HoldsL wr (w.heap.size + 1) ad k cap K ∧ wr.frozen? ⟨w.heap.size + 1, 0, none⟩ = false ∧ wr.ownsRow (w.heap.size + 2) 26 4 (.slice ad k cap) k (clsCells (byteS s) k) ∧ Below (w.heap.size + 1) W0 wr) (fun i _ => s.size - (intOf i).toNat)
  case atStart => exact ⟨0, none, 0, by omega, rfl, hl, hf, World.ownsRow_nil _ _ _ _, Below.refl _ _⟩
  case round =>
    obtain ⟨k, ad, cap, hk, rfl, hc, hfr, hown, hb⟩ := hrel
    by_cases hlt : k < s.size
    · have hkk : (0 : Int) ≤ k := by omega
      have hk1 : (k : Int) + 1 ≤ s.size := by omega
      have hw : IntKind.i64.wrap ((k : Int) + 1) = k + 1 := by rw [IntKind.wrap_i64]; omega
      have htn : ((k : Int) + 1).toNat = k + 1 := by omega
      have hp1 : (0 : Int) ≤ (k : Int) + 1 := by omega
      have hp2 : (k : Int) ≤ (k : Int) + 1 := by omega
      have hc' := Lib.hid hc
      have hown' := Lib.hid hown
      obtain ⟨c0, c1, cl⟩ := hc
      go_wp2_with fail
      go_region_law (first | ((refine step_app elem41 (by with_reducible rfl) (.tmp 15) (.tmp 22) (by with_reducible rfl) (v := .slice ad k cap) (n := k) (xs := clsCells (byteS s) k) (base := w.heap.size + 2) (w0 := w1) (by rfl) hown1 [.int .u64 (wd (byteS s k) 0 : Nat), .int .u64 (wd (byteS s k) 1 : Nat), .int .u64 (wd (byteS s k) 2 : Nat), .int .u64 (wd (byteS s k) 3 : Nat)] (by rfl) (by rfl) (by simp [Value.oneCell']) (by unfold maxLen; omega) (by omega) (by simp at hz1; omega) ?_; intro v3 w3 hown3 hb3; obtain ⟨ad3, cap3, rfl⟩ := own_slice hown3; have hc3 := HoldsL.below hc1 hb3 (by omega); have hf3 := (hb3.frozen (p := ⟨w.heap.size + 1, 0, none⟩) (by simp)).trans hf1)) | ((refine step_is 34 (by with_reducible rfl) ?_; go_simp; go_at_call 34; refine (of_byte s k hlt _).mono ?_; rintro e w1 ⟨rfl, hb1⟩; have hc1 := HoldsL.below (w := wr.drew) hc'.out hb1 cl; have hf1 := (hb1.frozen (p := ⟨w.heap.size + 1, 0, none⟩) cl).trans hfr; have hown1 := own_below hown'.out.drew hb1; have hz1 := hb1.size; dsimp only)))
      all_goals go_wp2
      all_goals exact ⟨⟨k + 1, ad3, cap3, by omega, by go_num, HoldsL.set hc3 _ _ _, by rw [World.frozen?_setCell]; exact hf3, ownsRow_setCell_below hown3 (by simp) _,
        (((hb.trans (Below.refl _ wr).drew).trans (hb1.mono (Nat.le_of_lt cl))).trans (hb3.mono (by omega))).setCell (p := ⟨w.heap.size + 1, 0, none⟩) (Nat.le_refl _) _⟩, by simp [intOf]; omega⟩
    · obtain rfl : k = s.size := by omega
      have hr0 := (hb.cell (p := ⟨w.heap.size, 0, none⟩) (by simp)).trans r0
      have hr1 := (hb.cell (p := ⟨w.heap.size, 1, none⟩) (by simp)).trans r1
      have hg0 := (hb.frozen (p := ⟨w.heap.size, 0, none⟩) (by simp)).trans g0
      have hg1 := (hb.frozen (p := ⟨w.heap.size, 1, none⟩) (by simp)).trans g1
      have hB := HB.trans (hb.mono (by omega))
      clear r0 r1 g0 g1 hl hf
      have hown0 := own_le (base' := w.heap.size + 1) hown (by omega)
      go_wp2
      exact bodyPost_ret (v := lv ad s.size cap K) (by simp [results, Try.results73, go_sem, hr0, hr1]) rfl ⟨ad, cap, rfl, own_le (ownsRow_setCell_below (ownsRow_setCell_below hown0 (by simp) _) (by simp) _) (by omega), (hB.setCell (p := ⟨w.heap.size, 0, none⟩) (Nat.le_refl _) _).setCell (p := ⟨w.heap.size, 1, none⟩) (Nat.le_refl _) _⟩
set_option maxRecDepth 100000 in
set_option maxHeartbeats 4000000 in
theorem rtext_any (s : ByteArray) (hs : s.size ≤ 1000) (K : Int) (w : World) :
    Calls Try.prog 76 #[.string s, .int .i64 K] w fun e w' => ∃ ad cap, e = .returned (lv ad s.size cap K) ∧ w'.ownsRow w.heap.size 26 4 (.slice ad s.size cap) s.size (clsCells (byteS s) s.size) ∧ Below w.heap.size w w' := by
  go_enter Try.func76, Try.ntmps76
  go_wp2_with fail
  obtain ⟨W0, hW0⟩ : ∃ W0 : World, (w.alloc (.cells #[.slice none 0 0, .int .i64 0] 43)).alloc (.cells #[.slice none 0 0, .int .i64 K] 43) = W0 := ⟨_, rfl⟩
  have HB : Below w.heap.size w W0 := by subst hW0; exact ((Below.refl _ _).alloc (Nat.le_refl _) _).alloc (by simp) _
  have hsz : W0.heap.size = w.heap.size + 2 := by subst hW0; simp
  have hl : HoldsL W0 (w.heap.size + 1) none 0 0 K := by subst hW0; have := HoldsL.new (w.alloc (.cells #[.slice none 0 0, .int .i64 0] 43)) none 0 0 K; rwa [World.size_alloc] at this
  have hf : W0.frozen? ⟨w.heap.size + 1, 0, none⟩ = false := by subst hW0; simp [go_sem]
  have r0 : W0.cell? ⟨w.heap.size, 0, none⟩ = some (.slice none 0 0) := by subst hW0; simp [go_sem]
  have r1 : W0.cell? ⟨w.heap.size, 1, none⟩ = some (.int .i64 0) := by subst hW0; simp [go_sem]
  have g0 : W0.frozen? ⟨w.heap.size, 0, none⟩ = false := by subst hW0; simp [go_sem]
  have g1 : W0.frozen? ⟨w.heap.size, 1, none⟩ = false := by subst hW0; simp [go_sem]
  rw [hW0]
  clear hW0
  go_loopw [6] (fun i wr => ∃ (k : Nat) (ad : Option Addr) (cap : Nat), k ≤ s.size ∧ i = .int .i64 k ∧ HoldsL wr (w.heap.size + 1) ad k cap K ∧ wr.frozen? ⟨w.heap.size + 1, 0, none⟩ = false ∧ wr.ownsRow (w.heap.size + 2) 26 4 (.slice ad k cap) k (clsCells (byteS s) k) ∧ Below (w.heap.size + 1) W0 wr) (fun i _ => s.size - (intOf i).toNat)
  case atStart => exact ⟨0, none, 0, by omega, rfl, hl, hf, World.ownsRow_nil _ _ _ _, Below.refl _ _⟩
  case round =>
    obtain ⟨k, ad, cap, hk, rfl, hc, hfr, hown, hb⟩ := hrel
    by_cases hlt : k < s.size
    · have hkk : (0 : Int) ≤ k := by omega
      have hk1 : (k : Int) + 1 ≤ s.size := by omega
      have hw : IntKind.i64.wrap ((k : Int) + 1) = k + 1 := by rw [IntKind.wrap_i64]; omega
      have htn : ((k : Int) + 1).toNat = k + 1 := by omega
      have hp1 : (0 : Int) ≤ (k : Int) + 1 := by omega
      have hp2 : (k : Int) ≤ (k : Int) + 1 := by omega
      have hc' := Lib.hid hc
      have hown' := Lib.hid hown
      obtain ⟨c0, c1, cl⟩ := hc
      go_wp2_with fail
      go_region_law (first | ((refine step_app elem41 (by with_reducible rfl) (.tmp 16) (.tmp 23) (by with_reducible rfl) (v := .slice ad k cap) (n := k) (xs := clsCells (byteS s) k) (base := w.heap.size + 2) (w0 := w1) (by rfl) hown1 [.int .u64 (wd (byteS s k) 0 : Nat), .int .u64 (wd (byteS s k) 1 : Nat), .int .u64 (wd (byteS s k) 2 : Nat), .int .u64 (wd (byteS s k) 3 : Nat)] (by rfl) (by rfl) (by simp [Value.oneCell']) (by unfold maxLen; omega) (by omega) (by simp at hz1; omega) ?_; intro v3 w3 hown3 hb3; obtain ⟨ad3, cap3, rfl⟩ := own_slice hown3; have hc3 := HoldsL.below hc1 hb3 (by omega); have hf3 := (hb3.frozen (p := ⟨w.heap.size + 1, 0, none⟩) (by simp)).trans hf1)) | ((refine step_is 35 (by with_reducible rfl) ?_; go_simp; go_at_call 35; refine (rof_byte s k hlt _).mono ?_; rintro e w1 ⟨rfl, hb1⟩; have hc1 := HoldsL.below (w := wr.drew) hc'.out hb1 cl; have hf1 := (hb1.frozen (p := ⟨w.heap.size + 1, 0, none⟩) cl).trans hfr; have hown1 := own_below hown'.out.drew hb1; have hz1 := hb1.size; dsimp only)))
      all_goals go_wp2
      all_goals exact ⟨⟨k + 1, ad3, cap3, by omega, by go_num, HoldsL.set hc3 _ _ _, by rw [World.frozen?_setCell]; exact hf3, ownsRow_setCell_below hown3 (by simp) _,
        (((hb.trans (Below.refl _ wr).drew).trans (hb1.mono (Nat.le_of_lt cl))).trans (hb3.mono (by omega))).setCell (p := ⟨w.heap.size + 1, 0, none⟩) (Nat.le_refl _) _⟩, by simp [intOf]; omega⟩
    · obtain rfl : k = s.size := by omega
      have hr0 := (hb.cell (p := ⟨w.heap.size, 0, none⟩) (by simp)).trans r0
      have hr1 := (hb.cell (p := ⟨w.heap.size, 1, none⟩) (by simp)).trans r1
      have hg0 := (hb.frozen (p := ⟨w.heap.size, 0, none⟩) (by simp)).trans g0
      have hg1 := (hb.frozen (p := ⟨w.heap.size, 1, none⟩) (by simp)).trans g1
      have hB := HB.trans (hb.mono (by omega))
      clear r0 r1 g0 g1 hl hf
      have hown0 := own_le (base' := w.heap.size + 1) hown (by omega)
      go_wp2
      exact bodyPost_ret (v := lv ad s.size cap K) (by simp [results, Try.results76, go_sem, hr0, hr1]) rfl ⟨ad, cap, rfl, own_le (ownsRow_setCell_below (ownsRow_setCell_below hown0 (by simp) _) (by simp) _) (by omega), (hB.setCell (p := ⟨w.heap.size, 0, none⟩) (Nat.le_refl _) _).setCell (p := ⟨w.heap.size, 1, none⟩) (Nat.le_refl _) _⟩
end Go.Proofs.Ytkhcjjdamphbfaa
