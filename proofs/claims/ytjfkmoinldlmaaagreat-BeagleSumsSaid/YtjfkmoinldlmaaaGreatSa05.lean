/- append in regions that draw; rows of classes and numbers as cells; walks of leaf.Text and ref Text. -/
import Derived.Test.YtjfkmoinldlmaaaGreatSa04
import Derived.Deep.RegionLaw
namespace Go.Proofs.YtjfkmoinldlmaaaGreat
open Go.RowKit

set_option maxRecDepth 100000 in
/-- append at a step of a region that draws its order. -/
theorem step_app {T E size bytes base : Nat} (hE : ElemT T E size bytes) {ops : Array Oper} {o : Oper} {a : Act} {K : Act → World → Prop} {Q : Exit → Act → World → Prop} {E' : Prop} (hgd : o.guard = none) (s x : Operand)
    (ho : o.op = .call { callee := .builtin .append, args := #[s, x], argTypes := #[T, T] })
    {v : Value} {n : Nat} {xs : List Value} (hs : a.eval s = v) {w0 : World} (hown : w0.ownsRow base E size v n xs) (nc : List Value)
    (hx : a.eval x = .slice (some ⟨w0.heap.size, 0, none⟩) 1 1) (hl : nc.length = size) (h1 : ∀ u ∈ nc, u.oneCell' = true) (hn : n + 1 ≤ maxLen) (hbytes : (n + 1) * bytes ≤ 140737488355328) (hbase : base ≤ w0.heap.size)
    (h : ∀ v' w', w'.ownsRow base E size v' (n + 1) (xs ++ nc) → Below base w0 w' → K (a.put o.dst v') w') :
    if Region.wanted o (yielded ops a.tmps) = true then Oper.wp Tryz.prog o a (w0.alloc (.cells nc.toArray E)) K Q else E' := by
  have hw : Region.wanted o (yielded ops a.tmps) = true := by simp [Region.wanted, hgd]
  rw [if_pos hw]
  obtain ⟨i, z, ht, hi, hz, hsize, hby, hzs, hsz⟩ := hE
  have hnews : ∀ (j : Nat) u, nc[j]? = some u → (w0.alloc (.cells nc.toArray E)).cell? ((⟨w0.heap.size, 0, none⟩ : Addr).add j) = some u := by
    intro j u hj
    have e : (⟨w0.heap.size, 0, none⟩ : Addr).add j = ⟨w0.heap.size, j, none⟩ := by unfold Addr.add; split <;> simp_all
    rw [e, World.cell?_alloc_new]
    simpa using hj
  obtain ⟨v', w', hr, h2, h3, _, _⟩ := run_append_own_at (P := Tryz.prog) (w0.alloc (.cells nc.toArray E)) base T o.type E i z size bytes ht hi hz hsize hby hzs hsz v n xs (hown.alloc _) ⟨w0.heap.size, 0, none⟩ 1 1 nc (by omega) hnews h1 hn hbytes (by simp; omega)
  unfold Oper.wp execOp
  simp only [ho, resolve, invoke, builtin, Sem.run_bind, Sem.run_pure, Result.andThen_ok, List.map_toArray, List.map_cons, List.map_nil, hs, hx, hr]
  refine h v' w' h2 ?_
  have hlt := (hown.alloc (.cells nc.toArray E)).lt
  exact ((Below.refl base w0).alloc hbase _).trans (grown_below h3 (by simp; omega) fun k hk => (hlt k hk).1)

set_option maxRecDepth 100000 in
/-- Is it a call of that function? -/
theorem step_is (n : Nat) {args : Array Operand} {tys : Array TypeId} {ops : Array Oper} {o : Oper} {a : Act} {w : World} {K : Act → World → Prop} {Q : Exit → Act → World → Prop} {E' : Prop} (_ : o.op = .call { callee := .value (.func n), args := args, argTypes := tys })
    (h : if Region.wanted o (yielded ops a.tmps) = true then Oper.wp Tryz.prog o a w K Q else E') : if Region.wanted o (yielded ops a.tmps) = true then Oper.wp Tryz.prog o a w K Q else E' := h

/-- n classes as cells. -/
def clsCells (L : Nat → Nat → Bool) : Nat → List Value
  | 0 => []
  | k + 1 => clsCells L k ++ [.int .u64 (wd (L k) 0 : Nat), .int .u64 (wd (L k) 1 : Nat), .int .u64 (wd (L k) 2 : Nat), .int .u64 (wd (L k) 3 : Nat)]
theorem clsCells_length (L : Nat → Nat → Bool) (n : Nat) : (clsCells L n).length = n * 4 := by
  induction n with
  | zero => rfl
  | succ n ih => simp only [clsCells, List.length_append, List.length_cons, List.length_nil, ih]; omega
theorem clsCells_at (L : Nat → Nat → Bool) (n j : Nat) (hj : j < n) : (clsCells L n)[j * 4]? = some (.int .u64 (wd (L j) 0 : Nat)) ∧ (clsCells L n)[j * 4 + 1]? = some (.int .u64 (wd (L j) 1 : Nat)) ∧
    (clsCells L n)[j * 4 + 2]? = some (.int .u64 (wd (L j) 2 : Nat)) ∧ (clsCells L n)[j * 4 + 3]? = some (.int .u64 (wd (L j) 3 : Nat)) := by
  induction n with
  | zero => omega
  | succ n ih =>
    have hl := clsCells_length L n
    simp only [clsCells]
    by_cases he : j = n
    · subst he
      refine ⟨?_, ?_, ?_, ?_⟩ <;> rw [List.getElem?_append_right (by omega), hl] <;> simp
    · obtain ⟨h0, h1, h2, h3⟩ := ih (by omega)
      refine ⟨?_, ?_, ?_, ?_⟩ <;> rw [List.getElem?_append_left (by omega)] <;> assumption
theorem clsCells_congr {L L' : Nat → Nat → Bool} {n : Nat} (h : ∀ j, j < n → L j = L' j) : clsCells L n = clsCells L' n := by
  induction n with
  | zero => rfl
  | succ n ih => simp only [clsCells]; rw [ih fun j hj => h j (by omega), h n (by omega)]

theorem rowC_of_own {w : World} {base n cap : Nat} {ad : Option Addr} {L : Nat → Nat → Bool} (h : w.ownsRow base 100 4 (.slice ad n cap) n (clsCells L n)) : RowC w ad n L w.heap.size := by
  rcases Nat.eq_zero_or_pos n with h0 | h0
  · exact .inl h0
  · obtain ⟨g, cp, hv, _, hlt⟩ := own_form h h0
    cases hv
    refine .inr ⟨g, 0, rfl, hlt, fun j hj => ?_⟩
    obtain ⟨e0, e1, e2, e3⟩ := clsCells_at L n j hj
    rw [Nat.zero_add]
    have hl := clsCells_length L n
    have key : ∀ i x, (clsCells L n)[i]? = some x → w.cell? ⟨g, i, none⟩ = some x := fun i x hx => by
      have hi : i < (clsCells L n).length := by
        rcases Nat.lt_or_ge i (clsCells L n).length with h | h
        · exact h
        · rw [List.getElem?_eq_none h] at hx; cases hx
      rw [h.cellAt i (by omega)]
      exact hx
    exact ⟨key _ _ e0, key _ _ e1, key _ _ e2, key _ _ e3⟩

/-- n numbers as cells. -/
def intCells (A : Nat → Int) : Nat → List Value
  | 0 => []
  | k + 1 => intCells A k ++ [.int .i64 (A k)]
theorem intCells_length (A : Nat → Int) (n : Nat) : (intCells A n).length = n := by
  induction n with
  | zero => rfl
  | succ n ih => simp only [intCells, List.length_append, List.length_cons, List.length_nil, ih]
theorem intCells_at (A : Nat → Int) (n j : Nat) (hj : j < n) : (intCells A n)[j]? = some (.int .i64 (A j)) := by
  induction n with
  | zero => omega
  | succ n ih =>
    have hl := intCells_length A n
    simp only [intCells]
    by_cases he : j = n
    · subst he; rw [List.getElem?_append_right (by omega), hl]; simp
    · rw [List.getElem?_append_left (by omega)]; exact ih (by omega)
theorem intCells_congr {A A' : Nat → Int} {n : Nat} (h : ∀ j, j < n → A j = A' j) : intCells A n = intCells A' n := by
  induction n with
  | zero => rfl
  | succ n ih => simp only [intCells]; rw [ih fun j hj => h j (by omega), h n (by omega)]
theorem rowI_of_own {w : World} {base n cap : Nat} {ad : Option Addr} {A : Nat → Int} (h : w.ownsRow base 3 1 (.slice ad n cap) n (intCells A n)) : RowI w ad n A w.heap.size := by
  rcases Nat.eq_zero_or_pos n with h0 | h0
  · exact .inl h0
  · obtain ⟨g, cp, hv, _, hlt⟩ := own_form h h0
    cases hv
    refine .inr ⟨g, 0, rfl, hlt, fun j hj => ?_⟩
    rw [Nat.zero_add, h.cellAt j (by omega)]
    exact intCells_at A n j hj

theorem own_slice {w : World} {base : Nat} {e : TypeId} {size n : Nat} {v : Value} {xs : List Value} (h : w.ownsRow base e size v n xs) : ∃ ad cap, v = .slice ad n cap := by
  rcases h.2 with ⟨rfl, rfl⟩ | ⟨g, cap, cur, hv, _⟩
  · exact ⟨_, _, rfl⟩
  · exact ⟨_, _, hv⟩

/-- The class of one byte. -/
def byteS (s : ByteArray) (j : Nat) : Nat → Bool := fun n => decide ((s.data.toList[j]?.map fun c => c.toNat) = some n)

theorem HoldsL.set {w : World} {B : Nat} {ad : Option Addr} {n cap : Nat} {K : Int} (h : HoldsL w B ad n cap K) (ad' : Option Addr) (n' cap' : Nat) : HoldsL (w.setCell ⟨B, 0, none⟩ (.slice ad' n' cap')) B ad' n' cap' K := by
  obtain ⟨h0, h1, hl⟩ := h
  refine ⟨?_, ?_, ?_⟩ <;> simp [go_sem, h0, h1, hl]
theorem extract_one (s : ByteArray) (k : Nat) (hk : k < s.size) : (s.extract k (k + 1)).data.toList = [s[k]] := by
  have h : k < s.data.toList.length := by simpa using hk
  rw [ByteArray.data_extract, Array.toList_extract, List.extract_eq_take_drop, show k + 1 - k = 1 by omega, List.drop_eq_getElem_cons h, List.take_succ_cons, List.take_zero]
  rfl
theorem byteS_eq (s : ByteArray) (k : Nat) (hk : k < s.size) : strSet (s.extract k (k + 1)) (s.extract k (k + 1)).size = byteS s k := by
  have h : k < s.data.toList.length := by simpa using hk
  funext n
  unfold strSet byteS
  rw [extract_one s k hk, List.getElem?_eq_getElem h, show (s.extract k (k + 1)).size = 1 by simp; omega]
  simp
  rfl
set_option maxRecDepth 100000 in
theorem of_byte (s : ByteArray) (k : Nat) (hk : k < s.size) (w : World) :
    Calls Tryz.prog 43 #[.string (s.extract k (k + 1))] w fun e w' => e = .returned (cv (byteS s k)) ∧ Below w.heap.size w w' := by
  have h := of_any (s.extract k (k + 1)) (by simp; omega) w
  rw [byteS_eq s k hk] at h
  exact h
set_option maxRecDepth 100000 in
set_option maxHeartbeats 4000000 in
theorem text_any (s : ByteArray) (hs : s.size ≤ 1000) (K : Int) (w : World) :
    Calls Tryz.prog 18 #[.string s, .int .i64 K] w fun e w' => ∃ ad cap, e = .returned (lv ad s.size cap K) ∧ w'.ownsRow w.heap.size 100 4 (.slice ad s.size cap) s.size (clsCells (byteS s) s.size) ∧ Below w.heap.size w w' := by
  go_enter Tryz.func18, Tryz.ntmps18
  go_wp2_with fail
  obtain ⟨W0, hW0⟩ : ∃ W0 : World, (w.alloc (.cells #[.slice none 0 0, .int .i64 0] 52)).alloc (.cells #[.slice none 0 0, .int .i64 K] 52) = W0 := ⟨_, rfl⟩
  have HB : Below w.heap.size w W0 := by subst hW0; exact ((Below.refl _ _).alloc (Nat.le_refl _) _).alloc (by simp) _
  have hsz : W0.heap.size = w.heap.size + 2 := by subst hW0; simp
  have hl : HoldsL W0 (w.heap.size + 1) none 0 0 K := by subst hW0; have := HoldsL.new (w.alloc (.cells #[.slice none 0 0, .int .i64 0] 52)) none 0 0 K; rwa [World.size_alloc] at this
  have hf : W0.frozen? ⟨w.heap.size + 1, 0, none⟩ = false := by subst hW0; simp [go_sem]
  have r0 : W0.cell? ⟨w.heap.size, 0, none⟩ = some (.slice none 0 0) := by subst hW0; simp [go_sem]
  have r1 : W0.cell? ⟨w.heap.size, 1, none⟩ = some (.int .i64 0) := by subst hW0; simp [go_sem]
  have g0 : W0.frozen? ⟨w.heap.size, 0, none⟩ = false := by subst hW0; simp [go_sem]
  have g1 : W0.frozen? ⟨w.heap.size, 1, none⟩ = false := by subst hW0; simp [go_sem]
  rw [hW0]
  clear hW0
  go_loopw [11] (fun i wr => ∃ (k : Nat) (ad : Option Addr) (cap : Nat), k ≤ s.size ∧ i = .int .i64 k ∧ HoldsL wr (w.heap.size + 1) ad k cap K ∧ wr.frozen? ⟨w.heap.size + 1, 0, none⟩ = false ∧ wr.ownsRow (w.heap.size + 2) 100 4 (.slice ad k cap) k (clsCells (byteS s) k) ∧ Below (w.heap.size + 1) W0 wr) (fun i _ => s.size - (intOf i).toNat)
  case atStart => exact ⟨0, none, 0, by omega, rfl, hl, hf, World.ownsRow_nil _ _ _ _, Below.refl _ _⟩
  case round =>
    obtain ⟨k, ad, cap, hk, rfl, hc, hfr, hown, hb⟩ := hrel
    by_cases hlt : k < s.size
    · have hkk : (0 : Int) ≤ k := by omega
      have hk1 : (k : Int) + 1 ≤ s.size := by omega
      have hw : IntKind.i64.wrap ((k : Int) + 1) = k + 1 := by rw [IntKind.wrap_i64]; omega
      have htn : ((k : Int) + 1).toNat = k + 1 := by omega
      have hp1 : (0 : Int) ≤ (k : Int) + 1 := by omega
      have hp2 : (k : Int) ≤ (k : Int) + 1 := by omega
      have hc' := Lib.hid hc
      have hown' := Lib.hid hown
      obtain ⟨c0, c1, cl⟩ := hc
      go_wp2_with fail
      go_region_law (first | ((refine step_app elem50 (by with_reducible rfl) (.tmp 15) (.tmp 22) (by with_reducible rfl) (v := .slice ad k cap) (n := k) (xs := clsCells (byteS s) k) (base := w.heap.size + 2) (w0 := w1) (by rfl) hown1 [.int .u64 (wd (byteS s k) 0 : Nat), .int .u64 (wd (byteS s k) 1 : Nat), .int .u64 (wd (byteS s k) 2 : Nat), .int .u64 (wd (byteS s k) 3 : Nat)] (by rfl) (by rfl) (by simp [Value.oneCell']) (by unfold maxLen; omega) (by omega) (by simp at hz1; omega) ?_; intro v3 w3 hown3 hb3; obtain ⟨ad3, cap3, rfl⟩ := own_slice hown3; have hc3 := HoldsL.below hc1 hb3 (by omega); have hf3 := (hb3.frozen (p := ⟨w.heap.size + 1, 0, none⟩) (by simp)).trans hf1)) | ((refine step_is 43 (by with_reducible rfl) ?_; go_simp; go_at_call 43; refine (of_byte s k hlt _).mono ?_; rintro e w1 ⟨rfl, hb1⟩; have hc1 := HoldsL.below (w := wr.drew) hc'.out hb1 cl; have hf1 := (hb1.frozen (p := ⟨w.heap.size + 1, 0, none⟩) cl).trans hfr; have hown1 := own_below hown'.out.drew hb1; have hz1 := hb1.size; dsimp only)))
      all_goals go_wp2
      all_goals exact ⟨⟨k + 1, ad3, cap3, by omega, by go_num, HoldsL.set hc3 _ _ _, by rw [World.frozen?_setCell]; exact hf3, ownsRow_setCell_below hown3 (by simp) _,
        (((hb.trans (Below.refl _ wr).drew).trans (hb1.mono (Nat.le_of_lt cl))).trans (hb3.mono (by omega))).setCell (p := ⟨w.heap.size + 1, 0, none⟩) (Nat.le_refl _) _⟩, by simp [intOf]; omega⟩
    · obtain rfl : k = s.size := by omega
      have hr0 := (hb.cell (p := ⟨w.heap.size, 0, none⟩) (by simp)).trans r0
      have hr1 := (hb.cell (p := ⟨w.heap.size, 1, none⟩) (by simp)).trans r1
      have hg0 := (hb.frozen (p := ⟨w.heap.size, 0, none⟩) (by simp)).trans g0
      have hg1 := (hb.frozen (p := ⟨w.heap.size, 1, none⟩) (by simp)).trans g1
      have hB := HB.trans (hb.mono (by omega))
      clear r0 r1 g0 g1 hl hf
      have hown0 := own_le (base' := w.heap.size + 1) hown (by omega)
      go_wp2
      exact bodyPost_ret (v := lv ad s.size cap K) (by simp [results, Tryz.results18, go_sem, hr0, hr1]) rfl ⟨ad, cap, rfl, own_le (ownsRow_setCell_below (ownsRow_setCell_below hown0 (by simp) _) (by simp) _) (by omega), (hB.setCell (p := ⟨w.heap.size, 0, none⟩) (Nat.le_refl _) _).setCell (p := ⟨w.heap.size, 1, none⟩) (Nat.le_refl _) _⟩
end Go.Proofs.YtjfkmoinldlmaaaGreat

/- Walk of naive.misses. -/
namespace Go.Proofs.YtjfkmoinldlmaaaGreat
open Go.RowKit

/-- A byte of a text. -/
def tb (t : ByteArray) (m : Nat) : Nat := ((t.data.toList[m]?).map fun c => c.toNat).getD 0
theorem tb_eq (t : ByteArray) (m : Nat) (hm : m < t.size) : t[m].toNat = tb t m := by
  have h : m < t.data.toList.length := by simpa using hm
  unfold tb
  rw [List.getElem?_eq_getElem h]
  rfl
theorem tb_le (t : ByteArray) (m : Nat) : tb t m ≤ 255 := by
  unfold tb
  cases h : t.data.toList[m]? with
  | none => simp
  | some c => simp; have := c.toNat_lt; omega

/-- How many of the first k elements are missed at a place. -/
def mis (t : ByteArray) (L : Nat → Nat → Bool) (i : Nat) : Nat → Nat
  | 0 => 0
  | k + 1 => mis t L i k + (if L k (tb t (i + k)) then 0 else 1)
theorem mis_le (t : ByteArray) (L : Nat → Nat → Bool) (i k : Nat) : mis t L i k ≤ k := by
  induction k with
  | zero => exact Nat.le_refl _
  | succ k ih => simp only [mis]; split <;> omega
theorem mis_mono (t : ByteArray) (L : Nat → Nat → Bool) (i : Nat) {k n : Nat} (h : k ≤ n) : mis t L i k ≤ mis t L i n := by
  induction h with
  | refl => exact Nat.le_refl _
  | step _ ih => simp only [mis]; omega

set_option maxRecDepth 100000 in
theorem has_tb (S : Nat → Bool) (t : ByteArray) (m : Nat) (hm : m < t.size) {b : Bool} (hq : S (tb t m) = b) (w : World) :
    Calls Tryz.prog 96 #[cv S, .int .u8 (t[m].toNat : Nat)] w fun e w' => e = .returned (.bool b) ∧ Below w.heap.size w w' := by
  have h := has_any S (t[m].toNat : Nat) (by omega) (by have := t[m].toNat_lt; omega) w
  rw [Int.toNat_natCast, tb_eq t m hm, hq] at h
  rw [tb_eq t m hm]
  exact h
set_option maxRecDepth 100000 in
theorem rhas_tb (S : Nat → Bool) (t : ByteArray) (m : Nat) (hm : m < t.size) {b : Bool} (hq : S (tb t m) = b) (w : World) :
    Calls Tryz.prog 173 #[cv S, .int .u8 (t[m].toNat : Nat)] w fun e w' => e = .returned (.bool b) ∧ Below w.heap.size w w' := by
  have h := rhas_any S (t[m].toNat : Nat) (by omega) (by have := t[m].toNat_lt; omega) w
  rw [Int.toNat_natCast, tb_eq t m hm, hq] at h
  rw [tb_eq t m hm]
  exact h

set_option maxRecDepth 100000 in
set_option maxHeartbeats 4000000 in
theorem misses_any (ad : Option Addr) (n cap : Nat) (K : Int) (L : Nat → Nat → Bool) (t : ByteArray) (ht : t.size ≤ 140737488351232) (i : Nat) (hi : i + n ≤ t.size) (most : Int) (w : World) (hR : RowC w ad n L w.heap.size) :
    Calls Tryz.prog 139 #[lv ad n cap K, .string t, .int .i64 (i : Nat), .int .i64 most] w fun e w' => (∃ r : Nat, e = .returned (.int .i64 (r : Nat)) ∧ ((mis t L i n : Int) ≤ most → r = mis t L i n) ∧ (most < (mis t L i n : Int) → most < (r : Int))) ∧ Below w.heap.size w w' := by
  have hl := HoldsL.new w ad n cap K
  go_enter Tryz.func139, Tryz.ntmps139
  go_wp2_with fail
  obtain ⟨W0, hW0⟩ : ∃ W0 : World, w.alloc (.cells #[.slice ad n cap, .int .i64 K] 52) = W0 := ⟨_, rfl⟩
  have HB : Below w.heap.size w W0 := by subst hW0; exact (Below.refl _ _).alloc (Nat.le_refl _) _
  have hR0 := hR.below HB (Nat.le_refl _)
  rw [hW0] at hl ⊢
  clear hW0 hR
  go_step3
  go_wp2
  go_step3
  go_wp2
  have l0 := hl.2.2
  clear hl
  go_loopw [9, 15] (fun c j wr => ∃ k : Nat, k ≤ n ∧ j = .int .i64 k ∧ c = .int .i64 (mis t L i k : Nat) ∧ (k = 0 ∨ (mis t L i k : Int) ≤ most) ∧ Old W0 wr) (fun _ j _ => n - (intOf j).toNat)
  case atStart => exact ⟨0, by omega, rfl, rfl, .inl rfl, Old.refl _⟩
  case round =>
    obtain ⟨k, hk, rfl, rfl, hm, hO⟩ := hrel
    have hR1 := hR0.below hO.2.2.2 (Nat.le_of_lt l0)
    have HB1 := HB.trans (hO.2.2.2.mono HB.size)
    have hz := hO.2.2.1
    have HO := Lib.hid hO
    have HM := Lib.hid hm
    clear hO hm
    by_cases hlt : k < n
    · obtain ⟨b, o, rfl, hb, e0, e1, e2, e3⟩ := hR1.at hlt
      clear hR1 hR0
      have hlti : (k : Int) < n := by omega
      have hin : i + k < t.size := by omega
      have hini : (i : Int) + k < t.size := by omega
      have hin0 : (0 : Int) ≤ (i : Int) + k := by omega
      have hw : IntKind.i64.wrap ((i : Int) + k) = (i : Int) + k := by rw [IntKind.wrap_i64]; omega
      have htn : ((i : Int) + k).toNat = i + k := by omega
      have hm1 : mis t L i (k + 1) = mis t L i k + (if L k (tb t (i + k)) then 0 else 1) := rfl
      have hml := mis_le t L i k
      have hml2 := mis_mono t L i (show k + 1 ≤ n by omega)
      obtain ⟨m, hm⟩ : ∃ m, m = mis t L i k := ⟨_, rfl⟩
      have HM' : Hid (k = 0 ∨ (m : Int) ≤ most) := by rw [hm]; exact HM
      rw [← hm] at hm1 hml ⊢
      clear hm HM
      have hA : Below wr.heap.size wr (wr.alloc (.cells #[.int .u64 (wd (L k) 0 : Nat), .int .u64 (wd (L k) 1 : Nat), .int .u64 (wd (L k) 2 : Nat), .int .u64 (wd (L k) 3 : Nat)] 100)) := (Below.refl _ _).alloc (Nat.le_refl _) _
      cases hq : L k (tb t (i + k))
      · rw [hq, if_neg (by decide)] at hm1
        have H1 := Lib.hid hm1
        have H2 := Lib.hid hml2
        by_cases hgt : most < (m : Int) + 1
        · clear hm1 hml2
          go_wp2_with fail
          go_region_with (first | (go_at_call 96; refine (has_tb _ _ _ (by omega) hq _).mono ?_; rintro e w1 ⟨rfl, hb1⟩))
          all_goals (go_wp2; rw [Exit.noGoto_ret]; go_ret; exact ⟨⟨m + 1, by simp, fun h => by have := H1.out; have := H2.out; omega, fun _ => by omega⟩, HB1.trans ((hA.trans (Below.refl _ _).drew).trans (hb1.mono hA.size) |>.mono HB1.size)⟩)
        · clear hm1 hml2
          go_wp2_with fail
          go_region_with (first | (go_at_call 96; refine (has_tb _ _ _ (by omega) hq _).mono ?_; rintro e w1 ⟨rfl, hb1⟩))
          all_goals (go_wp2; exact ⟨⟨k + 1, by omega, by go_num, by rw [H1.out]; go_num, .inr (by rw [H1.out]; omega), HO.out.trans (Old.of ((hA.trans (Below.refl _ _).drew).trans (hb1.mono hA.size)))⟩, by simp [intOf]; omega⟩)
      · rw [hq, if_pos rfl] at hm1
        have H1 := Lib.hid hm1
        have H2 := Lib.hid hml2
        by_cases hgt : most < (m : Int)
        · clear hm1 hml2
          go_wp2_with fail
          go_region_with (first | (go_at_call 96; refine (has_tb _ _ _ (by omega) hq _).mono ?_; rintro e w1 ⟨rfl, hb1⟩))
          all_goals (go_wp2; rw [Exit.noGoto_ret]; go_ret; exact ⟨⟨m, by simp, fun h => by have := H1.out; have := H2.out; omega, fun _ => by omega⟩, HB1.trans ((hA.trans (Below.refl _ _).drew).trans (hb1.mono hA.size) |>.mono HB1.size)⟩)
        · clear hm1 hml2
          go_wp2_with fail
          go_region_with (first | (go_at_call 96; refine (has_tb _ _ _ (by omega) hq _).mono ?_; rintro e w1 ⟨rfl, hb1⟩))
          all_goals (go_wp2; exact ⟨⟨k + 1, by omega, by go_num, by rw [H1.out]; go_num, .inr (by rw [H1.out]; omega), HO.out.trans (Old.of ((hA.trans (Below.refl _ _).drew).trans (hb1.mono hA.size)))⟩, by simp [intOf]; omega⟩)
    · obtain rfl : k = n := by omega
      go_wp2
      try rw [Exit.noGoto_ret]
      go_ret
      exact ⟨⟨mis t L i k, by simp, fun _ => rfl, fun h => h⟩, HB1⟩
end Go.Proofs.YtjfkmoinldlmaaaGreat

/- Rows of numbers as lists; walks of naive.Hits and of beagleref08: Hits, At, Counts, Find, First. -/
namespace Go.Proofs.YtjfkmoinldlmaaaGreat
open Go.RowKit

/-- Numbers as cells. -/
def ints (l : List Int) : List Value := l.map fun x => .int .i64 x
theorem ints_snoc (l : List Int) (x : Int) : ints (l ++ [x]) = ints l ++ [.int .i64 x] := by simp [ints]
theorem ints_length (l : List Int) : (ints l).length = l.length := by simp [ints]
/-- The number at a place. -/
def gi (l : List Int) (j : Nat) : Int := (l[j]?).getD 0
theorem gi_eq (l : List Int) (j : Nat) (hj : j < l.length) : (ints l)[j]? = some (.int .i64 (gi l j)) := by
  unfold ints gi
  rw [List.getElem?_map, List.getElem?_eq_getElem hj]
  rfl
theorem rowI_of_ints {w : World} {base cap : Nat} {ad : Option Addr} {l : List Int} (h : w.ownsRow base 3 1 (.slice ad l.length cap) l.length (ints l)) : RowI w ad l.length (gi l) w.heap.size := by
  rcases Nat.eq_zero_or_pos l.length with h0 | h0
  · exact .inl h0
  · obtain ⟨g, cp, hv, _, hlt⟩ := own_form h h0
    cases hv
    refine .inr ⟨g, 0, rfl, hlt, fun j hj => ?_⟩
    rw [Nat.zero_add, h.cellAt j (by omega)]
    exact gi_eq l j hj
theorem agI_lists (l m : List Int) : (decide (l.length = m.length) && agI (gi l) (gi m) l.length) = decide (l = m) := by
  rw [Bool.eq_iff_iff]
  simp only [Bool.and_eq_true, decide_eq_true_eq, agI_iff]
  constructor
  · rintro ⟨hl, h⟩
    refine List.ext_getElem hl fun j h1 h2 => ?_
    have := h j h1
    unfold gi at this
    rw [List.getElem?_eq_getElem h1, List.getElem?_eq_getElem h2] at this
    exact this
  · rintro rfl
    exact ⟨rfl, fun _ _ => rfl⟩

set_option maxRecDepth 100000 in
/-- Places is asked of two rows of the program's own. -/
theorem placesL (l m : List Int) (hl : l.length ≤ 100000) (hm : m.length ≤ 100000) {ad ad' : Option Addr} {cap cap' base base' : Nat} (w : World) (h : w.ownsRow base 3 1 (.slice ad l.length cap) l.length (ints l)) (h' : w.ownsRow base' 3 1 (.slice ad' m.length cap') m.length (ints m)) :
    Calls Tryz.prog 20 #[.slice ad l.length cap, .slice ad' m.length cap'] w fun e w' => e = .returned (.bool (decide (l = m))) ∧ Below w.heap.size w w' := by
  have hp := places_any ad l.length cap (gi l) ad' m.length cap' (gi m) (by omega) (by omega) w (rowI_of_ints h) (rowI_of_ints h')
  rw [agI_lists] at hp
  exact hp

/-- The places below k at which a row is few. -/
def hitsTo (A : Nat → Int) (K : Int) : Nat → List Int
  | 0 => []
  | k + 1 => if A k ≤ K then hitsTo A K k ++ [(k : Int)] else hitsTo A K k
theorem hitsTo_length (A : Nat → Int) (K : Int) (k : Nat) : (hitsTo A K k).length ≤ k := by
  induction k with
  | zero => exact Nat.le_refl _
  | succ k ih =>
    simp only [hitsTo]
    split
    · rw [List.length_append, List.length_singleton]; omega
    · omega

set_option maxRecDepth 100000 in
set_option maxHeartbeats 4000000 in
theorem hits_any (ad : Option Addr) (n cap : Nat) (A : Nat → Int) (K : Int) (hn : (n : Int) ≤ 100000) (w : World) (hR : RowI w ad n A w.heap.size) :
    Calls Tryz.prog 142 #[.slice ad n cap, .int .i64 K] w fun e w' => ∃ v, e = .returned v ∧ w'.ownsRow w.heap.size 3 1 v (hitsTo A K n).length (ints (hitsTo A K n)) ∧ Below w.heap.size w w' := by
  go_enter Tryz.func142, Tryz.ntmps142
  go_wp2_with fail
  go_loopw [5, 10] (fun v i wr => ∃ k : Nat, k ≤ n ∧ i = .int .i64 k ∧ wr.ownsRow w.heap.size 3 1 v (hitsTo A K k).length (ints (hitsTo A K k)) ∧ Below w.heap.size w wr) (fun _ i _ => n - (intOf i).toNat)
  case atStart => exact ⟨0, by omega, rfl, World.ownsRow_nil _ _ _ _, Below.refl _ _⟩
  case round =>
    obtain ⟨k, hk, rfl, hown, hb⟩ := hrel
    have hR1 := hR.below hb (Nat.le_refl _)
    have hlen := hitsTo_length A K k
    have hz := hb.size
    by_cases hlt : k < n
    · obtain ⟨b, o, rfl, hbm, e0⟩ := hR1.at hlt
      clear hR1 hR
      have hlti : (k : Int) < n := by omega
      by_cases hq : A k ≤ K
      · have hs : hitsTo A K (k + 1) = hitsTo A K k ++ [(k : Int)] := by simp only [hitsTo]; rw [if_pos hq]
        have HS := Lib.hid hs
        clear hs
        go_wp2_with (first | (at_builtin; refine wpList_app elem24 rfl _ _ rfl rfl hown [.int .i64 (k : Nat)] rfl rfl (by simp [Value.oneCell']) (by unfold maxLen; omega) (by omega) (by omega) ?_; intro v3 w3 hown3 hb3))
        exact ⟨⟨k + 1, by omega, by go_num, by rw [HS.out, ints_snoc, List.length_append]; exact hown3, hb.trans hb3⟩, by simp [intOf]; omega⟩
      · have hs : hitsTo A K (k + 1) = hitsTo A K k := by simp only [hitsTo]; rw [if_neg hq]
        have HS := Lib.hid hs
        clear hs
        go_wp2
        exact ⟨⟨k + 1, by omega, by go_num, by rw [HS.out]; exact hown, hb⟩, by simp [intOf]; omega⟩
    · obtain rfl : k = n := by omega
      go_wp2
      go_ret
      exact ⟨_, rfl, hown, hb⟩

set_option maxRecDepth 100000 in
set_option maxHeartbeats 4000000 in
theorem rhits_any (ad : Option Addr) (n cap : Nat) (A : Nat → Int) (K : Int) (hn : (n : Int) ≤ 100000) (w : World) (hR : RowI w ad n A w.heap.size) :
    Calls Tryz.prog 63 #[.slice ad n cap, .int .i64 K] w fun e w' => ∃ v, e = .returned v ∧ w'.ownsRow w.heap.size 3 1 v (hitsTo A K n).length (ints (hitsTo A K n)) ∧ Below w.heap.size w w' := by
  go_enter Tryz.func63, Tryz.ntmps63
  go_wp2_with fail
  go_loopw [5, 6] (fun v i wr => ∃ k : Nat, k ≤ n ∧ i = .int .i64 k ∧ wr.ownsRow w.heap.size 3 1 v (hitsTo A K k).length (ints (hitsTo A K k)) ∧ Below w.heap.size w wr) (fun _ i _ => n - (intOf i).toNat)
  case atStart => exact ⟨0, by omega, rfl, World.ownsRow_nil _ _ _ _, Below.refl _ _⟩
  case round =>
    obtain ⟨k, hk, rfl, hown, hb⟩ := hrel
    have hR1 := hR.below hb (Nat.le_refl _)
    have hlen := hitsTo_length A K k
    have hz := hb.size
    by_cases hlt : k < n
    · obtain ⟨b, o, rfl, hbm, e0⟩ := hR1.at hlt
      clear hR1 hR
      have hlti : (k : Int) < n := by omega
      by_cases hq : A k ≤ K
      · have hs : hitsTo A K (k + 1) = hitsTo A K k ++ [(k : Int)] := by simp only [hitsTo]; rw [if_pos hq]
        have HS := Lib.hid hs
        clear hs
        go_wp2_with (first | (at_builtin; refine wpList_app elem24 rfl _ _ rfl rfl hown [.int .i64 (k : Nat)] rfl rfl (by simp [Value.oneCell']) (by unfold maxLen; omega) (by omega) (by omega) ?_; intro v3 w3 hown3 hb3))
        exact ⟨⟨k + 1, by omega, by go_num, by rw [HS.out, ints_snoc, List.length_append]; exact hown3, hb.trans hb3⟩, by simp [intOf]; omega⟩
      · have hs : hitsTo A K (k + 1) = hitsTo A K k := by simp only [hitsTo]; rw [if_neg hq]
        have HS := Lib.hid hs
        clear hs
        go_wp2
        exact ⟨⟨k + 1, by omega, by go_num, by rw [HS.out]; exact hown, hb⟩, by simp [intOf]; omega⟩
    · obtain rfl : k = n := by omega
      go_wp2
      go_ret
      exact ⟨_, rfl, hown, hb⟩

/-- May a leaf stand there? -/
def okAt (t : ByteArray) (n : Nat) (L : Nat → Nat → Bool) (K i : Int) : Bool := rightB n L K && (decide (0 ≤ i) && decide (i ≤ (t.size : Int) - n))

set_option maxRecDepth 100000 in
set_option maxHeartbeats 4000000 in
theorem rat_any (ad : Option Addr) (n cap : Nat) (K : Int) (L : Nat → Nat → Bool) (hn : (n : Int) ≤ 1000) (t : ByteArray) (ht : t.size ≤ 1000) (i : Int) (w : World) (hR : RowC w ad n L w.heap.size) :
    Calls Tryz.prog 124 #[lv ad n cap K, .string t, .int .i64 i] w fun e w' => e = .returned (.tuple #[.int .i64 (if okAt t n L K i then (mis t L i.toNat n : Nat) else 0), .bool (okAt t n L K i)]) ∧ Below w.heap.size w w' := by
  have HB : Below w.heap.size w (w.alloc (.cells #[.slice ad n cap, .int .i64 K] 52)) := (Below.refl _ _).alloc (Nat.le_refl _) _
  have hR0 := (hR.below HB (Nat.le_refl _)).mono HB.size
  have hl := HoldsL.new w ad n cap K
  have hsub : ((t.size : Int) - n) ≤ 1000 := by omega
  have hsub2 : -1000 ≤ ((t.size : Int) - n) := by omega
  by_cases hr : rightB n L K = true
  · by_cases h0 : 0 ≤ i
    · by_cases h1 : i ≤ (t.size : Int) - n
      · have hok : okAt t n L K i = true := by unfold okAt; rw [hr, decide_eq_true h0, decide_eq_true h1]; rfl
        rw [hok, if_pos rfl]
        obtain ⟨i, rfl⟩ := Int.eq_ofNat_of_zero_le h0
        rw [Int.toNat_natCast]
        clear hok
        go_enter Tryz.func124, Tryz.ntmps124
        go_wp2_with (go_at_call 172; refine (rright_any ad n cap K L (by omega) _ hR0).mono ?_; rw [hr]; rintro e w1 ⟨rfl, hb⟩; obtain ⟨c0, c1, cl⟩ := hl.below hb hl.2.2)
        have HB1 := HB.trans (hb.mono HB.size)
        have hl1 := hl.below hb hl.2.2
        have hR1 := hR.below HB1 (Nat.le_refl _)
        clear hb hl hR0 HB hR c0 c1
        go_loopw [8, 9] (fun c j wr => ∃ k : Nat, k ≤ n ∧ j = .int .i64 k ∧ c = .int .i64 (mis t L i k : Nat) ∧ Old w1 wr) (fun _ j _ => n - (intOf j).toNat)
        case atStart => exact ⟨0, by omega, rfl, rfl, Old.refl _⟩
        case round =>
          obtain ⟨k, hk, rfl, rfl, hO⟩ := hrel
          have hl2 := hl1.below hO.2.2.2 cl
          have hR2 := hR1.below hO.2.2.2 (Nat.le_of_lt cl)
          have HB2 := HB1.trans (hO.2.2.2.mono HB1.size)
          have HO := Lib.hid hO
          have cl2 := hl2.2.2
          clear hO hl1 hR1
          by_cases hlt : k < n
          · obtain ⟨b, o, rfl, hbm, e0, e1, e2, e3⟩ := hR2.at hlt
            clear hR2
            have hbl : b < wr.heap.size := Nat.lt_trans hbm cl2
            have hlti : (k : Int) < n := by omega
            have hin : i + k < t.size := by omega
            have hini : (i : Int) + k < t.size := by omega
            have hin0 : (0 : Int) ≤ (i : Int) + k := by omega
            have hw : IntKind.i64.wrap ((i : Int) + k) = (i : Int) + k := by rw [IntKind.wrap_i64]; omega
            have htn : ((i : Int) + k).toNat = i + k := by omega
            have hm1 : mis t L i (k + 1) = mis t L i k + (if L k (tb t (i + k)) then 0 else 1) := rfl
            have hml := mis_le t L i k
            obtain ⟨m, hm⟩ : ∃ m, m = mis t L i k := ⟨_, rfl⟩
            rw [← hm] at hm1 hml ⊢
            clear hm
            cases hq : L k (tb t (i + k))
            · rw [hq, if_neg (by decide)] at hm1
              have H1 := Lib.hid hm1
              clear hm1
              go_wp2_with fail
              go_region_held3 (fun w' => Old wr w') (first | with_reducible exact Old.start _ | with_reducible exact Old.calld (Old.refl _) (by assumption) | with_reducible exact Old.call (by assumption) (by assumption)) (first | (go_at_call 173; refine (rhas_tb _ _ _ (by omega) hq _).mono ?_; rintro e w' ⟨rfl, hb'⟩))
              go_wp2
              exact ⟨⟨k + 1, by omega, by go_num, by rw [H1.out]; go_num, HO.out.trans (by assumption)⟩, by simp [intOf]; omega⟩
            · rw [hq, if_pos rfl] at hm1
              have H1 := Lib.hid hm1
              clear hm1
              go_wp2_with fail
              go_region_held3 (fun w' => Old wr w') (first | with_reducible exact Old.start _ | with_reducible exact Old.calld (Old.refl _) (by assumption) | with_reducible exact Old.call (by assumption) (by assumption)) (first | (go_at_call 173; refine (rhas_tb _ _ _ (by omega) hq _).mono ?_; rintro e w' ⟨rfl, hb'⟩))
              go_wp2
              exact ⟨⟨k + 1, by omega, by go_num, by rw [H1.out]; go_num, HO.out.trans (by assumption)⟩, by simp [intOf]; omega⟩
          · obtain rfl : k = n := by omega
            go_wp2
            go_ret2
            exact ⟨rfl, HB2⟩
      · have hok : okAt t n L K i = false := by unfold okAt; rw [hr, decide_eq_false h1]; simp
        rw [hok, if_neg (by decide)]
        clear hok
        go_enter Tryz.func124, Tryz.ntmps124
        go_wp2_with (go_at_call 172; refine (rright_any ad n cap K L (by omega) _ hR0).mono ?_; rw [hr]; rintro e w1 ⟨rfl, hb⟩; obtain ⟨c0, c1, cl⟩ := hl.below hb hl.2.2)
        go_ret2
        exact ⟨rfl, HB.trans (hb.mono HB.size)⟩
    · have hok : okAt t n L K i = false := by unfold okAt; rw [hr, decide_eq_false h0]; simp
      rw [hok, if_neg (by decide)]
      clear hok
      go_enter Tryz.func124, Tryz.ntmps124
      go_wp2_with (go_at_call 172; refine (rright_any ad n cap K L (by omega) _ hR0).mono ?_; rw [hr]; rintro e w1 ⟨rfl, hb⟩; obtain ⟨c0, c1, cl⟩ := hl.below hb hl.2.2)
      go_ret2
      exact ⟨rfl, HB.trans (hb.mono HB.size)⟩
  · have hrf : rightB n L K = false := by simpa using hr
    have hok : okAt t n L K i = false := by unfold okAt; rw [hrf]; simp
    rw [hok, if_neg (by decide)]
    clear hok
    go_enter Tryz.func124, Tryz.ntmps124
    go_wp2_with (go_at_call 172; refine (rright_any ad n cap K L (by omega) _ hR0).mono ?_; rw [hrf]; rintro e w1 ⟨rfl, hb⟩; obtain ⟨c0, c1, cl⟩ := hl.below hb hl.2.2)
    go_ret2
    exact ⟨rfl, HB.trans (hb.mono HB.size)⟩

/-- How many are missed at each place below k at which the leaf stands. -/
def cntsTo (t : ByteArray) (n : Nat) (L : Nat → Nat → Bool) (K : Int) : Nat → List Int
  | 0 => []
  | k + 1 => if okAt t n L K (k : Nat) then cntsTo t n L K k ++ [((mis t L k n : Nat) : Int)] else cntsTo t n L K k
theorem cntsTo_length (t : ByteArray) (n : Nat) (L : Nat → Nat → Bool) (K : Int) (k : Nat) : (cntsTo t n L K k).length ≤ k := by
  induction k with
  | zero => exact Nat.le_refl _
  | succ k ih =>
    simp only [cntsTo]
    split
    · rw [List.length_append, List.length_singleton]; omega
    · omega

set_option maxRecDepth 100000 in
set_option maxHeartbeats 4000000 in
theorem rcounts_any (ad : Option Addr) (n cap : Nat) (K : Int) (L : Nat → Nat → Bool) (hn : (n : Int) ≤ 1000) (t : ByteArray) (ht : t.size ≤ 1000) (w : World) (hR : RowC w ad n L w.heap.size) :
    Calls Tryz.prog 64 #[lv ad n cap K, .string t] w fun e w' => ∃ v, e = .returned v ∧ w'.ownsRow w.heap.size 3 1 v (cntsTo t n L K (t.size + 1)).length (ints (cntsTo t n L K (t.size + 1))) ∧ Below w.heap.size w w' := by
  have hl := HoldsL.new w ad n cap K
  go_enter Tryz.func64, Tryz.ntmps64
  go_wp2_with fail
  obtain ⟨W0, hW0⟩ : ∃ W0 : World, w.alloc (.cells #[.slice ad n cap, .int .i64 K] 52) = W0 := ⟨_, rfl⟩
  have HB : Below w.heap.size w W0 := by subst hW0; exact (Below.refl _ _).alloc (Nat.le_refl _) _
  have hR0 := hR.below HB (Nat.le_refl _)
  have hs0 : W0.heap.size = w.heap.size + 1 := by subst hW0; simp
  rw [hW0] at hl ⊢
  clear hW0 hR
  have l0 := hl.2.2
  go_loopw [5, 6] (fun v i wr => ∃ k : Nat, k ≤ t.size + 1 ∧ i = .int .i64 k ∧ wr.ownsRow (w.heap.size + 1) 3 1 v (cntsTo t n L K k).length (ints (cntsTo t n L K k)) ∧ Below (w.heap.size + 1) W0 wr) (fun _ i _ => t.size + 1 - (intOf i).toNat)
  case atStart => exact ⟨0, by omega, rfl, World.ownsRow_nil _ _ _ _, Below.refl _ _⟩
  case round =>
    obtain ⟨k, hk, rfl, hown, hb⟩ := hrel
    have hl1 := hl.below hb (by omega)
    have hR1 := (hR0.below hb (by omega)).mono (show w.heap.size ≤ wr.heap.size by have := hb.size; omega)
    have hz := hb.size
    have hlen := cntsTo_length t n L K k
    obtain ⟨c0, c1, cl⟩ := hl1
    clear hl hR0 l0
    have hnext : cntsTo t n L K (k + 1) = if okAt t n L K (k : Nat) then cntsTo t n L K k ++ [((mis t L k n : Nat) : Int)] else cntsTo t n L K k := rfl
    by_cases hlt : k ≤ t.size
    · have hlti : (k : Int) ≤ t.size := by omega
      cases hok : okAt t n L K (k : Nat)
      · rw [hok, if_neg (by decide)] at hnext
        have HS := Lib.hid hnext
        clear hnext
        go_wp2_with (go_at_call 124; refine (rat_any ad n cap K L hn t ht _ _ hR1).mono ?_; rw [hok]; rintro e w1 ⟨rfl, hb1⟩)
        exact ⟨⟨k + 1, by omega, by go_num, by rw [HS.out]; exact own_below hown hb1, hb.trans (hb1.mono (by omega))⟩, by simp [intOf]; omega⟩
      · rw [hok, if_pos rfl] at hnext
        have HS := Lib.hid hnext
        clear hnext
        go_wp2_with (first | (go_at_call 124; refine (rat_any ad n cap K L hn t ht _ _ hR1).mono ?_; rw [hok, if_pos rfl, Int.toNat_natCast]; rintro e w1 ⟨rfl, hb1⟩; have hz1 := hb1.size) | (at_builtin; refine wpList_app elem24 rfl _ _ rfl rfl (own_below hown hb1) [.int .i64 (mis t L k n : Nat)] rfl rfl (by simp [Value.oneCell']) (by unfold maxLen; omega) (by omega) (by omega) ?_; intro v3 w3 hown3 hb3))
        exact ⟨⟨k + 1, by omega, by go_num, by rw [HS.out, ints_snoc, List.length_append]; exact hown3, (hb.trans (hb1.mono (by omega))).trans hb3⟩, by simp [intOf]; omega⟩
    · obtain rfl : k = t.size + 1 := by omega
      have hgt : (t.size : Int) < (t.size : Int) + 1 := by omega
      go_wp2
      go_ret
      exact ⟨_, rfl, own_le hown (by omega), HB.trans (hb.mono (by omega))⟩

/-- Where a leaf is found: by its counts. -/
def findL (t : ByteArray) (n : Nat) (L : Nat → Nat → Bool) (K : Int) : List Int := hitsTo (gi (cntsTo t n L K (t.size + 1))) K (cntsTo t n L K (t.size + 1)).length
theorem findL_length (t : ByteArray) (n : Nat) (L : Nat → Nat → Bool) (K : Int) : (findL t n L K).length ≤ t.size + 1 :=
  Nat.le_trans (hitsTo_length _ _ _) (cntsTo_length _ _ _ _ _)

set_option maxRecDepth 100000 in
set_option maxHeartbeats 4000000 in
theorem rfind_any (ad : Option Addr) (n cap : Nat) (K : Int) (L : Nat → Nat → Bool) (hn : (n : Int) ≤ 1000) (t : ByteArray) (ht : t.size ≤ 1000) (w : World) (hR : RowC w ad n L w.heap.size) :
    Calls Tryz.prog 31 #[lv ad n cap K, .string t] w fun e w' => ∃ v, e = .returned v ∧ w'.ownsRow w.heap.size 3 1 v (findL t n L K).length (ints (findL t n L K)) ∧ Below w.heap.size w w' := by
  have hl := HoldsL.new w ad n cap K
  have hlen := cntsTo_length t n L K (t.size + 1)
  unfold findL
  have hcc := fun w' hR' => rcounts_any ad n cap K L hn t ht w' hR'
  generalize cntsTo t n L K (t.size + 1) = C at hlen hcc
  have HC := Lib.hid hcc
  clear hcc
  go_enter Tryz.func31, Tryz.ntmps31
  go_wp2_with fail
  obtain ⟨W0, hW0⟩ : ∃ W0 : World, w.alloc (.cells #[.slice ad n cap, .int .i64 K] 52) = W0 := ⟨_, rfl⟩
  have HB : Below w.heap.size w W0 := by subst hW0; exact (Below.refl _ _).alloc (Nat.le_refl _) _
  have hR0 : RowC W0.drew ad n L W0.drew.heap.size := (hR.below HB (Nat.le_refl _)).mono HB.size
  rw [hW0] at hl ⊢
  clear hW0 hR
  obtain ⟨c0, c1, cl⟩ := hl
  have hw0 := HB.size
  go_region_held3 (fun w' => Old W0 w') (first | with_reducible exact Old.start _ | with_reducible exact Old.calld (Old.refl _) (by assumption) | with_reducible exact Old.call (by assumption) (by assumption)) (first | (go_at_call 64; refine (HC.out _ hR0).mono ?_; rintro e w1 ⟨v1, rfl, ho1, hb1⟩; obtain ⟨ad1, cap1, rfl⟩ := own_slice ho1) | (go_at_call 63; refine (rhits_any _ _ _ (gi C) K (by omega) _ (rowI_of_ints (by assumption))).mono ?_; rintro e w2 ⟨v2, rfl, ho2, hb2⟩))
  go_wp2
  go_ret
  refine ⟨_, rfl, own_le ho2 (Nat.le_trans hw0 hb1.size), HB.trans ((show Old W0 _ by assumption).2.2.2.mono hw0)⟩

/-- The first one from a bound on. -/
def fge (l : List Int) (b : Int) : Option Int := l.find? fun x => decide (b ≤ x)
theorem fge_hit (l : List Int) (b : Int) (k : Nat) (hk : k < l.length) (hno : ∀ j, j < k → gi l j < b) (h : b ≤ gi l k) : fge l b = some (gi l k) := by
  have e : ∀ j (hj : j < l.length), gi l j = l[j] := fun j hj => by unfold gi; rw [List.getElem?_eq_getElem hj]; rfl
  unfold fge
  rw [e k hk, List.find?_eq_some_iff_getElem]
  refine ⟨by rw [e k hk] at h; simpa using h, k, hk, rfl, fun j hj => ?_⟩
  have := hno j hj
  rw [e j (by omega)] at this
  simpa using this
theorem fge_none (l : List Int) (b : Int) (hno : ∀ j, j < l.length → gi l j < b) : fge l b = none := by
  unfold fge
  rw [List.find?_eq_none]
  intro x hx
  obtain ⟨j, hj, rfl⟩ := List.getElem_of_mem hx
  have := hno j hj
  unfold gi at this
  rw [List.getElem?_eq_getElem hj] at this
  simpa using this

end Go.Proofs.YtjfkmoinldlmaaaGreat

/- Leaves in plain terms: free elements, letters, places, kinds; rows of classes as lists. -/
namespace Go.Proofs.YtjfkmoinldlmaaaGreat
open Go.RowKit

/-- All bytes. -/
def fullS : Nat → Bool := fun _ => true
theorem cntN_full (S : Nat → Bool) (k : Nat) : cntN S k = k ↔ ∀ n, n < k → S n = true := by
  induction k with
  | zero => simp [cntN]
  | succ k ih =>
    have hle := cntN_le S k
    simp only [cntN]
    by_cases hk : S k = true
    · simp only [hk, if_true]
      constructor
      · intro h n hn
        by_cases he : n = k
        · subst he; exact hk
        · exact ih.1 (by omega) n (by omega)
      · intro h
        have := ih.2 fun n hn => h n (by omega)
        omega
    · simp only [hk]
      constructor
      · intro h; exfalso; simp at h; omega
      · intro h; exact absurd (h k (by omega)) hk
theorem free_cnt (S : Nat → Bool) : decide (cnt S = 256) = clsEq S fullS := by
  rw [Bool.eq_iff_iff, decide_eq_true_eq, clsEq_iff]
  exact cntN_full S 256

/-- Do all below k? -/
def allN (p : Nat → Bool) : Nat → Bool
  | 0 => true
  | k + 1 => allN p k && p k
theorem allN_iff (p : Nat → Bool) (k : Nat) : allN p k = true ↔ ∀ j, j < k → p j = true := by
  induction k with
  | zero => simp [allN]
  | succ k ih =>
    simp only [allN, Bool.and_eq_true, ih]
    constructor
    · rintro ⟨h, h2⟩ j hj
      by_cases he : j = k
      · subst he; exact h2
      · exact h j (by omega)
    · intro h; exact ⟨fun j hj => h j (by omega), h k (by omega)⟩
theorem allN_miss {p : Nat → Bool} {k n : Nat} (hk : k < n) (h : p k = false) : allN p n = false := by
  rw [Bool.eq_false_iff]; intro hh; rw [(allN_iff p n).1 hh k hk] at h; cases h

/-- Is each element free, or of one byte? -/
def plainB (L : Nat → Nat → Bool) (n : Nat) : Bool := allN (fun j => one (L j) || clsEq (L j) fullS) n
/-- Has each element one byte? -/
def lettersB (L : Nat → Nat → Bool) (n : Nat) : Bool := allN (fun j => one (L j)) n
/-- These bytes. -/
def lets (L : Nat → Nat → Bool) (n : Nat) : List Int := (List.range n).map fun j => ((sgl (L j) : Nat) : Int)
theorem lets_succ (L : Nat → Nat → Bool) (n : Nat) : lets L (n + 1) = lets L n ++ [((sgl (L n) : Nat) : Int)] := by simp [lets, List.range_succ]
theorem lets_length (L : Nat → Nat → Bool) (n : Nat) : (lets L n).length = n := by simp [lets]
/-- The text of them. -/
def letsT (L : Nat → Nat → Bool) (n : Nat) : ByteArray := ⟨((lets L n).map fun x => UInt8.ofNat x.toNat).toArray⟩
/-- The cells of them. -/
def u8s (l : List Int) : List Value := l.map fun x => .int .u8 x
theorem u8s_snoc (l : List Int) (x : Int) : u8s (l ++ [x]) = u8s l ++ [.int .u8 x] := by simp [u8s]

/-- The places below k at which a class stands. -/
def whereTo (S : Nat → Bool) (L : Nat → Nat → Bool) : Nat → List Int
  | 0 => []
  | k + 1 => if clsEq (L k) S then whereTo S L k ++ [(k : Int)] else whereTo S L k
theorem whereTo_length (S : Nat → Bool) (L : Nat → Nat → Bool) (k : Nat) : (whereTo S L k).length = cntN (fun j => clsEq (L j) S) k := by
  induction k with
  | zero => rfl
  | succ k ih =>
    simp only [whereTo, cntN]
    split
    · rename_i h; rw [List.length_append, List.length_singleton, ih]
    · rename_i h; rw [ih]; rfl
theorem whereTo_mem (S : Nat → Bool) (L : Nat → Nat → Bool) (k : Nat) (x : Int) : x ∈ whereTo S L k ↔ ∃ j : Nat, x = j ∧ j < k ∧ clsEq (L j) S = true := by
  induction k with
  | zero => simp [whereTo]
  | succ k ih =>
    simp only [whereTo]
    split
    · rename_i h
      rw [List.mem_append, List.mem_singleton, ih]
      constructor
      · rintro (⟨j, rfl, hj, hc⟩ | rfl)
        · exact ⟨j, rfl, by omega, hc⟩
        · exact ⟨k, rfl, by omega, h⟩
      · rintro ⟨j, rfl, hj, hc⟩
        by_cases he : j = k
        · subst he; exact .inr rfl
        · exact .inl ⟨j, rfl, by omega, hc⟩
    · rename_i h
      rw [ih]
      constructor
      · rintro ⟨j, rfl, hj, hc⟩; exact ⟨j, rfl, by omega, hc⟩
      · rintro ⟨j, rfl, hj, hc⟩
        by_cases he : j = k
        · subst he; exact absurd hc h
        · exact ⟨j, rfl, by omega, hc⟩

/-- Does a class stand in a list? -/
def inL (S : Nat → Bool) (l : List (Nat → Bool)) : Bool := l.any fun T => clsEq T S
/-- The kinds of the first k elements. -/
def kindsTo (L : Nat → Nat → Bool) : Nat → List (Nat → Bool)
  | 0 => []
  | k + 1 => if clsEq (L k) fullS || inL (L k) (kindsTo L k) then kindsTo L k else kindsTo L k ++ [L k]
theorem kindsTo_length (L : Nat → Nat → Bool) (k : Nat) : (kindsTo L k).length ≤ k := by
  induction k with
  | zero => exact Nat.le_refl _
  | succ k ih =>
    simp only [kindsTo]
    split
    · omega
    · rw [List.length_append, List.length_singleton]; omega

/-- Classes as cells. -/
def clsL (l : List (Nat → Bool)) : List Value := l.flatMap fun S => [.int .u64 (wd S 0 : Nat), .int .u64 (wd S 1 : Nat), .int .u64 (wd S 2 : Nat), .int .u64 (wd S 3 : Nat)]
theorem clsL_snoc (l : List (Nat → Bool)) (S : Nat → Bool) : clsL (l ++ [S]) = clsL l ++ [.int .u64 (wd S 0 : Nat), .int .u64 (wd S 1 : Nat), .int .u64 (wd S 2 : Nat), .int .u64 (wd S 3 : Nat)] := by simp [clsL]
theorem clsL_length (l : List (Nat → Bool)) : (clsL l).length = l.length * 4 := by
  induction l with
  | nil => rfl
  | cons S l ih => simp only [clsL, List.flatMap_cons, List.length_append, List.length_cons, List.length_nil] at ih ⊢; omega
/-- The class at a place. -/
def gc (l : List (Nat → Bool)) (j : Nat) : Nat → Bool := (l[j]?).getD noByte
theorem clsL_cells (l : List (Nat → Bool)) : clsL l = clsCells (gc l) l.length := by
  have h : ∀ k, k ≤ l.length → clsL (l.take k) = clsCells (gc l) k := by
    intro k
    induction k with
    | zero => intro _; rfl
    | succ k ih =>
      intro hk
      rw [List.take_succ_eq_append_getElem (by omega), clsL_snoc, ih (by omega)]
      have e : gc l k = l[k] := by unfold gc; rw [List.getElem?_eq_getElem (by omega)]; rfl
      simp only [clsCells, e]
  have := h l.length (Nat.le_refl _)
  rwa [List.take_length] at this
theorem rowC_of_list {w : World} {base cap : Nat} {ad : Option Addr} {l : List (Nat → Bool)} (h : w.ownsRow base 100 4 (.slice ad l.length cap) l.length (clsL l)) : RowC w ad l.length (gc l) w.heap.size := by
  rw [clsL_cells] at h
  exact rowC_of_own h

/-- Are two rows of classes alike below k? -/
def agC (L M : Nat → Nat → Bool) : Nat → Bool
  | 0 => true
  | k + 1 => agC L M k && clsEq (L k) (M k)
theorem agC_iff (L M : Nat → Nat → Bool) (k : Nat) : agC L M k = true ↔ ∀ n, n < k → clsEq (L n) (M n) = true := by
  induction k with
  | zero => simp [agC]
  | succ k ih =>
    simp only [agC, Bool.and_eq_true, ih]
    constructor
    · rintro ⟨h1, h2⟩ n hn
      by_cases he : n = k
      · subst he; exact h2
      · exact h1 n (by omega)
    · intro h; exact ⟨fun n hn => h n (by omega), h k (by omega)⟩
theorem agC_refl (L : Nat → Nat → Bool) (k : Nat) : agC L L k = true := (agC_iff L L k).2 fun _ _ => clsEq_refl _
theorem clsEq_comm (S T : Nat → Bool) : clsEq S T = clsEq T S := by
  rw [Bool.eq_iff_iff, clsEq_iff, clsEq_iff]
  exact ⟨fun h n hn => (h n hn).symm, fun h n hn => (h n hn).symm⟩
theorem clsEq_trans {S T U : Nat → Bool} (h : clsEq S T = true) (k : clsEq T U = true) : clsEq S U = true :=
  (clsEq_iff _ _).2 fun n hn => ((clsEq_iff _ _).1 h n hn).trans ((clsEq_iff _ _).1 k n hn)
theorem agC_comm (L M : Nat → Nat → Bool) (k : Nat) : agC L M k = agC M L k := by
  rw [Bool.eq_iff_iff, agC_iff, agC_iff]
  exact ⟨fun h n hn => by rw [clsEq_comm]; exact h n hn, fun h n hn => by rw [clsEq_comm]; exact h n hn⟩
/-- Are two leaves the same? -/
def sameB (n : Nat) (L : Nat → Nat → Bool) (K : Int) (n' : Nat) (L' : Nat → Nat → Bool) (K' : Int) : Bool := decide (K = K') && (decide (n = n') && agC L L' n)

/-- How many elements are bound. -/
def boundN (L : Nat → Nat → Bool) (n : Nat) : Nat := cntN (fun j => !clsEq (L j) fullS) n
theorem bound_where (L : Nat → Nat → Bool) (n : Nat) : boundN L n + (whereTo fullS L n).length = n := by
  rw [whereTo_length]
  unfold boundN
  induction n with
  | zero => rfl
  | succ n ih =>
    simp only [cntN]
    by_cases h : clsEq (L n) fullS = true
    · simp only [h, Bool.not_true, Bool.false_eq_true, if_false, if_true]; omega
    · rw [Bool.not_eq_true] at h
      simp only [h, Bool.not_false, Bool.false_eq_true, if_false, if_true]; omega
end Go.Proofs.YtjfkmoinldlmaaaGreat

/- Walks of the leaf package and of beagleref07: free, Plain, Same, Classes, slices.Equal. -/
namespace Go.Proofs.YtjfkmoinldlmaaaGreat
open Go.RowKit

set_option maxRecDepth 100000 in
set_option maxHeartbeats 1000000 in
theorem free_any (S : Nat → Bool) (w : World) :
    Calls Tryz.prog 178 #[cv S] w fun e w' => e = .returned (.bool (clsEq S fullS)) ∧ Below w.heap.size w w' := by
  have hS := HoldsC.new w S
  go_enter Tryz.func178, Tryz.ntmps178
  go_wp2_with fail
  obtain ⟨W0, hW0⟩ : ∃ W0 : World, w.alloc (.cells #[.int .u64 (wd S 0 : Nat), .int .u64 (wd S 1 : Nat), .int .u64 (wd S 2 : Nat), .int .u64 (wd S 3 : Nat)] 100) = W0 := ⟨_, rfl⟩
  have HB : Below w.heap.size w W0 := by subst hW0; exact (Below.refl _ _).alloc (Nat.le_refl _) _
  rw [hW0] at hS ⊢
  clear hW0
  have l0 := hS.2.2
  go_region_held3 (fun w' => Old W0 w') (first | with_reducible exact Old.start _ | with_reducible exact Old.calld (Old.refl _) (by assumption) | with_reducible exact Old.call (by assumption) (by assumption)) (first | (go_at_call 93; refine (full_any _).mono ?_; rintro e w1 ⟨rfl, hb1⟩))
  go_wp2
  go_ret
  exact ⟨rfl, HB.trans ((show Old W0 _ by assumption).2.2.2.mono HB.size)⟩

end Go.Proofs.YtjfkmoinldlmaaaGreat

/- How far a text goes on like another one, from each of its places: plain. -/
namespace Go.Proofs.YtjfkmoinldlmaaaGreat

/-- Is byte n of s there, and that of t at i + n? -/
def good (s t : ByteArray) (i n : Nat) : Bool := decide (n < s.size) && (decide (i + n < t.size) && (tb s n == tb t (i + n)))
theorem good_iff (s t : ByteArray) (i n : Nat) : good s t i n = true ↔ n < s.size ∧ i + n < t.size ∧ tb s n = tb t (i + n) := by simp [good]
/-- How far t goes on from i like s from its beginning. -/
def lc (s t : ByteArray) (i : Nat) : Nat := firstN (fun n => !good s t i n) 0 s.size
theorem lc_spec (s t : ByteArray) (i : Nat) : (∀ j, j < lc s t i → good s t i j = true) ∧ good s t i (lc s t i) = false := by
  obtain ⟨_, h2, h3, h4⟩ := firstN_spec (fun n => !good s t i n) s.size 0
  refine ⟨fun j hj => by simpa using h4 j (by omega) hj, ?_⟩
  by_cases h : lc s t i < 0 + s.size
  · have h5 := h3 h
    rw [Bool.not_eq_true'] at h5
    exact h5
  · rw [Bool.eq_false_iff]
    intro hg
    have := (good_iff _ _ _ _).1 hg
    omega
theorem lc_eq {s t : ByteArray} {i r : Nat} (h : ∀ j, j < r → good s t i j = true) (h2 : good s t i r = false) : lc s t i = r := by
  obtain ⟨a, b⟩ := lc_spec s t i
  rcases Nat.lt_trichotomy (lc s t i) r with hl | hl | hl
  · rw [h _ hl] at b; cases b
  · exact hl
  · rw [a _ hl] at h2; cases h2
theorem lc_le (s t : ByteArray) (i : Nat) : lc s t i ≤ s.size := by
  by_cases h : lc s t i = 0
  · omega
  · have := (good_iff _ _ _ _).1 ((lc_spec s t i).1 (lc s t i - 1) (by omega))
    omega
theorem lc_fits (s t : ByteArray) (i : Nat) (hi : i ≤ t.size) : i + lc s t i ≤ t.size := by
  by_cases h : lc s t i = 0
  · omega
  · have := (good_iff _ _ _ _).1 ((lc_spec s t i).1 (lc s t i - 1) (by omega))
    omega
theorem lc_self (s : ByteArray) : lc s s 0 = s.size := lc_eq (fun j hj => (good_iff _ _ _ _).2 ⟨hj, by omega, by rw [Nat.zero_add]⟩) (by
  rw [Bool.eq_false_iff]; intro hg; have := (good_iff _ _ _ _).1 hg; omega)
/-- The rows. -/
def rowsL (s t : ByteArray) : List Int := (List.range t.size).map fun i => ((lc s t i : Nat) : Int)
theorem rowsL_length (s t : ByteArray) : (rowsL s t).length = t.size := by simp [rowsL]
theorem rowsL_gi (s t : ByteArray) (i : Nat) (hi : i < t.size) : gi (rowsL s t) i = ((lc s t i : Nat) : Int) := by
  unfold gi rowsL
  rw [List.getElem?_map, List.getElem?_range hi]
  rfl
theorem rowsL_take (s t : ByteArray) (k : Nat) (hk : k < t.size) : (rowsL s t).take (k + 1) = (rowsL s t).take k ++ [((lc s t k : Nat) : Int)] := by
  rw [List.take_succ_eq_append_getElem (by rw [rowsL_length]; exact hk)]
  simp [rowsL]

/-- What was seen farthest. -/
structure ZInv (s t : ByteArray) (fr to i : Nat) : Prop where
  fi : fr ≤ i
  tt : to ≤ t.size
  ts : to ≤ fr + s.size
  eq : ∀ j, fr + j < to → tb t (fr + j) = tb s j
theorem ZInv.good {s t : ByteArray} {fr to i : Nat} (h : ZInv s t fr to i) (hi : i < to) {j : Nat} (h1 : j < lc s s (i - fr)) (h2 : j < to - i) : Go.Proofs.YtjfkmoinldlmaaaGreat.good s t i j = true := by
  have a := (good_iff _ _ _ _).1 ((lc_spec s s (i - fr)).1 j h1)
  have b := h.eq (i - fr + j) (by have := h.fi; omega)
  have hf := h.fi
  have ht := h.tt
  refine (good_iff _ _ _ _).2 ⟨a.1, by omega, ?_⟩
  rw [a.2.2, ← b]
  congr 1
  omega
theorem ZInv.next {s t : ByteArray} {fr to i : Nat} (h : ZInv s t fr to i) : ZInv s t fr to (i + 1) := ⟨by have := h.fi; omega, h.tt, h.ts, h.eq⟩
theorem ZInv.new (s t : ByteArray) (i : Nat) (hi : i ≤ t.size) : ZInv s t i (i + lc s t i) (i + 1) where
  fi := by omega
  tt := lc_fits s t i hi
  ts := by have := lc_le s t i; omega
  eq j hj := ((good_iff _ _ _ _).1 ((lc_spec s t i).1 j (by omega))).2.2.symm
theorem ZInv.start (s t : ByteArray) : ZInv s t 0 0 0 := ⟨by omega, by omega, by omega, fun j hj => by omega⟩
end Go.Proofs.YtjfkmoinldlmaaaGreat

/- Where a text stands in another one, by its rows: plain. -/
namespace Go.Proofs.YtjfkmoinldlmaaaGreat

/-- The places below k at which p stands. -/
def zfTo (p t : ByteArray) : Nat → List Int
  | 0 => []
  | k + 1 => if lc p t k = p.size then zfTo p t k ++ [(k : Int)] else zfTo p t k
theorem zfTo_length (p t : ByteArray) (k : Nat) : (zfTo p t k).length ≤ k := by
  induction k with
  | zero => exact Nat.le_refl _
  | succ k ih =>
    simp only [zfTo]
    split
    · rw [List.length_append, List.length_singleton]; omega
    · omega
/-- The places at which p stands in t. -/
def zf (p t : ByteArray) : List Int := if p.size = 0 then [] else zfTo p t t.size
theorem zfTo_stop (p t : ByteArray) (a b : Nat) (hb : b ≤ t.size) (ha : a ≤ b) (h : t.size < a + p.size) : zfTo p t b = zfTo p t a := by
  obtain ⟨d, rfl⟩ : ∃ d, b = a + d := ⟨b - a, by omega⟩
  clear ha
  induction d with
  | zero => rfl
  | succ d ih =>
    have hne : ¬ (lc p t (a + d) = p.size) := by
      have := lc_fits p t (a + d) (by omega)
      omega
    show (if lc p t (a + d) = p.size then _ else _) = _
    rw [if_neg hne]
    exact ih (by omega)
theorem sub_eq (p t : ByteArray) (i : Nat) (h : i + p.size ≤ t.size) : (t.extract i (i + p.size) = p) ↔ lc p t i = p.size := by
  have hl : (t.extract i (i + p.size)).data.toList = (t.data.toList.drop i).take p.size := by
    rw [ByteArray.data_extract, Array.toList_extract, List.extract_eq_take_drop, Nat.add_sub_cancel_left]
  have hsz : t.data.toList.length = t.size := by simp
  have hps : p.data.toList.length = p.size := by simp
  have key : ∀ j, j < p.size → (tb p j = tb t (i + j) ↔ p.data.toList[j]? = t.data.toList[i + j]?) := by
    intro j hj
    unfold tb
    rw [List.getElem?_eq_getElem (by omega), List.getElem?_eq_getElem (by omega)]
    simp only [Option.map_some, Option.getD_some, Option.some.injEq]
    exact UInt8.toNat_inj
  constructor
  · intro he
    refine lc_eq (fun j hj => ?_) (by rw [Bool.eq_false_iff]; intro hg; have := (good_iff _ _ _ _).1 hg; omega)
    refine (good_iff _ _ _ _).2 ⟨hj, by omega, (key j hj).2 ?_⟩
    rw [← he, hl, List.getElem?_take_of_lt hj, List.getElem?_drop]
  · intro he
    have hg := (lc_spec p t i).1
    rw [he] at hg
    apply ByteArray.ext
    apply Array.toList_inj.1
    rw [hl]
    refine List.ext_getElem? fun j => ?_
    by_cases hj : j < p.size
    · rw [List.getElem?_take_of_lt hj, List.getElem?_drop]
      exact ((key j hj).1 ((good_iff _ _ _ _).1 (hg j hj)).2.2).symm
    · rw [List.getElem?_eq_none (by rw [List.length_take]; omega), List.getElem?_eq_none (by omega)]
theorem empty_of_size (p : ByteArray) (h : p.size = 0) : p.toList.isEmpty = true := by
  rw [List.isEmpty_iff]
  unfold ByteArray.toList
  unfold ByteArray.toList.loop
  rw [if_neg (by omega)]; rfl
theorem full_of_size (p : ByteArray) (h : 0 < p.size) : p.toList.isEmpty = false := by
  rw [List.isEmpty_eq_false_iff]
  intro he
  unfold ByteArray.toList at he
  have : ∀ (n i : Nat) (r : List UInt8), p.size - i = n → r.length ≤ (ByteArray.toList.loop p i r).length := by
    intro n
    induction n with
    | zero => intro i r hn; unfold ByteArray.toList.loop; rw [if_neg (by omega)]; simp
    | succ n ih => intro i r hn; unfold ByteArray.toList.loop; rw [if_pos (by omega)]; have := ih (i + 1) (p.get! i :: r) (by omega); simp at this; omega
  unfold ByteArray.toList.loop at he
  rw [if_pos h] at he
  have h2 := this _ 1 [p.get! 0] rfl
  rw [he] at h2
  simp at h2
end Go.Proofs.YtjfkmoinldlmaaaGreat
