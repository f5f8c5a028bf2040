/- Walk of the closure of split.Rare: a map from bytes to rows. -/
import Derived.Test.YtjfkmoinldlmaaaGreatSa24
import Derived.Test.YtjfkmoinldlmaaaGreatSa10
import Derived.Maps.OwnSet
import Derived.Test.YtjfkmoinldlmaaaGreatSa15
import Derived.Test.YtjfkmoinldlmaaaGreatSa17
import Derived.Test.YtjfkmoinldlmaaaGreatSa11
import Derived.Laws.EntriesVeiled
namespace Go.Proofs.YtjfkmoinldlmaaaGreat
open Go.RowKit Go.Shelf Go.Maps

set_option maxRecDepth 100000 in
theorem law5 : Keyed Tryz.prog 5 := int_keyed Tryz.underlying5
set_option maxRecDepth 100000 in
theorem key5 (x : Nat) (h : x ≤ 255) : keyOf Tryz.prog 5 (.int .u8 (x : Nat)) = some (.int .u8 (x : Nat)) := by
  have hw : (Lit.int .u8 (x : Nat)).wf = true := WalkArith.wf_u8 ⟨by omega, by omega⟩
  unfold keyOf
  simp only [Tryz.underlying5]
  simp [Tryz.underlying5, hw, mapKey]
set_option maxRecDepth 100000 in
theorem zero24 (w : World) : (zeroValue 24).run Tryz.prog w = .ok (.slice none 0 0) w := by kernel_rfl

/-- Block b is a map of at most n entries, with p x at byte x. -/
def MapP (w : World) (b n : Nat) (p : Nat → Option Value) : Prop :=
  ∃ D : DataW Value, w.ownsMap Tryz.prog 5 asIs b n D ∧ IsMap D ∧ ∀ x : Nat, x ≤ 255 → has D (.int .u8 (x : Nat)) = (p x).isSome ∧ D.atKey (.int .u8 (x : Nat)) (.held (.slice none 0 0)) = .held ((p x).getD (.slice none 0 0))
theorem MapP.made (w : World) : MapP (w.alloc (.map #[] 0)) w.heap.size 0 fun _ => none :=
  ⟨.map [], World.ownsMap_made _ _ _ _, ⟨[], rfl⟩, fun _ _ => ⟨rfl, rfl⟩⟩
theorem MapP.kept {w w' : World} {b n : Nat} {p : Nat → Option Value} {row : Option Nat} (h : MapP w b n p) (hg : w.grownBy w' row) (hne : some b ≠ row) : MapP w' b n p := by
  obtain ⟨D, h1, h2, h3⟩ := h
  exact ⟨D, h1.kept hg hne, h2, h3⟩
theorem MapP.below {w w' : World} {b n : Nat} {p : Nat → Option Value} (h : MapP w b n p) (hb : Below w.heap.size w w') : MapP w' b n p := h.kept (grown_of_below hb none) (by simp)
theorem MapP.lt {w : World} {b n : Nat} {p : Nat → Option Value} (h : MapP w b n p) : b < w.heap.size := by
  obtain ⟨D, h1, _⟩ := h
  exact h1.lt
theorem MapP.no_cells {w : World} {b n : Nat} {p : Nat → Option Value} (h : MapP w b n p) : ∃ o : Obj, w.heap[b]? = some o ∧ o.isCells = false := by
  obtain ⟨D, ⟨es, clock, hb, _⟩, _⟩ := h
  exact ⟨_, hb, rfl⟩
set_option maxRecDepth 100000 in
/-- A look-up, run. -/
theorem MapP.look {w : World} {b n : Nat} {p : Nat → Option Value} (h : MapP w b n p) (x : Nat) (hx : x ≤ 255) : (Instr.lookup 244 (.map (some b)) (.int .u8 (x : Nat)) true).run Tryz.prog w = .ok (.tuple #[(p x).getD (.slice none 0 0), .bool (p x).isSome]) w := by
  obtain ⟨D, g1, g2, g3⟩ := h
  obtain ⟨v, ps, hrun, hv⟩ := g1.look_ok law5 Tryz.underlying244 (zero24 w) (zd := .held (.slice none 0 0)) (zp := []) rfl (key5 x hx)
  rw [(g3 x hx).2] at hv
  obtain rfl : v = (p x).getD (.slice none 0 0) := by
    unfold asIs at hv
    simp at hv
    exact hv.1
  rw [(g3 x hx).1] at hrun
  exact hrun
set_option maxRecDepth 100000 in
/-- A store, run. -/
theorem MapP.store {w : World} {b n : Nat} {p : Nat → Option Value} (h : MapP w b n p) (hn : n < maxLen) (x : Nat) (hx : x ≤ 255) (F : Value) : ∃ w', (Instr.mapUpdate 244 (.map (some b)) (.int .u8 (x : Nat)) F).run Tryz.prog w = .ok () w' ∧ MapP w' b (n + 1) (fun y => if y = x then some F else p y) ∧ w.grownBy w' (some b) := by
  obtain ⟨D, g1, g2, g3⟩ := h
  obtain ⟨w', hrun, r1, r2⟩ := g1.update law5 Tryz.underlying244 hn (key5 x hx) (d := .held F) (ps := []) rfl
  refine ⟨w', hrun, ⟨_, r1, g2.put _ _, fun y hy => ?_⟩, r2⟩
  by_cases he : y = x
  · subst he
    rw [atKey_put_same g2 (law5.key (key5 y hy)), has_put_same g2 (law5.key (key5 y hy))]
    simp
  · have hne : (Lit.int .u8 (y : Nat)) ≠ (Lit.int .u8 (x : Nat)) := fun e => he (by injection e with h1 h2; omega)
    rw [atKey_put_other hne, has_put_other hne, (g3 y hy).1, (g3 y hy).2]
    simp [he]
set_option maxRecDepth 100000 in
/-- A store, at the operation. -/
theorem wpList_putP (w : World) {ops : Array Oper} {rest : List Oper} {o : Oper} {a : Act} {Q : Exit → Act → World → Prop} (hg : o.guard = none) (m x v : Operand) (hop : o.op = Op.mapUpdate 244 m x v ∨ o.op = Op.insert 244 m x v)
    {b n : Nat} {p : Nat → Option Value} (hm : a.eval m = .map (some b)) (hM : MapP w b n p) (hn : n < maxLen) (y : Nat) (hy : y ≤ 255) (F : Value) (hx : a.eval x = .int .u8 (y : Nat)) (hv : a.eval v = F)
    (hK : ∀ w', MapP w' b (n + 1) (fun z => if z = y then some F else p z) → w.grownBy w' (some b) → wpList Tryz.prog ops Q rest (a.put o.dst undef) w') :
    wpList Tryz.prog ops Q (o :: rest) a w := by
  refine wpList_plain hg fun K' hK' => ?_
  obtain ⟨w', hrun, r1, r2⟩ := hM.store hn y hy F
  unfold Oper.wp
  rcases hop with hop | hop
  all_goals
    simp only [execOp, hop, hm, hx, hv, hrun, Result.andThen, Sem.run_bind, Sem.run_pure]
    exact hK' _ _ (hK w' r1 r2)
end Go.Proofs.YtjfkmoinldlmaaaGreat

/- Walk of the closure of split.Rare. -/
namespace Go.Proofs.YtjfkmoinldlmaaaGreat
open Go.RowKit Go.Shelf

theorem grown_trans {A B C : World} {r : Option Nat} (h : A.grownBy B r) (k : B.grownBy C r) : A.grownBy C r :=
  ⟨k.os.trans h.os, k.tape.trans h.tape, k.output.trans h.output, Nat.le_trans h.size k.size, fun i hi hn => (k.block i (Nat.lt_of_lt_of_le hi h.size) hn).trans (h.block i hi hn)⟩
theorem RowI.kept {w w' : World} {ad : Option Addr} {n m : Nat} {A : Nat → Int} {row : Option Nat} (h : RowI w ad n A m) (hg : w.grownBy w' row) (hr : ∀ r, row = some r → ∃ o : Obj, w.heap[r]? = some o ∧ o.isCells = false) : RowI w' ad n A m := by
  rcases h with h | ⟨b, o, ha, hlt, hc⟩
  · exact .inl h
  · exact .inr ⟨b, o, ha, hlt, fun j hj => cell_kept (hc j hj) hg hr⟩
/-- What stands in the map are the rows of the bytes. -/
def GoodP (w : World) (B : Nat) (rl : Nat → List Int) (p : Nat → Option Value) : Prop :=
  ∀ x v, p x = some v → ∃ ad cap, v = .slice ad (rl x).length cap ∧ RowI w ad (rl x).length (gi (rl x)) w.heap.size ∧ ∀ a, ad = some a → B ≤ a.block
theorem GoodP.kept {w w' : World} {B : Nat} {rl : Nat → List Int} {p : Nat → Option Value} {row : Option Nat} (h : GoodP w B rl p) (hg : w.grownBy w' row) (hr : ∀ r, row = some r → ∃ o : Obj, w.heap[r]? = some o ∧ o.isCells = false) : GoodP w' B rl p := fun x v hx => by
  obtain ⟨ad, cap, h1, h2, h3⟩ := h x v hx
  exact ⟨ad, cap, h1, (h2.kept hg hr).mono hg.size, h3⟩

set_option maxRecDepth 100000 in
set_option maxHeartbeats 8000000 in
theorem rare1_any (bw bm bl bk : Nat) (ad : Option Addr) (n cap : Nat) (K : Int) (L : Nat → Nat → Bool) (hn : n ≤ 1000) (ks : List (Nat → Bool)) (hks : ks.length ≤ 1000) (adk : Option Addr) (capk : Nat) (cnt : Nat) (hcnt : cnt ≤ 100000) (p : Nat → Option Value) (x : Nat) (hx : x ≤ 255) (w : World) (B : Nat) (hBw : B ≤ w.heap.size)
    (hbw : Boxed w bw 244 (.map (some bm))) (hM : MapP w bm cnt p) (hG : GoodP w B (fun b => rareTo L ks b n) p) (hl : HoldsL w bl ad n cap K) (hR : RowC w ad n L w.heap.size) (hbk : Boxed w bk 50 (.slice adk ks.length capk)) (hRk : RowC w adk ks.length (gc ks) w.heap.size) :
    Calls Tryz.prog 197 #[.int .u8 (x : Nat), .pointer (some ⟨bw, 0, none⟩), .pointer (some ⟨bl, 0, none⟩), .pointer (some ⟨bk, 0, none⟩)] w fun e w' =>
      ∃ ad' cap' cnt' p', e = .returned (.slice ad' (rareTo L ks x n).length cap') ∧ cnt' ≤ cnt + 1 ∧ RowI w' ad' (rareTo L ks x n).length (gi (rareTo L ks x n)) w'.heap.size ∧ (∀ a, ad' = some a → B ≤ a.block) ∧ MapP w' bm cnt' p' ∧ GoodP w' B (fun b => rareTo L ks b n) p' ∧ w.grownBy w' (some bm) := by
  have hlook := hM.look x hx
  have c0 := hbw.cell
  have hxI : (x : Int) ≤ 255 := by omega
  have HRL := Lib.hid fun k => rareTo_length L ks x k
  cases hp : p x with
  | some v =>
    obtain ⟨adv, capv, rfl, hrv, hBv⟩ := hG x v hp
    rw [hp] at hlook
    have HRV := Lib.hid hrv
    have HM := Lib.hid hM
    have HG := Lib.hid hG
    clear hrv hM hG hl hR hbk hRk hp hbw
    dsimp only at HRV
    simp only [Option.getD_some, Option.isSome_some] at hlook
    go_enter Tryz.func197, Tryz.ntmps197
    go_wp2_with fail
    go_ret
    exact ⟨adv, capv, cnt, p, rfl, by omega, HRV.out, hBv, HM.out, HG.out, ⟨rfl, rfl, rfl, Nat.le_refl _, fun _ _ _ => rfl⟩⟩
  | none =>
    rw [hp] at hlook
    simp only [Option.getD_none, Option.isSome_none] at hlook
    have hhas := Lib.hid fun S (b : Bool) (hb : S x = b) w' => show Calls Tryz.prog 96 #[cv S, .int .u8 (x : Nat)] w' (fun e w2 => e = .returned (.bool b) ∧ Below w'.heap.size w' w2) from by
      have h := has_any S (x : Nat) (by omega) (by omega) w'
      rw [Int.toNat_natCast, hb] at h
      exact h
    have hcon := Lib.hid fun S w' (h : RowC w' adk ks.length (gc ks) w'.heap.size) => show Calls Tryz.prog 92 #[.slice adk ks.length capk, cv S] w' (fun e w2 => e = .returned (.bool (inL S ks)) ∧ Below w'.heap.size w' w2) from by
      have h2 := contains_any adk ks.length capk (gc ks) S (by omega) w' h
      rw [inL_any S ks]
      have he : (fun j => clsEq S (gc ks j)) = fun j => clsEq (gc ks j) S := funext fun j => clsEq_comm _ _
      rw [he] at h2
      exact h2
    have HS1 : Hid (∀ k, L k x = true → inL (L k) ks = true → rareTo L ks x (k + 1) = rareTo L ks x k ++ [(k : Int)]) := Lib.hid fun k h1 h2 => by
      show (if L k x && inL (L k) ks then rareTo L ks x k ++ [(k : Int)] else rareTo L ks x k) = _
      rw [h1, h2]; rfl
    have HS2 : Hid (∀ k, (L k x && inL (L k) ks) = false → rareTo L ks x (k + 1) = rareTo L ks x k) := Lib.hid fun k h => by
      show (if L k x && inL (L k) ks then rareTo L ks x k ++ [(k : Int)] else rareTo L ks x k) = _
      rw [h]; rfl
    have HS0 : Hid (rareTo L ks x 0 = []) := Lib.hid rfl
    have HM := Lib.hid hM
    have HG := Lib.hid hG
    have HL := Lib.hid hl
    have HR := Lib.hid hR
    have HBW := Lib.hid hbw
    have HBK := Lib.hid hbk
    have HRK := Lib.hid hRk
    have hnI : (n : Int) ≤ 1000 := by omega
    obtain ⟨RT, hRT⟩ : ∃ RT : Nat → List Int, RT = rareTo L ks x := ⟨_, rfl⟩
    have HRT := Lib.hid hRT
    rw [← hRT] at HRL HS0 HS1 HS2 ⊢
    obtain ⟨l0, l1, ll⟩ := id hl
    clear hM hG hl hR hbw hbk hRk hp hRT
    go_enter Tryz.func197, Tryz.ntmps197
    go_wp2_with fail
    go_loopw [6, 21] (fun v i wr => ∃ q : Nat, q ≤ n ∧ i = .int .i64 q ∧ wr.ownsRow w.heap.size 3 1 v (RT q).length (ints (RT q)) ∧ Below w.heap.size w wr) (fun _ i _ => n - (intOf i).toNat)
    case atStart => exact ⟨0, by omega, rfl, by rw [HS0.out]; exact World.ownsRow_nil _ _ _ _, Below.refl _ _⟩
    case round =>
      obtain ⟨q, hq, rfl, ho, hb⟩ := hrel
      have HO := Lib.hid ho
      have Hb := Lib.hid hb
      have hz := hb.size
      have hlen := HRL.out q
      clear ho hb
      by_cases hlt : q < n
      · have hlti : (q : Int) < n := by omega
        have hq0 : (0 : Int) ≤ q := by omega
        obtain ⟨b, o, rfl, hbm, e0, e1, e2, e3⟩ := (HR.out.below Hb.out (Nat.le_refl _)).at hlt
        have hA : Below wr.heap.size wr (wr.alloc (.cells #[.int .u64 (wd (L q) 0 : Nat), .int .u64 (wd (L q) 1 : Nat), .int .u64 (wd (L q) 2 : Nat), .int .u64 (wd (L q) 3 : Nat)] 100)) := (Below.refl _ _).alloc (Nat.le_refl _) _
        have hCn := HoldsC.new wr (L q)
        obtain ⟨⟨d0, d1, d2, d3⟩, -, dl⟩ := id hCn
        cases h1 : L q x
        · have HC := Lib.hid (hhas.out (L q) _ h1)
          have HN := Lib.hid (HS2.out q (by rw [h1]; rfl))
          clear h1
          go_wp2_with (go_at_call 96; refine (HC.out _).mono ?_; rintro e w1 ⟨rfl, hb1⟩)
          have hr1 := hA.trans (hb1.mono hA.size)
          exact ⟨⟨q + 1, by omega, by go_num, by rw [HN.out]; exact own_below HO.out hr1, Hb.out.trans (hr1.mono hz)⟩, by simp [intOf]; omega⟩
        · have HC := Lib.hid (hhas.out (L q) _ h1)
          cases h2 : inL (L q) ks
          · have HC2 := Lib.hid fun w' h => h2 ▸ hcon.out (L q) w' h
            have HN := Lib.hid (HS2.out q (by rw [h1, h2]; rfl))
            clear h1 h2
            go_wp2_with (first | (go_at_call 96; refine (HC.out _).mono ?_; rintro e w1 ⟨rfl, hb1⟩; obtain ⟨⟨f0, f1, f2, f3⟩, -, fl⟩ := hCn.below hb1 hCn.2.2; have hr1 := hA.trans (hb1.mono hA.size); have hx1 := (Boxed.below (Boxed.below HBK.out Hb.out HBK.out.lt) hr1 (Nat.lt_of_lt_of_le HBK.out.lt hz)).cell; have hrk := Lib.hid ((((HRK.out.below Hb.out (Nat.le_refl _)).mono hz).below hr1 (Nat.le_refl _)).mono hr1.size)) | (go_at_call 92; refine (HC2.out _ hrk.out).mono ?_; rintro e w2 ⟨rfl, hb2⟩))
            have hr2 := hr1.trans (hb2.mono hr1.size)
            exact ⟨⟨q + 1, by omega, by go_num, by rw [HN.out]; exact own_below HO.out hr2, Hb.out.trans (hr2.mono hz)⟩, by simp [intOf]; omega⟩
          · have HC2 := Lib.hid fun w' h => h2 ▸ hcon.out (L q) w' h
            have HN := Lib.hid (HS1.out q h1 h2)
            clear h1 h2
            go_wp2_with (first | (go_at_call 96; refine (HC.out _).mono ?_; rintro e w1 ⟨rfl, hb1⟩; obtain ⟨⟨f0, f1, f2, f3⟩, -, fl⟩ := hCn.below hb1 hCn.2.2; have hr1 := hA.trans (hb1.mono hA.size); have hx1 := (Boxed.below (Boxed.below HBK.out Hb.out HBK.out.lt) hr1 (Nat.lt_of_lt_of_le HBK.out.lt hz)).cell; have hrk := Lib.hid ((((HRK.out.below Hb.out (Nat.le_refl _)).mono hz).below hr1 (Nat.le_refl _)).mono hr1.size)) | (go_at_call 92; refine (HC2.out _ hrk.out).mono ?_; rintro e w2 ⟨rfl, hb2⟩; have hr2 := hr1.trans (hb2.mono hr1.size); have ho2 := own_below HO.out hr2; have hz2 := Nat.le_trans hz hr2.size) | (at_builtin; refine wpList_app elem24 rfl _ _ rfl rfl ho2 [.int .i64 (q : Nat)] rfl rfl (by simp [Value.oneCell']) (by unfold maxLen; omega) (by omega) hz2 ?_; intro v3 w3 hown3 hb3))
            exact ⟨⟨q + 1, by omega, by go_num, by rw [HN.out, ints_snoc, List.length_append]; exact hown3, (Hb.out.trans (hr2.mono hz)).trans hb3⟩, by simp [intOf]; omega⟩
      · obtain rfl : q = n := by omega
        have HMr := Lib.hid (HM.out.below Hb.out)
        have c1 := (Boxed.below HBW.out Hb.out HBW.out.lt).cell
        obtain ⟨ad5, cap5, rfl⟩ := own_slice HO.out
        go_wp2_with (refine wpList_putP _ rfl _ _ _ (.inl rfl) rfl HMr.out (by unfold maxLen; omega) x hx (.slice ad5 (RT q).length cap5) rfl rfl ?_; intro w2 hM2 hg2)
        go_ret
        have hnc : ∀ r, some bm = some r → ∃ o : Obj, wr.heap[r]? = some o ∧ o.isCells = false := fun r e => by cases e; exact HMr.out.no_cells
        have hrow : RowI w2 ad5 (RT q).length (gi (RT q)) w2.heap.size := ((rowI_of_ints HO.out).kept hg2 hnc).mono hg2.size
        have hB5 : ∀ a, ad5 = some a → B ≤ a.block := fun a ha => by
          rcases HO.out.2 with ⟨h1, _⟩ | ⟨g, cp, cur, h1, hg, _⟩
          · rw [ha] at h1; cases h1
          · rw [ha] at h1; cases h1; exact Nat.le_trans hBw hg
        refine ⟨ad5, cap5, cnt + 1, _, rfl, Nat.le_refl _, hrow, hB5, hM2, ?_, grown_trans (grown_of_below Hb.out (some bm)) hg2⟩
        intro y v hy
        replace hy : (if y = x then some (Value.slice ad5 (RT q).length cap5) else p y) = some v := hy
        by_cases he : y = x
        · subst he
          rw [if_pos rfl] at hy
          cases hy
          refine ⟨ad5, cap5, ?_, ?_, hB5⟩
          · show Value.slice ad5 (RT q).length cap5 = .slice ad5 (rareTo L ks y q).length cap5
            rw [HRT.out]
          · show RowI w2 ad5 (rareTo L ks y q).length (gi (rareTo L ks y q)) w2.heap.size
            rw [← HRT.out]; exact hrow
        · rw [if_neg he] at hy
          exact ((HG.out.kept (grown_of_below Hb.out none) (fun r e => by cases e)).kept hg2 hnc) y v hy
end Go.Proofs.YtjfkmoinldlmaaaGreat

/- Walks of split.sums, split.check, split.Rare. -/
namespace Go.Proofs.YtjfkmoinldlmaaaGreat
open Go.RowKit Go.Shelf

set_option maxRecDepth 100000 in
set_option maxHeartbeats 4000000 in
theorem ssums_any (ad : Option Addr) (n cap : Nat) (K : Int) (L : Nat → Nat → Bool) (t : ByteArray) (hn : n ≤ 1000) (ht : t.size ≤ 1000) (hr : rightB n L K = true) (w : World) (hR : RowC w ad n L w.heap.size) :
    Calls Tryz.prog 196 #[lv ad n cap K, .string t] w fun e w' => e = .returned (.int .i64 (t.size + 1 - n : Nat)) ∧ Below w.heap.size w w' := by
  have h2 := Lib.hid fun w' (h : RowC w' ad n L w'.heap.size) => (show _ from hr ▸ right_any ad n cap K L (by omega) w' h)
  have hL := HoldsL.new w ad n cap K
  have hA : Below w.heap.size w (w.alloc (.cells #[.slice ad n cap, .int .i64 K] 52)) := (Below.refl _ _).alloc (Nat.le_refl _) _
  have HR1 := Lib.hid ((hR.below hA (Nat.le_refl _)).mono hA.size)
  have HA := Lib.hid hA
  obtain ⟨S, hS⟩ : ∃ S, S = t.size + 1 - n := ⟨_, rfl⟩
  rw [← hS]
  obtain ⟨D, hD⟩ : ∃ D, (t.size : Int) - n + 1 = D := ⟨_, rfl⟩
  have hmx : (if 0 < D then D else 0) = (S : Nat) := by split <;> omega
  have hD1 : -1000 ≤ D := by omega
  have hD2 : D ≤ 2000 := by omega
  have hnI : (n : Int) ≤ 1000 := by omega
  have htI : (t.size : Int) ≤ 1000 := by omega
  have HS := Lib.hid hS
  clear hS hR hA
  go_enter Tryz.func196, Tryz.ntmps196
  go_wp2_with fail
  generalize (w.alloc (.cells #[.slice ad n cap, .int .i64 K] 52)) = W1 at hL HR1 HA ⊢
  refine (h2.out _ HR1.out).mono ?_
  rintro e w2 ⟨rfl, hb2⟩
  obtain ⟨d0, d1, dl⟩ := id (hL.below hb2 hL.2.2)
  go_wp2_with fail
  go_ret
  exact ⟨by rw [HS.out]; rfl, HA.out.trans (hb2.mono HA.out.size)⟩

set_option maxRecDepth 100000 in
set_option maxHeartbeats 4000000 in
/-- split.check, where nothing is amiss. -/
theorem pcheck_ok (ad : Option Addr) (n cap : Nat) (K : Int) (L : Nat → Nat → Bool) (t : ByteArray) (size : Int) (fq : Nat) (hn : n ≤ 1000) (ht : t.size ≤ 1000) (hr : rightB n L K = true) (hp : plainB L n = true) (hsz : fq = 0 ∨ t.size < n ∨ szB n size = true) (w : World) (hR : RowC w ad n L w.heap.size) :
    Calls Tryz.prog 147 #[lv ad n cap K, .string t, .int .i64 size, .int .i64 (fq : Nat)] w fun e w' => e = .returned (.int .i64 0) ∧ Below w.heap.size w w' := by
  have h1 := Lib.hid fun w' => log_any size w'
  have h2 := Lib.hid fun w' (h : RowC w' ad n L w'.heap.size) => (show _ from hr ▸ right_any ad n cap K L (by omega) w' h)
  have h3 := Lib.hid fun w' (h : RowC w' ad n L w'.heap.size) => (show _ from hp ▸ plain_any ad n cap K L (by omega) w' h)
  have hL := HoldsL.new w ad n cap K
  have hA : Below w.heap.size w (w.alloc (.cells #[.slice ad n cap, .int .i64 K] 52)) := (Below.refl _ _).alloc (Nat.le_refl _) _
  have hR1 := Lib.hid ((hR.below hA (Nat.le_refl _)).mono hA.size)
  have hA := Lib.hid hA
  have hnI : (n : Int) ≤ 1000 := by omega
  have htI : (t.size : Int) ≤ 1000 := by omega
  clear hR
  rcases hsz with rfl | hlt | hs
  rotate_left 2
  · unfold szB at hs
    rw [Bool.and_eq_true, decide_eq_true_eq] at hs
    obtain ⟨hs1, hs2⟩ := hs
    rw [hs1] at h1
    by_cases hfq : (0 : Int) < fq
    all_goals
      by_cases hle : (n : Int) ≤ t.size
      all_goals
        clear hs1
        go_enter Tryz.func147, Tryz.ntmps147
        go_wp2_with fail
        generalize (w.alloc (.cells #[.slice ad n cap, .int .i64 K] 52)) = W1 at hL hR1 hA ⊢
        refine (h1.out _).mono ?_
        rintro e w1 ⟨rfl, hb1⟩
        obtain ⟨c0, c1, cl⟩ := id (hL.below hb1 hL.2.2)
        go_wp2_with fail
        refine (h2.out _ ((hR1.out.below hb1 (Nat.le_refl _)).mono hb1.size)).mono ?_
        rintro e w2 ⟨rfl, hb2⟩
        have hb12 := hb1.trans (hb2.mono hb1.size)
        obtain ⟨d0, d1, dl⟩ := id (hL.below hb12 hL.2.2)
        clear c0 c1 cl hb2 hb1
        go_wp2_with fail
        refine (h3.out _ ((hR1.out.below hb12 (Nat.le_refl _)).mono hb12.size)).mono ?_
        rintro e w3 ⟨rfl, hb3⟩
        have hb13 := hb12.trans (hb3.mono hb12.size)
        obtain ⟨f0, f1, fl⟩ := id (hL.below hb13 hL.2.2)
        clear d0 d1 dl hb3 hb12
        go_wp2_with fail
        go_ret
        exact ⟨rfl, hA.out.trans (hb13.mono hA.out.size)⟩
  · go_enter Tryz.func147, Tryz.ntmps147
    go_wp2_with fail
    generalize (w.alloc (.cells #[.slice ad n cap, .int .i64 K] 52)) = W1 at hL hR1 hA ⊢
    refine (h1.out _).mono ?_
    rintro e w1 ⟨rfl, hb1⟩
    obtain ⟨c0, c1, cl⟩ := id (hL.below hb1 hL.2.2)
    go_wp2_with fail
    refine (h2.out _ ((hR1.out.below hb1 (Nat.le_refl _)).mono hb1.size)).mono ?_
    rintro e w2 ⟨rfl, hb2⟩
    have hb12 := hb1.trans (hb2.mono hb1.size)
    obtain ⟨d0, d1, dl⟩ := id (hL.below hb12 hL.2.2)
    clear c0 c1 cl hb2 hb1
    go_wp2_with fail
    refine (h3.out _ ((hR1.out.below hb12 (Nat.le_refl _)).mono hb12.size)).mono ?_
    rintro e w3 ⟨rfl, hb3⟩
    have hb13 := hb12.trans (hb3.mono hb12.size)
    obtain ⟨f0, f1, fl⟩ := id (hL.below hb13 hL.2.2)
    clear d0 d1 dl hb3 hb12
    go_wp2_with fail
    go_ret
    exact ⟨rfl, hA.out.trans (hb13.mono hA.out.size)⟩
  · have hltI : ¬ (n : Int) ≤ t.size := by omega
    by_cases hfq : (0 : Int) < fq
    all_goals
      go_enter Tryz.func147, Tryz.ntmps147
      go_wp2_with fail
      generalize (w.alloc (.cells #[.slice ad n cap, .int .i64 K] 52)) = W1 at hL hR1 hA ⊢
      refine (h1.out _).mono ?_
      rintro e w1 ⟨rfl, hb1⟩
      obtain ⟨c0, c1, cl⟩ := id (hL.below hb1 hL.2.2)
      go_wp2_with fail
      refine (h2.out _ ((hR1.out.below hb1 (Nat.le_refl _)).mono hb1.size)).mono ?_
      rintro e w2 ⟨rfl, hb2⟩
      have hb12 := hb1.trans (hb2.mono hb1.size)
      obtain ⟨d0, d1, dl⟩ := id (hL.below hb12 hL.2.2)
      clear c0 c1 cl hb2 hb1
      go_wp2_with fail
      refine (h3.out _ ((hR1.out.below hb12 (Nat.le_refl _)).mono hb12.size)).mono ?_
      rintro e w3 ⟨rfl, hb3⟩
      have hb13 := hb12.trans (hb3.mono hb12.size)
      obtain ⟨f0, f1, fl⟩ := id (hL.below hb13 hL.2.2)
      clear d0 d1 dl hb3 hb12
      go_wp2_with fail
      go_ret
      exact ⟨rfl, hA.out.trans (hb13.mono hA.out.size)⟩
end Go.Proofs.YtjfkmoinldlmaaaGreat

/- Walk of split.Rare. -/
namespace Go.Proofs.YtjfkmoinldlmaaaGreat
open Go.RowKit Go.Shelf

theorem BlkI.grown {w w' : World} {g n : Nat} {x : Nat → Int} {row : Option Nat} (h : BlkI w g n x) (hg : w.grownBy w' row) (hne : some g ≠ row) : BlkI w' g n x where
  cells j hj := (World.cell?_of_block (a := ⟨g, j, none⟩) (hg.block g h.lt hne)).trans (h.cells j hj)
  free j hj := (World.frozen?_of_block (a := ⟨g, j, none⟩) (hg.block g h.lt hne)).trans (h.free j hj)
  lt := Nat.lt_of_lt_of_le h.lt hg.size
theorem HoldsL.grown {w w' : World} {B n cap : Nat} {ad : Option Addr} {K : Int} {row : Option Nat} (h : HoldsL w B ad n cap K) (hg : w.grownBy w' row) (hne : some B ≠ row) : HoldsL w' B ad n cap K :=
  ⟨(World.cell?_of_block (a := ⟨B, 0, none⟩) (hg.block B h.2.2 hne)).trans h.1, (World.cell?_of_block (a := ⟨B, 1, none⟩) (hg.block B h.2.2 hne)).trans h.2.1, Nat.lt_of_lt_of_le h.2.2 hg.size⟩
theorem grown_set (w : World) (b o : Nat) (v : Value) : w.grownBy (w.setCell ⟨b, o, none⟩ v) (some b) :=
  ⟨rfl, rfl, rfl, by simp, fun k _ hk => Below.heap_setCell _ _ _ k (fun e => hk (by rw [e]))⟩
theorem RowI.far {w : World} {ad : Option Addr} {n m : Nat} {A : Nat → Int} (h : RowI w ad n A m) {g o : Nat} (hne : ∀ a, ad = some a → a.block ≠ g) (v : Value) : RowI (w.setCell ⟨g, o, none⟩ v) ad n A m := by
  rcases h with h | ⟨b, o', ha, hlt, hc⟩
  · exact .inl h
  · exact .inr ⟨b, o', ha, hlt, fun j hj => by rw [World.cell?_setCell_other _ _ _ _ (by intro e; injection e with h1 h2; exact hne _ ha h1.symm)]; exact hc j hj⟩
theorem GoodP.far {w : World} {B : Nat} {rl : Nat → List Int} {p : Nat → Option Value} (h : GoodP w B rl p) {g o : Nat} (hg : g < B) (v : Value) : GoodP (w.setCell ⟨g, o, none⟩ v) B rl p := fun x u hx => by
  obtain ⟨ad, cap, h1, h2, h3⟩ := h x u hx
  exact ⟨ad, cap, h1, (h2.far (fun a ha => by have := h3 a ha; omega) v).mono (by simp), h3⟩

/-- What holds ahead of each byte. -/
structure RareSt (w0 w : World) (c g S bm cnt : Nat) (ad : Option Addr) (n cap : Nat) (K : Int) (adk : Option Addr) (lk capk : Nat) (x : Nat → Int) (rl : Nat → List Int) (p : Nat → Option Value) : Prop where
  blk : BlkI w g S x
  map : MapP w bm cnt p
  good : GoodP w (g + 1) rl p
  box : Boxed w (g + 2) 244 (.map (some bm))
  leaf : HoldsL w c ad n cap K
  kin : Boxed w (c + 1) 50 (.slice adk lk capk)
  bel : Below w0.heap.size w0 w
theorem RareSt.set {w0 w : World} {c g S bm cnt : Nat} {ad : Option Addr} {n cap : Nat} {K : Int} {adk : Option Addr} {lk capk : Nat} {x : Nat → Int} {rl : Nat → List Int} {p : Nat → Option Value} (h : RareSt w0 w c g S bm cnt ad n cap K adk lk capk x rl p)
    (i : Nat) (b : Int) (hgm : g < bm) (hcg : c + 1 < g) (h0 : w0.heap.size ≤ g) : RareSt w0 (w.setCell ⟨g, i, none⟩ (.int .i64 b)) c g S bm cnt ad n cap K adk lk capk (fun j => if j = i then b else x j) rl p where
  blk := h.blk.set i b
  map := h.map.kept (grown_set w g i _) (by simp; omega)
  good := h.good.far (by omega) _
  box := h.box.kept (grown_set w g i _) (by simp)
  leaf := h.leaf.grown (grown_set w g i _) (by simp; omega)
  kin := h.kin.kept (grown_set w g i _) (by simp; omega)
  bel := h.bel.setCell (p := ⟨g, i, none⟩) h0 _
theorem RareSt.congr {w0 w : World} {c g S bm cnt : Nat} {ad : Option Addr} {n cap : Nat} {K : Int} {adk : Option Addr} {lk capk : Nat} {x y : Nat → Int} {rl : Nat → List Int} {p : Nat → Option Value} (h : RareSt w0 w c g S bm cnt ad n cap K adk lk capk x rl p) (he : ∀ j, j < S → x j = y j) : RareSt w0 w c g S bm cnt ad n cap K adk lk capk y rl p :=
  ⟨h.blk.congr he, h.map, h.good, h.box, h.leaf, h.kin, h.bel⟩

set_option maxRecDepth 100000 in
set_option maxHeartbeats 8000000 in
theorem rare_row (ad : Option Addr) (n cap : Nat) (K : Int) (L : Nat → Nat → Bool) (t : ByteArray) (ks : List (Nat → Bool)) (hks : ks.length ≤ 1000) (adk : Option Addr) (capk : Nat) (hn : n ≤ 1000) (ht : t.size ≤ 1000) (hr : rightB n L K = true) (w : World) (hR : RowC w ad n L w.heap.size) (hRk : RowC w adk ks.length (gc ks) w.heap.size) :
    Calls Tryz.prog 148 #[lv ad n cap K, .string t, .slice adk ks.length capk] w fun e w' => ∃ g, e = .returned (.slice (some ⟨g, 0, none⟩) (t.size + 1 - n : Nat) (t.size + 1 - n : Nat)) ∧ w.heap.size ≤ g ∧ BlkI w' g (t.size + 1 - n) (fun k => (rareN t L ks n t.size k : Nat)) ∧ Below w.heap.size w w' := by
  have h1 := Lib.hid fun w' (h : RowC w' ad n L w'.heap.size) => ssums_any ad n cap K L t hn ht hr w' h
  have hcl := Lib.hid fun bw bm bl bk cnt hcnt p x hx w' B hB a1 a2 a3 a4 a5 a6 a7 => rare1_any bw bm bl bk ad n cap K L hn ks hks adk capk cnt hcnt p x hx w' B hB a1 a2 a3 a4 a5 a6 a7
  have hQ0 := Lib.hid fun i k => rareQ_zero t L ks n i k
  have hQa := Lib.hid fun i k => rareQ_all t L ks n i k
  have hQs := Lib.hid fun i q k j h1 h2 => rareQ_step t L ks n i q k j h1 h2
  have hRl := Lib.hid fun b => rareTo_length L ks b n
  have hRm := Lib.hid fun b x => rareTo_mem L ks b n x
  have hN0 : Hid (∀ k, rareN t L ks n 0 k = 0) := Lib.hid fun k => rfl
  have hNl : Hid (∀ i k, rareN t L ks n i k ≤ i) := Lib.hid fun i k => cntN_le _ _
  have hQl : Hid (∀ i q k, rareQ t L ks n i q k ≤ i + 1) := Lib.hid fun i q k => by
    have h1 : rareN t L ks n i k ≤ i := cntN_le _ _
    unfold rareQ bit; split <;> omega
  generalize rareQ t L ks n = RQ at *
  generalize rareN t L ks n = RN at *
  obtain ⟨S, hS⟩ : ∃ S, S = t.size + 1 - n := ⟨_, rfl⟩
  rw [← hS] at h1 ⊢
  have hS1 : S ≤ 1001 := by omega
  have hSI : (S : Int) ≤ 1001 := by omega
  have HS := Lib.hid hS
  have hmk := fun w' => makeI S (by omega) w'
  have htI : (t.size : Int) ≤ 1000 := by omega
  have hL := HoldsL.new w ad n cap K
  have hX := Boxed.new (w.alloc (.cells #[.slice ad n cap, .int .i64 K] 52)) 50 (.slice adk ks.length capk)
  have hA1 := (Below.refl (w.heap.size + 1) (w.alloc (.cells #[.slice ad n cap, .int .i64 K] 52))).alloc (by simp) (.cells #[.slice adk ks.length capk] 50)
  have hL2 := hL.below hA1 (Nat.lt_succ_self _)
  rw [World.size_alloc] at hX
  have hA : Below w.heap.size w ((w.alloc (.cells #[.slice ad n cap, .int .i64 K] 52)).alloc (.cells #[.slice adk ks.length capk] 50)) := ((Below.refl _ _).alloc (Nat.le_refl _) _).alloc (by simp) _
  have hs2 : ((w.alloc (.cells #[.slice ad n cap, .int .i64 K] 52)).alloc (.cells #[.slice adk ks.length capk] 50)).heap.size = w.heap.size + 2 := by simp
  have HS2 := Lib.hid hs2
  have HX := Lib.hid hX
  have HL2 := Lib.hid hL2
  have HA := Lib.hid hA
  have HR := Lib.hid hR
  have HRk := Lib.hid hRk
  obtain ⟨c0, c1, cl⟩ := id hL2
  clear hR hRk hS hL hX hA1 hL2 hA hs2
  go_enter Tryz.func148, Tryz.ntmps148
  go_wp2_with fail
  generalize ((w.alloc (.cells #[.slice ad n cap, .int .i64 K] 52)).alloc (.cells #[.slice adk ks.length capk] 50)) = W0 at HS2 HX HL2 HA c0 c1 cl ⊢
  refine (h1.out _ ((HR.out.below HA.out (Nat.le_refl _)).mono HA.out.size)).mono ?_
  rintro e w1 ⟨rfl, hb1⟩
  have hz1 := hb1.size
  have hz0 := HS2.out
  have hcg : w.heap.size + 2 ≤ w1.heap.size := by omega
  have HL1 := Lib.hid (HL2.out.below hb1 cl)
  have HX1 := Lib.hid (Boxed.below HX.out hb1 HX.out.lt)
  have HB1 := Lib.hid (HA.out.trans (hb1.mono HA.out.size))
  clear hb1 hz1 hz0 c0 c1 cl HL2 HX HA HS2
  have hblk := BlkI.new w1 S
  have hmap := MapP.made (w1.alloc (.cells (madeCells #[.int .i64 0] S) 3))
  have hbox := Boxed.new ((w1.alloc (.cells (madeCells #[.int .i64 0] S) 3)).alloc (.map #[] 0)) 244 (.map (some (w1.heap.size + 1)))
  simp only [World.size_alloc] at hmap hbox
  have hbel : Below w1.heap.size w1 (((w1.alloc (.cells (madeCells #[.int .i64 0] S) 3)).alloc (.map #[] 0)).alloc (.cells #[.map (some (w1.heap.size + 1))] 244)) := (((Below.refl _ _).alloc (Nat.le_refl _) _).alloc (by simp) _).alloc (by simp; omega) _
  have hmm := @run_makeMap Tryz.prog
  have hst : Hid (RareSt w (((w1.alloc (.cells (madeCells #[.int .i64 0] S) 3)).alloc (.map #[] 0)).alloc (.cells #[.map (some (w1.heap.size + 1))] 244)) w.heap.size w1.heap.size S (w1.heap.size + 1) 0 ad n cap K adk ks.length capk (fun k => (RN 0 k : Nat)) (fun b => rareTo L ks b n) fun _ => none) := Lib.hid
    { blk := ((hblk.grown (World.grownBy_alloc _ _ none) (by simp)).grown (World.grownBy_alloc _ _ none) (by simp)).congr fun j _ => by rw [hN0.out]; rfl
      map := hmap.kept (World.grownBy_alloc _ _ none) (by simp)
      good := fun x v hx => by cases hx
      box := hbox
      leaf := HL1.out.below hbel (by omega)
      kin := Boxed.below HX1.out hbel (by omega)
      bel := HB1.out.trans (hbel.mono (by omega)) }
  clear hblk hmap hbox hbel
  go_wp2_with fail
  generalize (((w1.alloc (.cells (madeCells #[.int .i64 0] S) 3)).alloc (.map #[] 0)).alloc (.cells #[.map (some (w1.heap.size + 1))] 244)) = W3 at hst ⊢
  generalize w1.heap.size = g at *
  have HNr : Hid (∀ k b, k < (rareTo L ks b n).length → ∃ j : Nat, j < n ∧ gi (rareTo L ks b n) k = (j : Int)) := Lib.hid fun k b hk => by
    have hm : (rareTo L ks b n)[k] ∈ rareTo L ks b n := List.getElem_mem hk
    obtain ⟨j, hj, hjn, -⟩ := (hRm.out b _).1 hm
    exact ⟨j, hjn, by rw [← hj]; simp [gi, hk]⟩
  clear HL1 HX1 HB1 hmk hRm
  go_loopw [21] (fun v wr => ∃ (i cnt : Nat) (p : Nat → Option Value), i ≤ t.size ∧ v = .int .i64 i ∧ cnt ≤ i ∧ RareSt w wr w.heap.size g S (g + 1) cnt ad n cap K adk ks.length capk (fun k => (RN i k : Nat)) (fun b => rareTo L ks b n) p) (fun v _ => t.size - (intOf v).toNat)
  case atStart => exact ⟨0, 0, _, by omega, rfl, Nat.le_refl _, hst.out⟩
  case round =>
    obtain ⟨i, cnt, p, hi, rfl, hcn, hst1⟩ := hrel
    have HST := Lib.hid hst1
    clear hst1
    by_cases hlt : i < t.size
    · have hlti : (i : Int) < t.size := by omega
      have hi0 : (0 : Int) ≤ i := by omega
      have htb := Lib.hid (tb_eq t i hlt)
      have hb255 := tb_le t i
      obtain ⟨x, hx⟩ : ∃ x, x = tb t i := ⟨_, rfl⟩
      have hbyte : Hid ((t[i].toNat : Nat) = x) := Lib.hid (by rw [htb.out, hx])
      have hbI : ((t[i].toNat : Nat) : Int) = (x : Nat) := by rw [hbyte.out]
      rw [← hx] at hb255
      have hgl := HST.out.blk.lt
      have hcall := hcl.out (g + 2) (g + 1) w.heap.size (w.heap.size + 1) cnt (by omega) p x hb255 wr (g + 1) (by omega) HST.out.box HST.out.map HST.out.good HST.out.leaf ((HR.out.below HST.out.bel (Nat.le_refl _)).mono HST.out.bel.size) HST.out.kin ((HRk.out.below HST.out.bel (Nat.le_refl _)).mono HST.out.bel.size)
      have HC := Lib.hid hcall
      have hRLl := hRl.out x
      have HQS := Lib.hid fun q k j => hx ▸ hQs.out i q k j
      have HQA := Lib.hid (hx ▸ hQa.out i)
      have HX := Lib.hid hx
      clear hcall htb hx
      generalize hRL : rareTo L ks x n = RL at *
      have HNX : Hid (∀ k, k < RL.length → ∃ j : Nat, j < n ∧ gi RL k = (j : Int)) := Lib.hid fun k hk => by
        have := HNr.out k x (by rw [hRL]; exact hk)
        rwa [hRL] at this
      clear hRL
      go_wp2_with (go_at_call 197; refine HC.out.mono ?_; rintro e w2 ⟨ad5, cap5, cnt5, p5, rfl, hc5, hrow5, hB5, hM5, hG5, hg5⟩)
      have HROW := Lib.hid hrow5
      have HB5 := Lib.hid hB5
      have hbelg : Below w.heap.size w w2 := HST.out.bel.trans (grown_below hg5 HST.out.bel.size (fun k hk => by cases hk; omega))
      have hst2 : Hid (RareSt w w2 w.heap.size g S (g + 1) cnt5 ad n cap K adk ks.length capk (fun k => (RQ i 0 k : Nat)) (fun b => rareTo L ks b n) p5) := Lib.hid
        { blk := (HST.out.blk.grown hg5 (by simp)).congr fun j _ => by rw [hQ0.out]
          map := hM5
          good := hG5
          box := HST.out.box.kept hg5 (by simp)
          leaf := HST.out.leaf.grown hg5 (by simp; omega)
          kin := HST.out.kin.kept hg5 (by simp; omega)
          bel := hbelg }
      clear hrow5 hB5 hM5 hG5 hg5 hbelg HC
      go_loopw [30] (fun v wr => ∃ q : Nat, q ≤ RL.length ∧ v = .int .i64 q ∧ RareSt w wr w.heap.size g S (g + 1) cnt5 ad n cap K adk ks.length capk (fun k => (RQ i q k : Nat)) (fun b => rareTo L ks b n) p5 ∧ RowI wr ad5 RL.length (gi RL) wr.heap.size) (fun v _ => RL.length - (intOf v).toNat)
      case atStart => exact ⟨0, by omega, rfl, hst2.out, HROW.out⟩
      case round =>
        obtain ⟨q, hq, rfl, hst3, hrow⟩ := hrel
        have HST3 := Lib.hid hst3
        have HROW3 := Lib.hid hrow
        clear hst3 hrow
        by_cases hlq : q < RL.length
        · have hlqi : (q : Int) < RL.length := by omega
          have hq0 : (0 : Int) ≤ q := by omega
          obtain ⟨b5, o5, rfl, hb5, e0⟩ := HROW3.out.at hlq
          obtain ⟨j, hjn, hjv⟩ := HNX.out q hlq
          rw [hjv] at e0
          have hj0 : (0 : Int) ≤ j := by omega
          have hjI : (j : Int) ≤ 1000 := by omega
          have HSTEP := Lib.hid fun k => HQS.out q k j hlq hjv
          have hgl3 := HST3.out.blk.lt
          by_cases hji : j ≤ i
          · obtain ⟨m, hm⟩ : ∃ m, m = i - j := ⟨_, rfl⟩
            have hmI : (i : Int) - j = (m : Nat) := by omega
            have hjiI : (j : Int) ≤ i := by omega
            by_cases hmS : m < S
            · have hmSI : (m : Int) < S := by omega
              have d1 := HST3.out.blk.cells m hmS
              have f1 := HST3.out.blk.free m hmS
              have hql := hQl.out i q m
              obtain ⟨r, hr⟩ : ∃ r, r = RQ i q m := ⟨_, rfl⟩
              rw [← hr] at d1 hql
              have hrI : (r : Int) ≤ 1001 := by omega
              have HRr := Lib.hid hr
              have HMm := Lib.hid hm
              clear hjv hr hm
              go_wp2_with fail
              go_roundw
              case rel =>
                refine ⟨q + 1, by omega, by go_num, (HST3.out.set m (r + 1) (by omega) (by omega) (by omega)).congr fun k hk => ?_, (HROW3.out.far (fun a ha => by have := HB5.out a ha; omega) _).mono (by simp)⟩
                rw [HSTEP.out k]
                have h1 := HRr.out
                have h2 := HMm.out
                by_cases he : k = m
                · subst he
                  rw [if_pos rfl, decide_eq_true hji, decide_eq_true h2, ← h1]
                  rfl
                · rw [if_neg he, decide_eq_false (show ¬ k = i - j by omega), Bool.and_false]
                  rfl
              case measure => simp [intOf]; omega
            · have hmSI : ¬ (m : Int) < S := by omega
              have HMm := Lib.hid hm
              clear hjv hm
              go_wp2_with fail
              go_roundw
              case rel =>
                refine ⟨q + 1, by omega, by go_num, HST3.out.congr fun k hk => ?_, HROW3.out⟩
                have h2 := HMm.out
                rw [HSTEP.out k, decide_eq_false (show ¬ k = i - j by omega), Bool.and_false]
                rfl
              case measure => simp [intOf]; omega
          · have hjiI : ¬ (j : Int) ≤ i := by omega
            clear hjv
            go_wp2_with fail
            go_roundw
            case rel =>
              refine ⟨q + 1, by omega, by go_num, HST3.out.congr fun k hk => ?_, HROW3.out⟩
              rw [HSTEP.out k, decide_eq_false hji, Bool.false_and]
              rfl
            case measure => simp [intOf]; omega
        · obtain rfl : q = RL.length := by omega
          go_wp2_with fail
          go_roundw
          case rel => exact ⟨i + 1, cnt5, p5, by omega, by go_num, by omega, HST3.out.congr fun k _ => by rw [HQA.out k]⟩
          case measure => simp [intOf]; omega
    · obtain rfl : i = t.size := by omega
      go_wp2_with fail
      go_ret
      exact ⟨g, rfl, by omega, HST.out.blk, HST.out.bel⟩
end Go.Proofs.YtjfkmoinldlmaaaGreat

/- Walks of split.Counts and split.Find. -/
namespace Go.Proofs.YtjfkmoinldlmaaaGreat
open Go.RowKit Go.Shelf

set_option maxRecDepth 100000 in
set_option maxHeartbeats 8000000 in
theorem pcounts_any (ad : Option Addr) (n cap : Nat) (K least : Int) (L : Nat → Nat → Bool) (t : ByteArray) (size : Int) (hn1 : 1 ≤ n) (hn : n ≤ 64) (ht : t.size ≤ 1000) (hr : rightB n L K = true) (hp : plainB L n = true) (hsz : ((kindsTo L n).filter (frqB L n least)).length = 0 ∨ t.size < n ∨ szB n size = true) (w : World) (hR : RowC w ad n L w.heap.size) :
    Calls Tryz.prog 90 #[lv ad n cap K, .string t, .int .i64 size, .int .i64 least] w fun e w' => ∃ g z, e = .returned (.tuple #[.slice (some ⟨g, 0, none⟩) (t.size + 1 - n : Nat) (t.size + 1 - n : Nat), .int .i64 z, .int .i64 0]) ∧ w.heap.size ≤ g ∧ BlkI w' g (t.size + 1 - n) (fun i => (mis t L i n : Nat)) ∧ Below w.heap.size w w' := by
  have hpa := Lib.hid fun w' h => parts_split ad n cap K least L (by omega) w' h
  have hck := Lib.hid fun w' (h : RowC w' ad n L w'.heap.size) => pcheck_ok ad n cap K L t size ((kindsTo L n).filter (frqB L n least)).length (by omega) ht hr hp hsz w' h
  have hbd := Lib.hid fun w' (h : RowC w' ad n L w'.heap.size) => bound_any ad n cap K L (by omega) w' h
  have hkl := kindsTo_length L n
  have hF1l : ((kindsTo L n).filter (frqB L n least)).length ≤ 64 := Nat.le_trans (List.length_filter_le _ _) (by omega)
  have hF2l : ((kindsTo L n).filter fun S => !frqB L n least S).length ≤ 64 := Nat.le_trans (List.length_filter_le _ _) (by omega)
  have HLAW := Lib.hid fun i hi => split_law t L n i (frqB L n least) hi
  have hrr := Lib.hid fun adk capk w' h1 h2 => rare_row ad n cap K L t ((kindsTo L n).filter fun S => !frqB L n least S) (by omega) adk capk (by omega) ht hr w' h1 h2
  have hRNl : Hid (∀ k, rareN t L ((kindsTo L n).filter fun S => !frqB L n least S) n t.size k ≤ 1000) := Lib.hid fun k => Nat.le_trans (cntN_le _ _) ht
  have hsz2 : ((kindsTo L n).filter (frqB L n least)).length ≠ 0 → t.size < n ∨ szB n size = true := fun h => hsz.resolve_left h
  have HSZ := Lib.hid hsz2
  clear hsz hsz2
  generalize (kindsTo L n).filter (frqB L n least) = F1 at *
  generalize ((kindsTo L n).filter fun S => !frqB L n least S) = F2 at *
  generalize rareN t L F2 n t.size = RN at *
  have hpl := Lib.hid fun c w' (h : RowC w' ad n L w'.heap.size) => puts_any ad n cap K L c (by omega) w' h
  have hmk := Lib.hid fun c w' => marks_any t (by omega) c w'
  have hco := Lib.hid fun (hs : t.size < n ∨ szB n size = true) (ap at' : Option Addr) c w' (h1 : RowU w' ap n (fun j => bit (clsEq (L j) c)) w'.heap.size) (h2 : RowU w' at' t.size (fun i => bit (c (tb t i))) w'.heap.size) => corr_small ap at' n t.size n t.size (fun j => bit (clsEq (L j) c)) (fun i => bit (c (tb t i))) size hn1 (by omega) (by omega) (Nat.le_refl _) (fun j _ => bit_le _) (fun j _ => bit_le _) hs w' h1 h2
  obtain ⟨S, hS⟩ : ∃ S, S = t.size + 1 - n := ⟨_, rfl⟩
  rw [← hS] at hrr hco ⊢
  have hS1 : S ≤ 1001 := by omega
  have hSI : (S : Int) ≤ 1001 := by omega
  have HLAW2 : Hid (∀ i, i < S → ((boundN L n : Nat) : Int) - ((RN i : Nat) + (accH t L n F1 i : Nat)) = (mis t L i n : Nat)) := Lib.hid fun i hi => HLAW.out i (by omega)
  have hbn : boundN L n ≤ n := by have := bound_where L n; omega
  have hbnI : (boundN L n : Int) ≤ 64 := by omega
  have HACC : Hid (∀ q j, q ≤ F1.length → accH t L n (F1.take q) j ≤ 4096) := Lib.hid fun q j hq => by
    have h1 := accH_le t L n (F1.take q) j
    have h2 : (F1.take q).length ≤ 64 := Nat.le_trans (List.length_take_le _ _) (by omega)
    have := Nat.mul_le_mul h2 hn
    omega
  have HASC : Hid (∀ q j, q < F1.length → accH t L n (F1.take (q + 1)) j = accH t L n (F1.take q) j + hitC t L n (gc F1 q) j) := Lib.hid fun q j hq => by
    rw [List.take_succ_eq_append_getElem hq, accH_snoc]
    have : gc F1 q = F1[q] := by simp [gc, hq]
    rw [this]
  have HHL : Hid (∀ c j, hitC t L n c j ≤ 64) := Lib.hid fun c j => by have := hitC_le t L n c j; omega
  have htI : (t.size : Int) ≤ 1000 := by omega
  have hnI : (n : Int) ≤ 64 := by omega
  have hF1I : (F1.length : Int) ≤ 64 := by omega
  have hL := HoldsL.new w ad n cap K
  have hA : Below w.heap.size w (w.alloc (.cells #[.slice ad n cap, .int .i64 K] 52)) := (Below.refl _ _).alloc (Nat.le_refl _) _
  have HR0 := Lib.hid hR
  have HL0 := Lib.hid hL
  have HA := Lib.hid hA
  have HS := Lib.hid hS
  obtain ⟨c0, c1, cl⟩ := id hL
  clear hR hL hA hS HLAW hkl
  go_enter Tryz.func90, Tryz.ntmps90
  go_wp2_with fail
  generalize (w.alloc (.cells #[.slice ad n cap, .int .i64 K] 52)) = W0 at HL0 HA c0 c1 cl ⊢
  refine (hpa.out _ ((HR0.out.below HA.out (Nat.le_refl _)).mono HA.out.size)).mono ?_
  rintro e w1 ⟨adF, capF, adG, capG, rfl, hrF, hrG, hb1⟩
  have HF1 := Lib.hid hrF
  have HG1 := Lib.hid hrG
  have H1 := Lib.hid (HA.out.trans (hb1.mono HA.out.size))
  have HL1 := Lib.hid (HL0.out.below hb1 cl)
  clear c0 c1 cl hb1 hrF hrG HL0 HA
  obtain ⟨c0, c1, cl⟩ := id HL1.out
  go_wp2_with fail
  refine (hck.out _ ((HR0.out.below H1.out (Nat.le_refl _)).mono H1.out.size)).mono ?_
  rintro e w2 ⟨rfl, hb2⟩
  have HF2 := Lib.hid ((HF1.out.below hb2 (Nat.le_refl _)).mono hb2.size)
  have HG2 := Lib.hid ((HG1.out.below hb2 (Nat.le_refl _)).mono hb2.size)
  have H2 := Lib.hid (H1.out.trans (hb2.mono H1.out.size))
  have HL2 := Lib.hid (HL1.out.below hb2 cl)
  clear c0 c1 cl hb2 HF1 HG1 H1 HL1
  obtain ⟨c0, c1, cl⟩ := id HL2.out
  go_wp2_with fail
  refine (hrr.out _ _ _ ((HR0.out.below H2.out (Nat.le_refl _)).mono H2.out.size) HG2.out).mono ?_
  rintro e w3 ⟨g, rfl, hg, hB3, hb3⟩
  have HB3 := Lib.hid hB3
  have Hb3 := Lib.hid hb3
  have hw2 := H2.out.size
  have hz3 := hb3.size
  clear c0 c1 hB3 hb3 HG2
  go_wp2_with fail
  go_loopw [15, 45] (fun z i wr => ∃ (q : Nat) (zi : Int), q ≤ F1.length ∧ i = .int .i64 q ∧ z = .int .i64 zi ∧ BlkI wr g S (fun k => ((RN k + accH t L n (F1.take q) k : Nat) : Int)) ∧ Below w2.heap.size w2 wr) (fun _ i _ => F1.length - (intOf i).toNat)
  case atStart => exact ⟨0, 0, by omega, rfl, rfl, HB3.out.congr fun j _ => by simp [accH], Hb3.out⟩
  case round =>
    obtain ⟨q, zi, hq, rfl, rfl, hB, hb⟩ := hrel
    obtain ⟨wx, rfl⟩ : ∃ wx, wx = wr := ⟨wr, rfl⟩
    have HB := Lib.hid hB
    have Hb := Lib.hid hb
    have hzx := hb.size
    clear hB hb
    by_cases hlt : q < F1.length
    · have hlti : (q : Int) < F1.length := by omega
      have hq0 : (0 : Int) ≤ q := by omega
      have hs := HSZ.out (by omega)
      obtain ⟨d0, d1, dl⟩ := id (HL2.out.below Hb.out cl)
      obtain ⟨b, o, rfl, hbm, e0, e1, e2, e3⟩ := (HF2.out.below Hb.out (Nat.le_refl _)).at hlt
      have HAq := Lib.hid fun j => HASC.out q j hlt
      obtain ⟨c, hc⟩ : ∃ c, c = gc F1 q := ⟨_, rfl⟩
      rw [← hc] at e0 e1 e2 e3 HAq
      have hA : Below wx.heap.size wx (wx.alloc (.cells #[.int .u64 (wd c 0 : Nat), .int .u64 (wd c 1 : Nat), .int .u64 (wd c 2 : Nat), .int .u64 (wd c 3 : Nat)] 100)) := (Below.refl _ _).alloc (Nat.le_refl _) _
      have hC := HoldsC.new wx c
      obtain ⟨⟨f0, f1, f2, f3⟩, -, fl⟩ := hC
      obtain ⟨p0, p1, pl⟩ := id ((HL2.out.below Hb.out cl).below hA dl)
      have HRa := Lib.hid ((HR0.out.below (H2.out.trans ((Hb.out.trans (hA.mono hzx)).mono hw2)) (Nat.le_refl _)).mono (H2.out.trans ((Hb.out.trans (hA.mono hzx)).mono hw2)).size)
      have HAa := Lib.hid hA
      have hbx : b < wx.heap.size := by omega
      clear hc hA d0 d1 dl
      go_wp2_with fail
      generalize (wx.alloc (.cells #[.int .u64 (wd c 0 : Nat), .int .u64 (wd c 1 : Nat), .int .u64 (wd c 2 : Nat), .int .u64 (wd c 3 : Nat)] 100)) = wA at f0 f1 f2 f3 fl p0 p1 pl HRa HAa ⊢
      go_region_held3 (fun w' => Old wA w') (first | with_reducible exact Old.start _ | with_reducible exact Old.calld (Old.refl _) (by with_reducible assumption) | with_reducible exact Old.call (by with_reducible assumption) (by with_reducible assumption)) (first | (go_at_call 149; refine (hpl.out _ _ ((HRa.out.below (show Old wA _ by with_reducible assumption).2.2.2 (Nat.le_refl _)).mono (show Old wA _ by with_reducible assumption).2.2.1)).mono ?_; rintro e wP ⟨gP, rfl, hgP, hkP, hbP⟩) | (go_at_call 51; refine (hmk.out _ _).mono ?_; rintro e wM ⟨gM, rfl, hgM, hkM, hbM⟩) | (go_at_call 13; refine (hco.out hs _ _ c _ (hkP.below hbM hkP.lt).row hkM.row).mono ?_; rintro e wC ⟨vC, zC, rfl, hoC, hbC⟩; obtain ⟨adC, capC, rfl⟩ := own_slice hoC))
      have hAC : Below wA.heap.size wA wC := (show Old wA wC by with_reducible assumption).2.2.2
      have hRC : Below wx.heap.size wx wC := HAa.out.trans (hAC.mono HAa.out.size)
      have hgx := HB.out.lt
      have HBC := Lib.hid (HB.out.below hRC hgx)
      have hzM : wx.heap.size ≤ wM.heap.size := by
        have h1 := hbM.size; have h2 := hbP.size; have h3 := HAa.out.size
        simp only [World.drew] at *
        omega
      have HOC := Lib.hid (own_le hoC hzM)
      have HbC := Lib.hid (Hb.out.trans (hRC.mono hzx))
      clear hAC hRC hoC hzM hkP hkM hbP hbM hbC hgP hgM
      have hHc := HHL.out c
      have HHc : Hid (∀ j, hitC t L n c j ≤ 64) := Lib.hid hHc
      have HAl := Lib.hid fun j => HACC.out q j (by omega)
      have HHC : Hid (wC.ownsRow wx.heap.size 46 1 (.slice adC S capC) S (wordCells (hitC t L n c) S)) := HOC
      clear hHc HOC
      generalize hitC t L n c = H at *
      generalize accH t L n (F1.take q) = A at *
      go_wp2_with fail
      go_loopw [66] (fun i wr => ∃ q2 : Nat, q2 ≤ S ∧ i = .int .i64 q2 ∧ BlkI wr g S (fun j => ((RN j + A j + (if j < q2 then H j else 0) : Nat) : Int)) ∧ RowU wr adC S H wr.heap.size ∧ Below w2.heap.size w2 wr) (fun i _ => S - (intOf i).toNat)
      case atStart => exact ⟨0, by omega, rfl, HBC.out.congr fun j _ => by rw [if_neg (by omega), Nat.add_zero], rowU_of_own HHC.out, HbC.out⟩
      case round =>
        obtain ⟨q2, hq2, rfl, hB2, hrow2, hb2⟩ := hrel
        have HB2 := Lib.hid hB2
        have HRW2 := Lib.hid hrow2
        have Hb2 := Lib.hid hb2
        clear hB2 hrow2 hb2
        by_cases hlt2 : q2 < S
        · have hlt2i : (q2 : Int) < S := by omega
          have hq20 : (0 : Int) ≤ q2 := by omega
          have hne : ∀ a, adC = some a → wx.heap.size ≤ a.block := fun a ha => by
            rcases HHC.out.2 with ⟨h1, _⟩ | ⟨g', cp, cur, h1, hg', _⟩
            · rw [ha] at h1; cases h1
            · rw [ha] at h1; cases h1; exact hg'
          obtain ⟨b5, o5, rfl, hb5, x1⟩ := HRW2.out.at hlt2
          have hb5g : wx.heap.size ≤ b5 := hne _ rfl
          have y1 := HB2.out.cells q2 hlt2
          have y2 := HB2.out.free q2 hlt2
          have y3 := HB2.out.lt
          rw [if_neg (by omega), Nat.add_zero] at y1
          have a1 := HAl.out q2
          have a2 := HHc.out q2
          have a3 := hRNl.out q2
          obtain ⟨av, hav⟩ : ∃ av : Nat, av = RN q2 + A q2 := ⟨_, rfl⟩
          obtain ⟨hv, hhv⟩ : ∃ hv : Nat, hv = H q2 := ⟨_, rfl⟩
          rw [← hav] at y1
          rw [← hhv] at x1
          have avI : (av : Int) ≤ 6000 := by omega
          have hvI : (hv : Int) ≤ 64 := by omega
          have HAV := Lib.hid hav
          have HHV := Lib.hid hhv
          clear hav hhv hne
          go_wp2_with fail
          go_roundw
          case rel =>
            refine ⟨q2 + 1, by omega, by go_num, (HB2.out.set q2 (av + hv)).congr fun k hk => ?_, ?_, Hb2.out.setCell (p := ⟨g, q2, none⟩) hg _⟩
            · have h1 := HAV.out
              have h2 := HHV.out
              by_cases he : k = q2
              · subst he
                rw [if_pos rfl, if_pos (by omega)]; omega
              · rw [if_neg he]
                by_cases h3 : k < q2
                · rw [if_pos h3, if_pos (by omega)]
                · rw [if_neg h3, if_neg (by omega)]
            · rcases HRW2.out with h0 | ⟨b6, o6, h6, hl6, hc6⟩
              · exact .inl h0
              · cases h6
                exact .inr ⟨_, _, rfl, by simpa using hl6, fun j hj => by rw [World.cell?_setCell_other _ _ _ _ (by intro e; injection e with h1 h2; omega)]; exact hc6 j hj⟩
          case measure => simp [intOf]; omega
        · obtain rfl : q2 = S := by omega
          go_wp2_with fail
          go_roundw
          case rel => exact ⟨q + 1, _, by omega, by go_num, rfl, HB2.out.congr fun k hk => by rw [if_pos hk, HAq.out k, Nat.add_assoc], Hb2.out⟩
          case measure => simp [intOf]; omega
    · obtain rfl : q = F1.length := by omega
      go_wp2_with fail
      go_loopw [83] (fun i wr => ∃ q2 : Nat, q2 ≤ S ∧ i = .int .i64 q2 ∧ BlkI wr g S (fun j => if j < q2 then ((mis t L j n : Nat) : Int) else ((RN j + accH t L n F1 j : Nat) : Int)) ∧ Below w2.heap.size w2 wr) (fun i _ => S - (intOf i).toNat)
      case atStart => exact ⟨0, by omega, rfl, HB.out.congr fun j _ => by rw [if_neg (by omega), List.take_length], Hb.out⟩
      case round =>
        obtain ⟨q2, hq2, rfl, hB2, hb2⟩ := hrel
        have HB2 := Lib.hid hB2
        have Hb2 := Lib.hid hb2
        clear hB2 hb2
        by_cases hlt2 : q2 < S
        · have hlt2i : (q2 : Int) < S := by omega
          have hq20 : (0 : Int) ≤ q2 := by omega
          obtain ⟨a0, a1, al⟩ := id (HL2.out.below Hb2.out cl)
          have y1 := HB2.out.cells q2 hlt2
          have y2 := HB2.out.free q2 hlt2
          have hgl := HB2.out.lt
          rw [if_neg (by omega)] at y1
          have hlw := HLAW2.out q2 hlt2
          have hrl := hRNl.out q2
          have hal := HACC.out F1.length q2 (Nat.le_refl _)
          rw [List.take_length] at hal
          have hmi : mis t L q2 n ≤ n := mis_le t L q2 n
          obtain ⟨av, hav⟩ : ∃ av : Nat, av = RN q2 + accH t L n F1 q2 := ⟨_, rfl⟩
          obtain ⟨mv, hmv⟩ : ∃ mv : Nat, mv = mis t L q2 n := ⟨_, rfl⟩
          rw [← hav] at y1
          have havm : (boundN L n : Int) - av = mv := by omega
          have havI : (av : Int) ≤ 6000 := by omega
          have hmvI : (mv : Int) ≤ 64 := by omega
          have HMV := Lib.hid hmv
          have HRr : Hid (RowC wr.drew ad n L wr.drew.heap.size) := Lib.hid ((HR0.out.below (H2.out.trans (Hb2.out.drew.mono hw2)) (Nat.le_refl _)).mono (H2.out.trans (Hb2.out.drew.mono hw2)).size)
          have HBd : Hid (BlkI wr.drew g S (fun j => if j < q2 then ((mis t L j n : Nat) : Int) else ((RN j + accH t L n F1 j : Nat) : Int))) := Lib.hid (HB2.out.below (Below.refl wr.heap.size wr).drew hgl)
          have hwr1 : IntKind.i64.wrap ((boundN L n : Int) - av) = (mv : Int) := by rw [havm, IntKind.wrap_i64]; omega
          clear hav hmv hlw hrl hal hmi havm
          go_wp2_with fail
          have hS0 : (wr.drew.cell? ⟨g, q2, none⟩ = some (.int .i64 (av : Nat)) ∧ wr.drew.cell? ⟨w.heap.size, 0, none⟩ = some (.slice ad n cap) ∧ wr.drew.cell? ⟨w.heap.size, 1, none⟩ = some (.int .i64 K)) := ⟨y1, a0, a1⟩
          go_region_law (first | (refine step_is 144 (by with_reducible rfl) ?_; go_simp; go_at_call 144; refine (hbd.out _ HRr.out).mono ?_; rintro e w' ⟨rfl, hb'⟩; have hBq := HBd.out.below hb' HBd.out.lt; have f1 := hBq.free q2 hlt2; have k1 : w'.cell? ⟨g, q2, none⟩ = some (.int .i64 (av : Nat)) := (hb'.cell (p := ⟨g, q2, none⟩) hgl).trans y1; have dl := hBq.lt; have k2 := (hb'.cell (p := ⟨w.heap.size, 0, none⟩) al).trans a0; have k3 := (hb'.cell (p := ⟨w.heap.size, 1, none⟩) al).trans a1))
          all_goals
            clear hwr1
            go_wp2
            refine ⟨⟨q2 + 1, by omega, by go_num, (hBq.set q2 mv).congr fun k hk => ?_, (Hb2.out.drew.trans (hb'.mono (show w2.heap.size ≤ wr.drew.heap.size from Hb2.out.size))).setCell (p := ⟨g, q2, none⟩) hg _⟩, by simp [intOf]; omega⟩
            by_cases he : k = q2
            · subst he
              rw [if_pos rfl, if_pos (by omega), HMV.out]
            · rw [if_neg he]
              by_cases h3 : k < q2
              · rw [if_pos h3, if_pos (by omega)]
              · rw [if_neg h3, if_neg (by omega)]
        · obtain rfl : q2 = S := by omega
          go_wp2_with fail
          refine bodyPost_ret (results_tmp3 rfl _ _ _) rfl ?_
          exact ⟨g, _, rfl, by omega, HB2.out.congr fun j hj => by rw [if_pos hj], H2.out.trans (Hb2.out.mono hw2)⟩

set_option maxRecDepth 100000 in
set_option maxHeartbeats 4000000 in
theorem pfind_any (ad : Option Addr) (n cap : Nat) (K least : Int) (L : Nat → Nat → Bool) (t : ByteArray) (size : Int) (hn1 : 1 ≤ n) (hn : n ≤ 64) (ht : t.size ≤ 1000) (hr : rightB n L K = true) (hp : plainB L n = true) (hsz : ((kindsTo L n).filter (frqB L n least)).length = 0 ∨ t.size < n ∨ szB n size = true) (w : World) (hR : RowC w ad n L w.heap.size) :
    Calls Tryz.prog 88 #[lv ad n cap K, .string t, .int .i64 size, .int .i64 least] w fun e w' => ∃ v z, e = .returned (.tuple #[v, .int .i64 z, .int .i64 0]) ∧ w'.ownsRow w.heap.size 3 1 v (fnd t n L K (plc 0 (many t n L K 0))).length (ints (fnd t n L K (plc 0 (many t n L K 0)))) ∧ Below w.heap.size w w' := by
  have hmany : many t n L K 0 = t.size + 1 - n := by unfold many; rw [hr, if_pos rfl]; omega
  have h1 := Lib.hid fun w' (h : RowC w' ad n L w'.heap.size) => pcounts_any ad n cap K least L t size hn1 hn ht hr hp hsz w' h
  have h2 := fun ad' cap' w' (h : RowI w' ad' (t.size + 1 - n) (gi ((plc 0 (t.size + 1 - n)).map fun i => ((mis t L i n : Nat) : Int))) w'.heap.size) => hits_any ad' (t.size + 1 - n) cap' (gi ((plc 0 (t.size + 1 - n)).map fun i => ((mis t L i n : Nat) : Int))) K (by omega) w' h
  rw [hits_plc t n L K (t.size + 1 - n) (t.size + 1 - n) (Nat.le_refl _)] at h2
  rw [hmany]
  have H2 := Lib.hid h2
  have HG : Hid (∀ j, j < t.size + 1 - n → ((mis t L j n : Nat) : Int) = gi ((plc 0 (t.size + 1 - n)).map fun i => ((mis t L i n : Nat) : Int)) j) := Lib.hid fun j hj => by
    unfold gi plc
    simp [hj]
  generalize gi ((plc 0 (t.size + 1 - n)).map fun i => ((mis t L i n : Nat) : Int)) = G at *
  generalize fnd t n L K (plc 0 (t.size + 1 - n)) = F at *
  clear h2 hmany hsz
  have hL := HoldsL.new w ad n cap K
  have hA : Below w.heap.size w (w.alloc (.cells #[.slice ad n cap, .int .i64 K] 52)) := (Below.refl _ _).alloc (Nat.le_refl _) _
  have HR1 := Lib.hid ((hR.below hA (Nat.le_refl _)).mono hA.size)
  have HA := Lib.hid hA
  have HL := Lib.hid hL
  obtain ⟨c0, c1, cl⟩ := hL
  clear hA hR
  generalize t.size + 1 - n = S at *
  go_enter Tryz.func88, Tryz.ntmps88
  go_wp2_with fail
  refine (h1.out _ HR1.out).mono ?_
  rintro e w1 ⟨g, z, rfl, hg, hB, hb1⟩
  obtain ⟨d0, d1, dl⟩ := id (HL.out.below hb1 cl)
  have HB := Lib.hid hB
  have Hb1 := Lib.hid (HA.out.trans (hb1.mono HA.out.size))
  clear hB hb1
  go_wp2_with fail
  refine (H2.out _ _ _ (HB.out.row.congr HG.out)).mono ?_
  rintro e w2 ⟨v, rfl, ho, hb2⟩
  have hzz := Hb1.out.size
  go_wp2_with fail
  refine bodyPost_ret (results_tmp3 rfl _ _ _) rfl ?_
  exact ⟨v, z, rfl, own_le ho hzz, Hb1.out.trans (hb2.mono hzz)⟩
end Go.Proofs.YtjfkmoinldlmaaaGreat

/- Walks of block.Fit, eval.Size and eval.Way. -/
namespace Go.Proofs.YtjfkmoinldlmaaaGreat
open Go.RowKit Go.Shelf

/-- What Count tells. -/
def cN (m n size : Int) : Int := if 1 ≤ m ∧ m ≤ n then cntV m n size else 0
theorem cN_in {m n size : Int} (hn : n ≤ 100000) : (0 ≤ cN m n size * size ∧ cN m n size * size ≤ 700000 * 4096) ∧ 0 ≤ cN m n size := by
  unfold cN
  split
  · rename_i h; exact cntV_in h.1 h.2 hn
  · rw [Int.zero_mul]; omega
theorem cN_any (m n size : Int) (hm : m ≤ 1000) (hn : n ≤ 100000) (w : World) : Calls Tryz.prog 14 #[.int .i64 m, .int .i64 n, .int .i64 size] w fun e w' => e = .returned (.int .i64 (cN m n size)) ∧ Below w.heap.size w w' := by
  unfold cN
  by_cases h : 1 ≤ m ∧ m ≤ n
  · rw [if_pos h]; exact count_any m n size h.1 h.2 hm hn w
  · rw [if_neg h]; exact count_no m n size h hn w
/-- The best size of the first k. -/
def fitS (m n : Int) : Nat → Int × Int
  | 0 => (0, 0)
  | k + 1 => if 0 < cN m n ((2 : Int) ^ k) * (2 : Int) ^ k * ((k : Int) + 1) ∧ ((fitS m n k).1 = 0 ∨ cN m n ((2 : Int) ^ k) * (2 : Int) ^ k * ((k : Int) + 1) < (fitS m n k).2) then ((2 : Int) ^ k, cN m n ((2 : Int) ^ k) * (2 : Int) ^ k * ((k : Int) + 1)) else fitS m n k
def fitV (m n : Int) : Int := (fitS m n 13).1

set_option maxRecDepth 100000 in
set_option maxHeartbeats 1000000 in
theorem fit_any (m n : Int) (hm : m ≤ 1000) (hn : n ≤ 100000) (w : World) : Calls Tryz.prog 233 #[.int .i64 m, .int .i64 n] w fun e w' => e = .returned (.int .i64 (fitV m n)) ∧ Below w.heap.size w w' := by
  have hc := Lib.hid fun size w' => cN_any m n size hm hn w'
  have hin := Lib.hid fun size => cN_in (m := m) (n := n) (size := size) hn
  have h0 : Hid (fitS m n 0 = (0, 0)) := Lib.hid rfl
  have hS : Hid (∀ (k : Nat) (c : Int), c = cN m n ((2 : Int) ^ k) * (2 : Int) ^ k * ((k : Int) + 1) → fitS m n (k + 1) = if 0 < c ∧ ((fitS m n k).1 = 0 ∨ c < (fitS m n k).2) then ((2 : Int) ^ k, c) else fitS m n k) := Lib.hid fun k c h => by subst h; rfl
  have hV : fitV m n = (fitS m n 13).1 := rfl
  rw [hV]
  clear hV
  generalize fitS m n = F at *
  go_enter Tryz.func233, Tryz.ntmps233
  go_wp2_with fail
  go_loopw [5, 6, 10] (fun b l i wr => ∃ k : Nat, k ≤ 13 ∧ i = .int .i64 k ∧ b = .int .i64 (F k).1 ∧ l = .int .i64 (F k).2 ∧ Below w.heap.size w wr) (fun _ _ i _ => 13 - (intOf i).toNat)
  case atStart => exact ⟨0, by omega, rfl, by rw [h0.out], by rw [h0.out], Below.refl _ _⟩
  case round =>
    obtain ⟨k, hk, rfl, rfl, rfl, hb⟩ := hrel
    have Hb := Lib.hid hb
    clear hb
    by_cases hlt : k < 13
    · have hlti : (k : Int) < 13 := by omega
      have hk0 : (0 : Int) ≤ k := by omega
      obtain ⟨hp1, hp2, hp3⟩ := pow2i k hlt
      have HSk := Lib.hid (hS.out k)
      have HC := Lib.hid (hc.out ((2 : Int) ^ k))
      obtain ⟨⟨g1, g2⟩, g3⟩ := hin.out ((2 : Int) ^ k)
      generalize hz : (2 : Int) ^ k = z at *
      generalize cN m n z = y at *
      have hcost := mul_in g1 g2 (show (0 : Int) ≤ (k : Int) + 1 by omega) (show (k : Int) + 1 ≤ 13 by omega)
      have hw1 : IntKind.i64.wrap (y * z) = y * z := by rw [IntKind.wrap_i64]; omega
      have hw2 : IntKind.i64.wrap (y * z * ((k : Int) + 1)) = y * z * ((k : Int) + 1) := by rw [IntKind.wrap_i64]; omega
      obtain ⟨c, hcc⟩ : ∃ c, c = y * z * ((k : Int) + 1) := ⟨_, rfl⟩
      have HSC := Lib.hid (HSk.out c hcc)
      have hc0 : 0 ≤ c := by omega
      have hc1 : c ≤ 40000000000 := by omega
      have hcw : wrap64 c = c := by unfold wrap64; omega
      obtain ⟨b, hb⟩ : ∃ b, b = (F k).1 := ⟨_, rfl⟩
      obtain ⟨l, hl⟩ : ∃ l, l = (F k).2 := ⟨_, rfl⟩
      have hw2' : IntKind.i64.wrap (y * z * ((k : Int) + 1)) = c := by rw [hcc]; exact hw2
      have hcc' : y * z * ((k : Int) + 1) = c := hcc.symm
      rw [← hb, ← hl] at HSC ⊢
      have HB := Lib.hid hb
      have HL := Lib.hid hl
      clear hw2 hcc hb hl
      by_cases h1 : 0 < c
      · by_cases h2 : b = 0
        · have h2b : (b == 0) = true := by rw [h2]; rfl
          have HN := Lib.hid (HSC.out.trans (if_pos ⟨h1, .inl h2⟩))
          subst h2
          clear hcost g1 g2
          go_wp2_with (go_at_call 14; (with_reducible refine (HC.out _).mono ?_); rintro e w1 ⟨rfl, hb1⟩)
          go_roundw
          case rel => exact ⟨k + 1, by omega, by go_num, by rw [HN.out], by rw [HN.out], Hb.out.trans (hb1.mono Hb.out.size)⟩
          case measure => simp [intOf]; omega
        · have h2b : (b == 0) = false := by rw [beq_eq_false_iff_ne]; exact h2
          by_cases h3 : c < l
          · have HN := Lib.hid (HSC.out.trans (if_pos ⟨h1, .inr h3⟩))
            clear hcost g1 g2 h2
            go_wp2_with (go_at_call 14; (with_reducible refine (HC.out _).mono ?_); rintro e w1 ⟨rfl, hb1⟩)
            go_roundw
            case rel => exact ⟨k + 1, by omega, by go_num, by rw [HN.out], by rw [HN.out], Hb.out.trans (hb1.mono Hb.out.size)⟩
            case measure => simp [intOf]; omega
          · have HN := Lib.hid (HSC.out.trans (if_neg (fun h => h.2.elim h2 h3)))
            clear hcost g1 g2 h2
            go_wp2_with (go_at_call 14; (with_reducible refine (HC.out _).mono ?_); rintro e w1 ⟨rfl, hb1⟩)
            go_roundw
            case rel => exact ⟨k + 1, by omega, by go_num, by rw [HN.out, HB.out], by rw [HN.out, HL.out], Hb.out.trans (hb1.mono Hb.out.size)⟩
            case measure => simp [intOf]; omega
      · have HN := Lib.hid (HSC.out.trans (if_neg (fun h => h1 h.1)))
        clear hcost g1 g2
        go_wp2_with (go_at_call 14; (with_reducible refine (HC.out _).mono ?_); rintro e w1 ⟨rfl, hb1⟩)
        go_roundw
        case rel => exact ⟨k + 1, by omega, by go_num, by rw [HN.out, HB.out], by rw [HN.out, HL.out], Hb.out.trans (hb1.mono Hb.out.size)⟩
        case measure => simp [intOf]; omega
    · obtain rfl : k = 13 := by omega
      go_wp2_with fail
      go_ret
      exact ⟨rfl, Hb.out⟩
end Go.Proofs.YtjfkmoinldlmaaaGreat

/- Walks of eval.Size, eval.Way, and of match. -/
namespace Go.Proofs.YtjfkmoinldlmaaaGreat
open Go.RowKit Go.Shelf

/-- How great blocks are. -/
def szV (m n sz : Int) : Int := if sz = 0 then fitV m n else sz
/-- The way that is taken. -/
def wayV (F sz nn K : Int) (L : Nat → Nat → Bool) (n : Nat) : Int := if sdB F nn (szV n nn sz) K L n = true then F else bestV nn (szV n nn sz) K L n
/-- A variable of a configuration. -/
abbrev HoldsG (w : World) (B : Nat) (F sz : Int) : Prop := w.cell? ⟨B, 0, none⟩ = some (.int .i64 F) ∧ w.cell? ⟨B, 1, none⟩ = some (.int .i64 sz) ∧ B < w.heap.size
theorem HoldsG.new (w : World) (F sz : Int) : HoldsG (w.alloc (.cells #[.int .i64 F, .int .i64 sz] 35)) w.heap.size F sz := by
  refine ⟨?_, ?_, ?_⟩ <;> simp [go_sem]
theorem HoldsG.below {w w' : World} {B n' : Nat} {F sz : Int} (h : HoldsG w B F sz) (hb : Below n' w w') (hn : B < n') : HoldsG w' B F sz :=
  ⟨(hb.cell (p := ⟨B, 0, none⟩) hn).trans h.1, (hb.cell (p := ⟨B, 1, none⟩) hn).trans h.2.1, Nat.lt_of_lt_of_le h.2.2 hb.size⟩

set_option maxRecDepth 100000 in
set_option maxHeartbeats 4000000 in
theorem size_any (ad : Option Addr) (n cap : Nat) (K nn F sz : Int) (hn : (n : Int) ≤ 1000) (hnn : nn ≤ 100000) (w : World) :
    Calls Tryz.prog 213 #[lv ad n cap K, .int .i64 nn, .agg #[.int .i64 F, .int .i64 sz]] w fun e w' => e = .returned (.int .i64 (szV n nn sz)) ∧ Below w.heap.size w w' := by
  have hf := Lib.hid fun w' => fit_any n nn hn hnn w'
  have hA : Below w.heap.size w ((w.alloc (.cells #[.slice ad n cap, .int .i64 K] 52)).alloc (.cells #[.int .i64 F, .int .i64 sz] 35)) := ((Below.refl _ _).alloc (Nat.le_refl _) _).alloc (by simp) _
  unfold szV
  by_cases h : sz = 0
  · subst h
    rw [if_pos rfl]
    go_enter Tryz.func213, Tryz.ntmps213
    go_wp2_with fail
    refine (hf.out _).mono ?_
    rintro e w1 ⟨rfl, hb1⟩
    go_wp2_with fail
    go_ret
    exact ⟨rfl, hA.trans (hb1.mono hA.size)⟩
  · rw [if_neg h]
    have hb : (sz == 0) = false := by rw [beq_eq_false_iff_ne]; exact h
    go_enter Tryz.func213, Tryz.ntmps213
    go_wp2_with fail
    go_ret
    exact ⟨rfl, hA⟩

set_option maxRecDepth 100000 in
set_option maxHeartbeats 4000000 in
theorem way_any (ad : Option Addr) (n cap : Nat) (K nn F sz : Int) (L : Nat → Nat → Bool) (hn : (n : Int) ≤ 1000) (hnn : nn ≤ 100000) (w : World) (hR : RowC w ad n L w.heap.size) :
    Calls Tryz.prog 212 #[lv ad n cap K, .int .i64 nn, .agg #[.int .i64 F, .int .i64 sz]] w fun e w' => e = .returned (.int .i64 (wayV F sz nn K L n)) ∧ Below w.heap.size w w' := by
  have h1 := Lib.hid fun w' => size_any ad n cap K nn F sz hn hnn w'
  unfold wayV
  generalize szV n nn sz = z at *
  have h2 := Lib.hid fun w' (h : RowC w' ad n L w'.heap.size) => szd_any F ad n cap K L hn nn z w' h
  have h3 := Lib.hid fun w' (h : RowC w' ad n L w'.heap.size) => choose_any ad n cap K L hn nn z w' h
  have hL := HoldsL.new w ad n cap K
  have hG := HoldsG.new (w.alloc (.cells #[.slice ad n cap, .int .i64 K] 52)) F sz
  have hA1 := (Below.refl (w.heap.size + 1) (w.alloc (.cells #[.slice ad n cap, .int .i64 K] 52))).alloc (by simp) (.cells #[.int .i64 F, .int .i64 sz] 35)
  have HL := Lib.hid (hL.below hA1 (Nat.lt_succ_self _))
  have hA : Below w.heap.size w ((w.alloc (.cells #[.slice ad n cap, .int .i64 K] 52)).alloc (.cells #[.int .i64 F, .int .i64 sz] 35)) := ((Below.refl _ _).alloc (Nat.le_refl _) _).alloc (by simp) _
  rw [World.size_alloc] at hG
  have HG := Lib.hid hG
  have HA := Lib.hid hA
  have HR := Lib.hid hR
  obtain ⟨c0, c1, cl⟩ := id HL.out
  obtain ⟨d0, d1, dl⟩ := id hG
  clear hR hL hG hA1 hA
  cases hs : sdB F nn z K L n
  · rw [if_neg (by decide)]
    rw [hs] at h2
    clear hs
    go_enter Tryz.func212, Tryz.ntmps212
    go_wp2_with fail
    generalize ((w.alloc (.cells #[.slice ad n cap, .int .i64 K] 52)).alloc (.cells #[.int .i64 F, .int .i64 sz] 35)) = W0 at HL HG HA c0 c1 cl d0 d1 dl ⊢
    refine (h1.out _).mono ?_
    rintro e w1 ⟨rfl, hb1⟩
    have HA1 := Lib.hid (HA.out.trans (hb1.mono HA.out.size))
    have HL1 := Lib.hid (HL.out.below hb1 cl)
    have HG1 := Lib.hid (HG.out.below hb1 dl)
    clear c0 c1 cl d0 d1 dl hb1
    obtain ⟨c0, c1, cl⟩ := id HL1.out
    obtain ⟨d0, d1, dl⟩ := id HG1.out
    go_wp2_with fail
    refine (h2.out _ ((HR.out.below HA1.out (Nat.le_refl _)).mono HA1.out.size)).mono ?_
    rintro e w2 ⟨rfl, hb2⟩
    have HA2 := Lib.hid (HA1.out.trans (hb2.mono HA1.out.size))
    have HL2 := Lib.hid (HL1.out.below hb2 cl)
    clear c0 c1 cl d0 d1 dl hb2
    obtain ⟨c0, c1, cl⟩ := id HL2.out
    go_wp2_with fail
    refine (h3.out _ ((HR.out.below HA2.out (Nat.le_refl _)).mono HA2.out.size)).mono ?_
    rintro e w3 ⟨rfl, hb3⟩
    go_wp2_with fail
    go_ret
    exact ⟨rfl, HA2.out.trans (hb3.mono HA2.out.size)⟩
  · rw [if_pos rfl]
    rw [hs] at h2
    clear hs
    go_enter Tryz.func212, Tryz.ntmps212
    go_wp2_with fail
    generalize ((w.alloc (.cells #[.slice ad n cap, .int .i64 K] 52)).alloc (.cells #[.int .i64 F, .int .i64 sz] 35)) = W0 at HL HG HA c0 c1 cl d0 d1 dl ⊢
    refine (h1.out _).mono ?_
    rintro e w1 ⟨rfl, hb1⟩
    have HA1 := Lib.hid (HA.out.trans (hb1.mono HA.out.size))
    have HL1 := Lib.hid (HL.out.below hb1 cl)
    have HG1 := Lib.hid (HG.out.below hb1 dl)
    clear c0 c1 cl d0 d1 dl hb1
    obtain ⟨c0, c1, cl⟩ := id HL1.out
    obtain ⟨d0, d1, dl⟩ := id HG1.out
    go_wp2_with fail
    refine (h2.out _ ((HR.out.below HA1.out (Nat.le_refl _)).mono HA1.out.size)).mono ?_
    rintro e w2 ⟨rfl, hb2⟩
    have HG2 := Lib.hid (HG1.out.below hb2 dl)
    have HA2 := Lib.hid (HA1.out.trans (hb2.mono HA1.out.size))
    clear c0 c1 cl d0 d1 dl hb2
    obtain ⟨d0, d1, dl⟩ := id HG2.out
    go_wp2_with fail
    go_ret
    exact ⟨rfl, HA2.out⟩

set_option maxRecDepth 100000 in
set_option maxHeartbeats 4000000 in
/-- match.check, where nothing is amiss. -/
theorem mcheck_ok (ad : Option Addr) (n cap : Nat) (K way : Int) (L : Nat → Nat → Bool) (t : ByteArray) (size : Int) (hn : (n : Int) ≤ 1000) (hs : sdB way t.size size K L n = true) (w : World) (hR : RowC w ad n L w.heap.size) :
    Calls Tryz.prog 44 #[.int .i64 way, lv ad n cap K, .string t, .int .i64 size] w fun e w' => e = .returned (.int .i64 0) ∧ Below w.heap.size w w' := by
  have ha : admB way K L n = true := by unfold sdB at hs; rw [Bool.and_eq_true] at hs; exact hs.1
  have h1 := Lib.hid fun w' (h : RowC w' ad n L w'.heap.size) => (show _ from ha ▸ admits_any way ad n cap K L hn w' h)
  have h2 := Lib.hid fun w' (h : RowC w' ad n L w'.heap.size) => (show _ from hs ▸ szd_any way ad n cap K L hn t.size size w' h)
  have hL := HoldsL.new w ad n cap K
  have hA : Below w.heap.size w (w.alloc (.cells #[.slice ad n cap, .int .i64 K] 52)) := (Below.refl _ _).alloc (Nat.le_refl _) _
  have hR1 := Lib.hid ((hR.below hA (Nat.le_refl _)).mono hA.size)
  have hA := Lib.hid hA
  clear hR ha hs
  go_enter Tryz.func44, Tryz.ntmps44
  go_wp2_with fail
  generalize (w.alloc (.cells #[.slice ad n cap, .int .i64 K] 52)) = W1 at hL hR1 hA ⊢
  refine (h1.out _ hR1.out).mono ?_
  rintro e w1 ⟨rfl, hb1⟩
  obtain ⟨c0, c1, cl⟩ := id (hL.below hb1 hL.2.2)
  go_wp2_with fail
  refine (h2.out _ ((hR1.out.below hb1 (Nat.le_refl _)).mono hb1.size)).mono ?_
  rintro e w2 ⟨rfl, hb2⟩
  have hb12 := hb1.trans (hb2.mono hb1.size)
  go_wp2_with fail
  go_ret
  exact ⟨rfl, hA.out.trans (hb12.mono hA.out.size)⟩
end Go.Proofs.YtjfkmoinldlmaaaGreat

/- Walks of the ways of match, of match.Find and of eval.Leaf. -/
namespace Go.Proofs.YtjfkmoinldlmaaaGreat
open Go.RowKit Go.Shelf

theorem mis_zero (t : ByteArray) (L : Nat → Nat → Bool) (i n : Nat) : mis t L i n = 0 ↔ ∀ j, j < n → L j (tb t (i + j)) = true := by
  induction n with
  | zero => simp [mis]
  | succ n ih =>
    simp only [mis]
    constructor
    · intro h j hj
      have h1 : mis t L i n = 0 := by omega
      by_cases hjn : j < n
      · exact ih.1 h1 j hjn
      · obtain rfl : j = n := by omega
        cases hL : L j (tb t (i + j))
        · rw [hL] at h; simp at h
        · rfl
    · intro h
      rw [ih.2 (fun j hj => h j (by omega)), h n (by omega)]
      rfl
theorem tb_lt (s : ByteArray) (j : Nat) : tb s j < 256 := by
  unfold tb
  cases h : s.data.toList[j]? with
  | none => simp
  | some x => simpa using x.toNat_lt
theorem letters_tb (L : Nat → Nat → Bool) (n : Nat) (h : lettersB L n = true) (j : Nat) (hj : j < n) (m : Nat) (hm : m < 256) : L j m = true ↔ tb (txt L n) j = m := by
  have hs := txt_size L n h
  have ha := (clsEq_iff _ _).1 ((agC_iff _ _ _).1 (txt_same L n h) j hj) m hm
  rw [← ha]
  unfold byteS tb
  rw [List.getElem?_eq_getElem (by simpa [hs] using hj)]
  simp
theorem zf_find (L : Nat → Nat → Bool) (n : Nat) (t : ByteArray) (h : lettersB L n = true) (hr : rightB n L 0 = true) : zf (txt L n) t = findL t n L 0 := by
  have hs := txt_size L n h
  have hn : 1 ≤ n := by unfold rightB at hr; simp at hr; omega
  have hm : many t n L 0 0 = t.size + 1 - n := by unfold many; rw [hr]; simp
  rw [find_eq, hm]
  unfold zf
  rw [if_neg (by omega), zfTo_stop (txt L n) t (t.size + 1 - n) t.size (Nat.le_refl _) (by omega) (by omega)]
  have key : ∀ k, k ≤ t.size + 1 - n → zfTo (txt L n) t k = fnd t n L 0 (plc 0 k) := by
    intro k
    induction k with
    | zero => intro _; simp [zfTo, fnd, plc]
    | succ k ih =>
      intro hk
      rw [plc_succ, fnd_snoc, Nat.zero_add, ← ih (by omega)]
      simp only [zfTo]
      have e : lc (txt L n) t k = (txt L n).size ↔ ((mis t L k n : Nat) : Int) ≤ 0 := by
        have e2 : ((mis t L k n : Nat) : Int) ≤ 0 ↔ mis t L k n = 0 := by omega
        rw [e2, mis_zero, hs]
        constructor
        · intro hl j hj
          have := ((good_iff _ _ _ _).1 ((lc_spec (txt L n) t k).1 j (by omega))).2.2
          exact (letters_tb L n h j hj _ (tb_lt _ _)).2 this
        · intro ha
          refine lc_eq (fun j hj => (good_iff _ _ _ _).2 ⟨by omega, by omega, (letters_tb L n h j hj _ (tb_lt _ _)).1 (ha j hj)⟩) ?_
          rw [Bool.eq_false_iff]
          intro hg
          have := (good_iff _ _ _ _).1 hg
          omega
      by_cases hc : lc (txt L n) t k = (txt L n).size
      · rw [if_pos hc, if_pos (e.1 hc)]
      · rw [if_neg hc, if_neg (fun x => hc (e.2 x))]
  exact key _ (Nat.le_refl _)


/-- What a leaf's search finds. -/
def occ (t : ByteArray) (n : Nat) (L : Nat → Nat → Bool) (K : Int) : List Int := fnd t n L K (plc 0 (many t n L K 0))
theorem frq_len (L : Nat → Nat → Bool) (n : Nat) : ((kindsTo L n).filter (frqB L n 3)).length = frq L n := by
  unfold frq
  have h : ∀ (l : List (Nat → Bool)) (k : Nat), k ≤ l.length → ((l.take k).filter (frqB L n 3)).length = prF (fun j => (whereTo (gc l j) L n).length) k := by
    intro l k
    induction k with
    | zero => intro _; rfl
    | succ k ih =>
      intro hk
      have hg : gc l k = l[k] := by simp [gc, show k < l.length by omega]
      rw [List.take_succ_eq_append_getElem (by omega), List.filter_append, List.length_append, ih (by omega)]
      simp only [prF]
      congr 1
      rw [← hg]
      unfold frqB
      by_cases hd : 3 ≤ (whereTo (gc l k) L n).length
      · rw [if_pos hd]
        have : decide ((3 : Int) ≤ ((whereTo (gc l k) L n).length : Int)) = true := decide_eq_true (by omega)
        simp [this]
      · rw [if_neg hd]
        have : decide ((3 : Int) ≤ ((whereTo (gc l k) L n).length : Int)) = false := decide_eq_false (by omega)
        simp [this]
  have := h (kindsTo L n) (kindsTo L n).length (Nat.le_refl _)
  rw [List.take_length] at this
  exact this
theorem sd_facts {way nn size K : Int} {L : Nat → Nat → Bool} {n : Nat} (h : sdB way nn size K L n = true) : (1 ≤ n ∧ n ≤ 64) ∧ (1 ≤ way ∧ way ≤ 5) ∧ rightB n L K = true ∧ admB way K L n = true ∧ (frB way L n = true ∨ nn < n ∨ szB n size = true) := by
  unfold sdB at h
  rw [Bool.and_eq_true, Bool.or_eq_true, Bool.or_eq_true, decide_eq_true_eq] at h
  obtain ⟨h1, h2, h3⟩ := adm_rng h.1
  refine ⟨h1, ⟨h2, h3⟩, ?_, h.1, h.2⟩
  cases hr : rightB n L K with
  | true => rfl
  | false => rw [adm_no hr] at h; cases h.1

set_option maxRecDepth 100000 in
set_option maxHeartbeats 4000000 in
theorem tell78_any (ad : Option Addr) (n cap : Nat) (K : Int) (L : Nat → Nat → Bool) (t : ByteArray) (size : Int) (hn1 : 1 ≤ n) (hn : n ≤ 64) (ht : t.size ≤ 1000) (_ : sdB 1 t.size size K L n = true) (w : World) (hR : RowC w ad n L w.heap.size) :
    Calls Tryz.prog 78 #[lv ad n cap K, .string t, .int .i64 size] w fun e w' => ∃ v z, e = .returned (.tuple #[v, .int .i64 z, .int .i64 0]) ∧ w'.ownsRow w.heap.size 3 1 v (occ t n L K).length (ints (occ t n L K)) ∧ Below w.heap.size w w' := by
  have h1 := Lib.hid fun w' (h : RowC w' ad n L w'.heap.size) => find_any ad n cap K L (by omega) t ht w' h
  have hA : Below w.heap.size w (w.alloc (.cells #[.slice ad n cap, .int .i64 K] 52)) := (Below.refl _ _).alloc (Nat.le_refl _) _
  have HR1 := Lib.hid ((hR.below hA (Nat.le_refl _)).mono hA.size)
  have HA := Lib.hid hA
  clear hA hR
  have HO : Hid (∀ w' : World, occ t n L K = fnd t n L K (plc 0 (many t n L K 0))) := Lib.hid fun _ => rfl
  go_enter Tryz.func78, Tryz.ntmps78
  go_wp2_with fail
  refine (h1.out _ HR1.out).mono ?_
  rintro e w1 ⟨v, rfl, ho, hb1⟩
  have hzz := HA.out.size
  go_wp2_with fail
  refine bodyPost_ret (results_tmp3 rfl _ _ _) rfl ?_
  exact ⟨v, 0, rfl, own_le ho hzz, HA.out.trans (hb1.mono hzz)⟩

set_option maxRecDepth 100000 in
set_option maxHeartbeats 4000000 in
theorem tell82_any (ad : Option Addr) (n cap : Nat) (K : Int) (L : Nat → Nat → Bool) (t : ByteArray) (size : Int) (hn1 : 1 ≤ n) (hn : n ≤ 64) (ht : t.size ≤ 1000) (hs : sdB 2 t.size size K L n = true) (w : World) (hR : RowC w ad n L w.heap.size) :
    Calls Tryz.prog 82 #[lv ad n cap K, .string t, .int .i64 size] w fun e w' => ∃ v z, e = .returned (.tuple #[v, .int .i64 z, .int .i64 0]) ∧ w'.ownsRow w.heap.size 3 1 v (occ t n L K).length (ints (occ t n L K)) ∧ Below w.heap.size w w' := by
  obtain ⟨-, -, hr, ha, -⟩ := sd_facts hs
  rw [adm_2 hr, Bool.and_eq_true, decide_eq_true_eq] at ha
  obtain ⟨hlet, rfl⟩ := ha
  have hzl : zl L n 0 t = occ t n L 0 := by
    unfold zl zok
    rw [hlet, hr]
    show (if (true && (true && decide ((0 : Int) = 0))) = true then _ else _) = _
    rw [if_pos (by decide), zf_find L n t hlet hr, find_eq]
    rfl
  have h1 := Lib.hid fun w' (h : RowC w' ad n L w'.heap.size) => (show _ from hzl ▸ zleaf_any ad n cap 0 L (by omega) t ht w' h)
  have hA : Below w.heap.size w (w.alloc (.cells #[.slice ad n cap, .int .i64 0] 52)) := (Below.refl _ _).alloc (Nat.le_refl _) _
  have HR1 := Lib.hid ((hR.below hA (Nat.le_refl _)).mono hA.size)
  have HA := Lib.hid hA
  clear hA hR hs
  clear hzl hlet hr
  generalize occ t n L 0 = oc at *
  go_enter Tryz.func82, Tryz.ntmps82
  go_wp2_with fail
  refine (h1.out _ HR1.out).mono ?_
  rintro e w1 ⟨v, rfl, ho, hb1⟩
  have hzz := HA.out.size
  go_wp2_with fail
  refine bodyPost_ret (results_tmp3 rfl _ _ _) rfl ?_
  exact ⟨v, 0, rfl, own_le ho hzz, HA.out.trans (hb1.mono hzz)⟩

set_option maxRecDepth 100000 in
set_option maxHeartbeats 4000000 in
theorem tell84_any (ad : Option Addr) (n cap : Nat) (K : Int) (L : Nat → Nat → Bool) (t : ByteArray) (size : Int) (hn1 : 1 ≤ n) (hn : n ≤ 64) (ht : t.size ≤ 1000) (hs : sdB 3 t.size size K L n = true) (w : World) (hR : RowC w ad n L w.heap.size) :
    Calls Tryz.prog 84 #[lv ad n cap K, .string t, .int .i64 size] w fun e w' => ∃ v z, e = .returned (.tuple #[v, .int .i64 z, .int .i64 0]) ∧ w'.ownsRow w.heap.size 3 1 v (occ t n L K).length (ints (occ t n L K)) ∧ Below w.heap.size w w' := by
  obtain ⟨-, -, hr, ha, hz⟩ := sd_facts hs
  rw [adm_3 hr, Bool.and_eq_true, decide_eq_true_eq] at ha
  obtain ⟨hpl, rfl⟩ := ha
  have hz2 : t.size < n ∨ szB n size = true := by
    rcases hz with h | h | h
    · unfold frB at h; simp at h
    · exact .inl (by omega)
    · exact .inr h
  exact wfind_any ad n cap L t size hn1 hn ht hr hpl hz2 w hR

set_option maxRecDepth 100000 in
set_option maxHeartbeats 4000000 in
theorem tell85_any (ad : Option Addr) (n cap : Nat) (K : Int) (L : Nat → Nat → Bool) (t : ByteArray) (size : Int) (hn1 : 1 ≤ n) (hn : n ≤ 64) (ht : t.size ≤ 1000) (hs : sdB 4 t.size size K L n = true) (w : World) (hR : RowC w ad n L w.heap.size) :
    Calls Tryz.prog 85 #[lv ad n cap K, .string t, .int .i64 size] w fun e w' => ∃ v z, e = .returned (.tuple #[v, .int .i64 z, .int .i64 0]) ∧ w'.ownsRow w.heap.size 3 1 v (occ t n L K).length (ints (occ t n L K)) ∧ Below w.heap.size w w' := by
  obtain ⟨-, -, hr, -, hz⟩ := sd_facts hs
  have hz2 : t.size < n ∨ szB n size = true := by
    rcases hz with h | h | h
    · unfold frB at h; simp at h
    · exact .inl (by omega)
    · exact .inr h
  exact sfind_any ad n cap K L t size hn1 hn ht hr hz2 w hR

set_option maxRecDepth 100000 in
set_option maxHeartbeats 4000000 in
theorem tell87_any (ad : Option Addr) (n cap : Nat) (K : Int) (L : Nat → Nat → Bool) (t : ByteArray) (size : Int) (hn1 : 1 ≤ n) (hn : n ≤ 64) (ht : t.size ≤ 1000) (hs : sdB 5 t.size size K L n = true) (w : World) (hR : RowC w ad n L w.heap.size) :
    Calls Tryz.prog 87 #[lv ad n cap K, .string t, .int .i64 size] w fun e w' => ∃ v z, e = .returned (.tuple #[v, .int .i64 z, .int .i64 0]) ∧ w'.ownsRow w.heap.size 3 1 v (occ t n L K).length (ints (occ t n L K)) ∧ Below w.heap.size w w' := by
  obtain ⟨-, -, hr, ha, hz⟩ := sd_facts hs
  rw [adm_5 hr] at ha
  have hz2 : ((kindsTo L n).filter (frqB L n 3)).length = 0 ∨ t.size < n ∨ szB n size = true := by
    rw [frq_len]
    rcases hz with h | h | h
    · unfold frB at h; simp at h; exact .inl h
    · exact .inr (.inl (by omega))
    · exact .inr (.inr h)
  have h1 := Lib.hid fun w' (h : RowC w' ad n L w'.heap.size) => pfind_any ad n cap K 3 L t size hn1 hn ht hr ha hz2 w' h
  have hA : Below w.heap.size w (w.alloc (.cells #[.slice ad n cap, .int .i64 K] 52)) := (Below.refl _ _).alloc (Nat.le_refl _) _
  have HR1 := Lib.hid ((hR.below hA (Nat.le_refl _)).mono hA.size)
  have HA := Lib.hid hA
  clear hA hR hs
  have hO : occ t n L K = fnd t n L K (plc 0 (many t n L K 0)) := rfl
  rw [← hO] at h1
  clear hO hr ha hz hz2
  generalize occ t n L K = oc at *
  go_enter Tryz.func87, Tryz.ntmps87
  go_wp2_with fail
  refine (h1.out _ HR1.out).mono ?_
  rintro e w1 ⟨v, z, rfl, ho, hb1⟩
  have hzz := HA.out.size
  go_wp2_with fail
  refine bodyPost_ret (results_tmp3 rfl _ _ _) rfl ?_
  exact ⟨v, z, rfl, own_le ho hzz, HA.out.trans (hb1.mono hzz)⟩

set_option maxRecDepth 100000 in
theorem field_way (x y : Value) (w : World) : (Instr.field 105 (.agg #[x, y]) 0).run Tryz.prog w = .ok x w := by kernel_rfl

set_option maxRecDepth 100000 in
theorem ways1_any (w : World) : Calls Tryz.prog 45 #[.int .i64 1] w fun e w' => e = .returned (.agg #[.func (.func 78) #[] #[], .func (.func 80) #[] #[]]) ∧ Below w.heap.size w w' := by
  go_enter Tryz.func45, Tryz.ntmps45
  go_wp2
  exact bodyPost_ret (v := .agg #[.func (.func 78) #[] #[], .func (.func 80) #[] #[]]) (by simp [results, Tryz.results45, go_sem]) rfl ⟨rfl, (Below.refl _ _).alloc (Nat.le_refl _) _⟩

set_option maxRecDepth 100000 in
theorem ways2_any (w : World) : Calls Tryz.prog 45 #[.int .i64 2] w fun e w' => e = .returned (.agg #[.func (.func 82) #[] #[], .nilFunc]) ∧ Below w.heap.size w w' := by
  go_enter Tryz.func45, Tryz.ntmps45
  go_wp2
  exact bodyPost_ret (v := .agg #[.func (.func 82) #[] #[], .nilFunc]) (by simp [results, Tryz.results45, go_sem]) rfl ⟨rfl, (Below.refl _ _).alloc (Nat.le_refl _) _⟩

set_option maxRecDepth 100000 in
theorem ways3_any (w : World) : Calls Tryz.prog 45 #[.int .i64 3] w fun e w' => e = .returned (.agg #[.func (.func 84) #[] #[], .nilFunc]) ∧ Below w.heap.size w w' := by
  go_enter Tryz.func45, Tryz.ntmps45
  go_wp2
  exact bodyPost_ret (v := .agg #[.func (.func 84) #[] #[], .nilFunc]) (by simp [results, Tryz.results45, go_sem]) rfl ⟨rfl, (Below.refl _ _).alloc (Nat.le_refl _) _⟩

set_option maxRecDepth 100000 in
theorem ways4_any (w : World) : Calls Tryz.prog 45 #[.int .i64 4] w fun e w' => e = .returned (.agg #[.func (.func 85) #[] #[], .func (.func 86) #[] #[]]) ∧ Below w.heap.size w w' := by
  go_enter Tryz.func45, Tryz.ntmps45
  go_wp2
  exact bodyPost_ret (v := .agg #[.func (.func 85) #[] #[], .func (.func 86) #[] #[]]) (by simp [results, Tryz.results45, go_sem]) rfl ⟨rfl, (Below.refl _ _).alloc (Nat.le_refl _) _⟩

set_option maxRecDepth 100000 in
theorem ways5_any (w : World) : Calls Tryz.prog 45 #[.int .i64 5] w fun e w' => e = .returned (.agg #[.func (.func 87) #[] #[], .func (.func 89) #[] #[]]) ∧ Below w.heap.size w w' := by
  go_enter Tryz.func45, Tryz.ntmps45
  go_wp2
  exact bodyPost_ret (v := .agg #[.func (.func 87) #[] #[], .func (.func 89) #[] #[]]) (by simp [results, Tryz.results45, go_sem]) rfl ⟨rfl, (Below.refl _ _).alloc (Nat.le_refl _) _⟩

set_option maxRecDepth 100000 in
set_option maxHeartbeats 4000000 in
theorem mfind1_any (ad : Option Addr) (n cap : Nat) (K : Int) (L : Nat → Nat → Bool) (t : ByteArray) (size : Int) (ht : t.size ≤ 1000) (hs : sdB 1 t.size size K L n = true) (w : World) (hR : RowC w ad n L w.heap.size) :
    Calls Tryz.prog 19 #[.int .i64 1, lv ad n cap K, .string t, .int .i64 size] w fun e w' => ∃ v z, e = .returned (.tuple #[v, .int .i64 z, .int .i64 0]) ∧ w'.ownsRow w.heap.size 3 1 v (occ t n L K).length (ints (occ t n L K)) ∧ Below w.heap.size w w' := by
  obtain ⟨⟨hn1, hn⟩, -⟩ := sd_facts hs
  have h1 := Lib.hid fun w' (h : RowC w' ad n L w'.heap.size) => mcheck_ok ad n cap K 1 L t size (by omega) hs w' h
  have h2 := Lib.hid ways1_any
  have h3 := Lib.hid fun w' (h : RowC w' ad n L w'.heap.size) => tell78_any ad n cap K L t size hn1 hn ht hs w' h
  have hfw := field_way
  generalize occ t n L K = oc at *
  have hL := HoldsL.new w ad n cap K
  have hA : Below w.heap.size w (w.alloc (.cells #[.slice ad n cap, .int .i64 K] 52)) := (Below.refl _ _).alloc (Nat.le_refl _) _
  have HR := Lib.hid hR
  have HL := Lib.hid hL
  have HA := Lib.hid hA
  clear hR hs hA hL
  go_enter Tryz.func19, Tryz.ntmps19
  go_wp2_with fail
  generalize (w.alloc (.cells #[.slice ad n cap, .int .i64 K] 52)) = W1 at HL HA ⊢
  refine (h1.out _ ((HR.out.below HA.out (Nat.le_refl _)).mono HA.out.size)).mono ?_
  rintro e w1 ⟨rfl, hb1⟩
  have HA1 := Lib.hid (HA.out.trans (hb1.mono HA.out.size))
  have HL1 := Lib.hid (HL.out.below hb1 HL.out.2.2)
  clear hb1 HL HA
  obtain ⟨c0, c1, cl⟩ := id HL1.out
  have HR1 := Lib.hid ((HR.out.below HA1.out (Nat.le_refl _)).mono HA1.out.size)
  go_wp2_with fail
  go_region_held3 (fun w' => Old w1 w') (first | with_reducible exact Old.start _ | with_reducible exact Old.calld (Old.refl _) (by with_reducible assumption) | with_reducible exact Old.call (by with_reducible assumption) (by with_reducible assumption)) (first | (go_at_call 45; (with_reducible refine (h2.out _).mono ?_); rintro e w2 ⟨rfl, hb2⟩) | (go_at_call 78; refine (h3.out _ ((HR1.out.below (show Old w1 _ by with_reducible assumption).2.2.2 (Nat.le_refl _)).mono (show Old w1 _ by with_reducible assumption).2.2.1)).mono ?_; rintro e w3 ⟨v3, z3, rfl, ho3, hb3⟩))
  have hO : Below w1.heap.size w1 w3 := (show Old w1 w3 by with_reducible assumption).2.2.2
  have hzz : w.heap.size ≤ w2.heap.size := Nat.le_trans HA1.out.size (by have := hb2.size; simpa using this)
  go_wp2_with fail
  refine bodyPost_ret (results_tmp3 rfl _ _ _) rfl ?_
  exact ⟨v3, z3, rfl, own_le ho3 hzz, HA1.out.trans (hO.mono HA1.out.size)⟩

set_option maxRecDepth 100000 in
set_option maxHeartbeats 4000000 in
theorem mfind2_any (ad : Option Addr) (n cap : Nat) (K : Int) (L : Nat → Nat → Bool) (t : ByteArray) (size : Int) (ht : t.size ≤ 1000) (hs : sdB 2 t.size size K L n = true) (w : World) (hR : RowC w ad n L w.heap.size) :
    Calls Tryz.prog 19 #[.int .i64 2, lv ad n cap K, .string t, .int .i64 size] w fun e w' => ∃ v z, e = .returned (.tuple #[v, .int .i64 z, .int .i64 0]) ∧ w'.ownsRow w.heap.size 3 1 v (occ t n L K).length (ints (occ t n L K)) ∧ Below w.heap.size w w' := by
  obtain ⟨⟨hn1, hn⟩, -⟩ := sd_facts hs
  have h1 := Lib.hid fun w' (h : RowC w' ad n L w'.heap.size) => mcheck_ok ad n cap K 2 L t size (by omega) hs w' h
  have h2 := Lib.hid ways2_any
  have h3 := Lib.hid fun w' (h : RowC w' ad n L w'.heap.size) => tell82_any ad n cap K L t size hn1 hn ht hs w' h
  have hfw := field_way
  generalize occ t n L K = oc at *
  have hL := HoldsL.new w ad n cap K
  have hA : Below w.heap.size w (w.alloc (.cells #[.slice ad n cap, .int .i64 K] 52)) := (Below.refl _ _).alloc (Nat.le_refl _) _
  have HR := Lib.hid hR
  have HL := Lib.hid hL
  have HA := Lib.hid hA
  clear hR hs hA hL
  go_enter Tryz.func19, Tryz.ntmps19
  go_wp2_with fail
  generalize (w.alloc (.cells #[.slice ad n cap, .int .i64 K] 52)) = W1 at HL HA ⊢
  refine (h1.out _ ((HR.out.below HA.out (Nat.le_refl _)).mono HA.out.size)).mono ?_
  rintro e w1 ⟨rfl, hb1⟩
  have HA1 := Lib.hid (HA.out.trans (hb1.mono HA.out.size))
  have HL1 := Lib.hid (HL.out.below hb1 HL.out.2.2)
  clear hb1 HL HA
  obtain ⟨c0, c1, cl⟩ := id HL1.out
  have HR1 := Lib.hid ((HR.out.below HA1.out (Nat.le_refl _)).mono HA1.out.size)
  go_wp2_with fail
  go_region_held3 (fun w' => Old w1 w') (first | with_reducible exact Old.start _ | with_reducible exact Old.calld (Old.refl _) (by with_reducible assumption) | with_reducible exact Old.call (by with_reducible assumption) (by with_reducible assumption)) (first | (go_at_call 45; (with_reducible refine (h2.out _).mono ?_); rintro e w2 ⟨rfl, hb2⟩) | (go_at_call 82; refine (h3.out _ ((HR1.out.below (show Old w1 _ by with_reducible assumption).2.2.2 (Nat.le_refl _)).mono (show Old w1 _ by with_reducible assumption).2.2.1)).mono ?_; rintro e w3 ⟨v3, z3, rfl, ho3, hb3⟩))
  have hO : Below w1.heap.size w1 w3 := (show Old w1 w3 by with_reducible assumption).2.2.2
  have hzz : w.heap.size ≤ w2.heap.size := Nat.le_trans HA1.out.size (by have := hb2.size; simpa using this)
  go_wp2_with fail
  refine bodyPost_ret (results_tmp3 rfl _ _ _) rfl ?_
  exact ⟨v3, z3, rfl, own_le ho3 hzz, HA1.out.trans (hO.mono HA1.out.size)⟩

set_option maxRecDepth 100000 in
set_option maxHeartbeats 4000000 in
theorem mfind3_any (ad : Option Addr) (n cap : Nat) (K : Int) (L : Nat → Nat → Bool) (t : ByteArray) (size : Int) (ht : t.size ≤ 1000) (hs : sdB 3 t.size size K L n = true) (w : World) (hR : RowC w ad n L w.heap.size) :
    Calls Tryz.prog 19 #[.int .i64 3, lv ad n cap K, .string t, .int .i64 size] w fun e w' => ∃ v z, e = .returned (.tuple #[v, .int .i64 z, .int .i64 0]) ∧ w'.ownsRow w.heap.size 3 1 v (occ t n L K).length (ints (occ t n L K)) ∧ Below w.heap.size w w' := by
  obtain ⟨⟨hn1, hn⟩, -⟩ := sd_facts hs
  have h1 := Lib.hid fun w' (h : RowC w' ad n L w'.heap.size) => mcheck_ok ad n cap K 3 L t size (by omega) hs w' h
  have h2 := Lib.hid ways3_any
  have h3 := Lib.hid fun w' (h : RowC w' ad n L w'.heap.size) => tell84_any ad n cap K L t size hn1 hn ht hs w' h
  have hfw := field_way
  generalize occ t n L K = oc at *
  have hL := HoldsL.new w ad n cap K
  have hA : Below w.heap.size w (w.alloc (.cells #[.slice ad n cap, .int .i64 K] 52)) := (Below.refl _ _).alloc (Nat.le_refl _) _
  have HR := Lib.hid hR
  have HL := Lib.hid hL
  have HA := Lib.hid hA
  clear hR hs hA hL
  go_enter Tryz.func19, Tryz.ntmps19
  go_wp2_with fail
  generalize (w.alloc (.cells #[.slice ad n cap, .int .i64 K] 52)) = W1 at HL HA ⊢
  refine (h1.out _ ((HR.out.below HA.out (Nat.le_refl _)).mono HA.out.size)).mono ?_
  rintro e w1 ⟨rfl, hb1⟩
  have HA1 := Lib.hid (HA.out.trans (hb1.mono HA.out.size))
  have HL1 := Lib.hid (HL.out.below hb1 HL.out.2.2)
  clear hb1 HL HA
  obtain ⟨c0, c1, cl⟩ := id HL1.out
  have HR1 := Lib.hid ((HR.out.below HA1.out (Nat.le_refl _)).mono HA1.out.size)
  go_wp2_with fail
  go_region_held3 (fun w' => Old w1 w') (first | with_reducible exact Old.start _ | with_reducible exact Old.calld (Old.refl _) (by with_reducible assumption) | with_reducible exact Old.call (by with_reducible assumption) (by with_reducible assumption)) (first | (go_at_call 45; (with_reducible refine (h2.out _).mono ?_); rintro e w2 ⟨rfl, hb2⟩) | (go_at_call 84; refine (h3.out _ ((HR1.out.below (show Old w1 _ by with_reducible assumption).2.2.2 (Nat.le_refl _)).mono (show Old w1 _ by with_reducible assumption).2.2.1)).mono ?_; rintro e w3 ⟨v3, z3, rfl, ho3, hb3⟩))
  have hO : Below w1.heap.size w1 w3 := (show Old w1 w3 by with_reducible assumption).2.2.2
  have hzz : w.heap.size ≤ w2.heap.size := Nat.le_trans HA1.out.size (by have := hb2.size; simpa using this)
  go_wp2_with fail
  refine bodyPost_ret (results_tmp3 rfl _ _ _) rfl ?_
  exact ⟨v3, z3, rfl, own_le ho3 hzz, HA1.out.trans (hO.mono HA1.out.size)⟩

set_option maxRecDepth 100000 in
set_option maxHeartbeats 4000000 in
theorem mfind4_any (ad : Option Addr) (n cap : Nat) (K : Int) (L : Nat → Nat → Bool) (t : ByteArray) (size : Int) (ht : t.size ≤ 1000) (hs : sdB 4 t.size size K L n = true) (w : World) (hR : RowC w ad n L w.heap.size) :
    Calls Tryz.prog 19 #[.int .i64 4, lv ad n cap K, .string t, .int .i64 size] w fun e w' => ∃ v z, e = .returned (.tuple #[v, .int .i64 z, .int .i64 0]) ∧ w'.ownsRow w.heap.size 3 1 v (occ t n L K).length (ints (occ t n L K)) ∧ Below w.heap.size w w' := by
  obtain ⟨⟨hn1, hn⟩, -⟩ := sd_facts hs
  have h1 := Lib.hid fun w' (h : RowC w' ad n L w'.heap.size) => mcheck_ok ad n cap K 4 L t size (by omega) hs w' h
  have h2 := Lib.hid ways4_any
  have h3 := Lib.hid fun w' (h : RowC w' ad n L w'.heap.size) => tell85_any ad n cap K L t size hn1 hn ht hs w' h
  have hfw := field_way
  generalize occ t n L K = oc at *
  have hL := HoldsL.new w ad n cap K
  have hA : Below w.heap.size w (w.alloc (.cells #[.slice ad n cap, .int .i64 K] 52)) := (Below.refl _ _).alloc (Nat.le_refl _) _
  have HR := Lib.hid hR
  have HL := Lib.hid hL
  have HA := Lib.hid hA
  clear hR hs hA hL
  go_enter Tryz.func19, Tryz.ntmps19
  go_wp2_with fail
  generalize (w.alloc (.cells #[.slice ad n cap, .int .i64 K] 52)) = W1 at HL HA ⊢
  refine (h1.out _ ((HR.out.below HA.out (Nat.le_refl _)).mono HA.out.size)).mono ?_
  rintro e w1 ⟨rfl, hb1⟩
  have HA1 := Lib.hid (HA.out.trans (hb1.mono HA.out.size))
  have HL1 := Lib.hid (HL.out.below hb1 HL.out.2.2)
  clear hb1 HL HA
  obtain ⟨c0, c1, cl⟩ := id HL1.out
  have HR1 := Lib.hid ((HR.out.below HA1.out (Nat.le_refl _)).mono HA1.out.size)
  go_wp2_with fail
  go_region_held3 (fun w' => Old w1 w') (first | with_reducible exact Old.start _ | with_reducible exact Old.calld (Old.refl _) (by with_reducible assumption) | with_reducible exact Old.call (by with_reducible assumption) (by with_reducible assumption)) (first | (go_at_call 45; (with_reducible refine (h2.out _).mono ?_); rintro e w2 ⟨rfl, hb2⟩) | (go_at_call 85; refine (h3.out _ ((HR1.out.below (show Old w1 _ by with_reducible assumption).2.2.2 (Nat.le_refl _)).mono (show Old w1 _ by with_reducible assumption).2.2.1)).mono ?_; rintro e w3 ⟨v3, z3, rfl, ho3, hb3⟩))
  have hO : Below w1.heap.size w1 w3 := (show Old w1 w3 by with_reducible assumption).2.2.2
  have hzz : w.heap.size ≤ w2.heap.size := Nat.le_trans HA1.out.size (by have := hb2.size; simpa using this)
  go_wp2_with fail
  refine bodyPost_ret (results_tmp3 rfl _ _ _) rfl ?_
  exact ⟨v3, z3, rfl, own_le ho3 hzz, HA1.out.trans (hO.mono HA1.out.size)⟩

set_option maxRecDepth 100000 in
set_option maxHeartbeats 4000000 in
theorem mfind5_any (ad : Option Addr) (n cap : Nat) (K : Int) (L : Nat → Nat → Bool) (t : ByteArray) (size : Int) (ht : t.size ≤ 1000) (hs : sdB 5 t.size size K L n = true) (w : World) (hR : RowC w ad n L w.heap.size) :
    Calls Tryz.prog 19 #[.int .i64 5, lv ad n cap K, .string t, .int .i64 size] w fun e w' => ∃ v z, e = .returned (.tuple #[v, .int .i64 z, .int .i64 0]) ∧ w'.ownsRow w.heap.size 3 1 v (occ t n L K).length (ints (occ t n L K)) ∧ Below w.heap.size w w' := by
  obtain ⟨⟨hn1, hn⟩, -⟩ := sd_facts hs
  have h1 := Lib.hid fun w' (h : RowC w' ad n L w'.heap.size) => mcheck_ok ad n cap K 5 L t size (by omega) hs w' h
  have h2 := Lib.hid ways5_any
  have h3 := Lib.hid fun w' (h : RowC w' ad n L w'.heap.size) => tell87_any ad n cap K L t size hn1 hn ht hs w' h
  have hfw := field_way
  generalize occ t n L K = oc at *
  have hL := HoldsL.new w ad n cap K
  have hA : Below w.heap.size w (w.alloc (.cells #[.slice ad n cap, .int .i64 K] 52)) := (Below.refl _ _).alloc (Nat.le_refl _) _
  have HR := Lib.hid hR
  have HL := Lib.hid hL
  have HA := Lib.hid hA
  clear hR hs hA hL
  go_enter Tryz.func19, Tryz.ntmps19
  go_wp2_with fail
  generalize (w.alloc (.cells #[.slice ad n cap, .int .i64 K] 52)) = W1 at HL HA ⊢
  refine (h1.out _ ((HR.out.below HA.out (Nat.le_refl _)).mono HA.out.size)).mono ?_
  rintro e w1 ⟨rfl, hb1⟩
  have HA1 := Lib.hid (HA.out.trans (hb1.mono HA.out.size))
  have HL1 := Lib.hid (HL.out.below hb1 HL.out.2.2)
  clear hb1 HL HA
  obtain ⟨c0, c1, cl⟩ := id HL1.out
  have HR1 := Lib.hid ((HR.out.below HA1.out (Nat.le_refl _)).mono HA1.out.size)
  go_wp2_with fail
  go_region_held3 (fun w' => Old w1 w') (first | with_reducible exact Old.start _ | with_reducible exact Old.calld (Old.refl _) (by with_reducible assumption) | with_reducible exact Old.call (by with_reducible assumption) (by with_reducible assumption)) (first | (go_at_call 45; (with_reducible refine (h2.out _).mono ?_); rintro e w2 ⟨rfl, hb2⟩) | (go_at_call 87; refine (h3.out _ ((HR1.out.below (show Old w1 _ by with_reducible assumption).2.2.2 (Nat.le_refl _)).mono (show Old w1 _ by with_reducible assumption).2.2.1)).mono ?_; rintro e w3 ⟨v3, z3, rfl, ho3, hb3⟩))
  have hO : Below w1.heap.size w1 w3 := (show Old w1 w3 by with_reducible assumption).2.2.2
  have hzz : w.heap.size ≤ w2.heap.size := Nat.le_trans HA1.out.size (by have := hb2.size; simpa using this)
  go_wp2_with fail
  refine bodyPost_ret (results_tmp3 rfl _ _ _) rfl ?_
  exact ⟨v3, z3, rfl, own_le ho3 hzz, HA1.out.trans (hO.mono HA1.out.size)⟩

theorem mfind_any (way : Int) (ad : Option Addr) (n cap : Nat) (K : Int) (L : Nat → Nat → Bool) (t : ByteArray) (size : Int) (ht : t.size ≤ 1000) (hs : sdB way t.size size K L n = true) (w : World) (hR : RowC w ad n L w.heap.size) :
    Calls Tryz.prog 19 #[.int .i64 way, lv ad n cap K, .string t, .int .i64 size] w fun e w' => ∃ v z, e = .returned (.tuple #[v, .int .i64 z, .int .i64 0]) ∧ w'.ownsRow w.heap.size 3 1 v (occ t n L K).length (ints (occ t n L K)) ∧ Below w.heap.size w w' := by
  obtain ⟨-, hw, -⟩ := sd_facts hs
  have : way = 1 ∨ way = 2 ∨ way = 3 ∨ way = 4 ∨ way = 5 := by omega
  rcases this with rfl | rfl | rfl | rfl | rfl
  · exact mfind1_any ad n cap K L t size ht hs w hR
  · exact mfind2_any ad n cap K L t size ht hs w hR
  · exact mfind3_any ad n cap K L t size ht hs w hR
  · exact mfind4_any ad n cap K L t size ht hs w hR
  · exact mfind5_any ad n cap K L t size ht hs w hR
theorem way_sized (F sz nn K : Int) (L : Nat → Nat → Bool) (n : Nat) (hr : rightB n L K = true) : sdB (wayV F sz nn K L n) nn (szV n nn sz) K L n = true := by
  unfold wayV
  by_cases h : sdB F nn (szV n nn sz) K L n = true
  · rw [if_pos h]; exact h
  · rw [if_neg h]
    refine best_sized fun h0 => ?_
    have := best_right nn (szV n nn sz) K L n
    rw [hr, h0] at this
    simp at this
end Go.Proofs.YtjfkmoinldlmaaaGreat
