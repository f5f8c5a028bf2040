/- Correlate of small numbers; the closure of symb.kinds. -/
import Derived.Test.YtjfkmoinldlmaaaGreatSa19
import Derived.Test.YtjfkmoinldlmaaaGreatSa20
import Derived.Test.YtjfkmoinldlmaaaGreatSa11
import Derived.Test.YtjfkmoinldlmaaaGreatSa06
namespace Go.Proofs.YtjfkmoinldlmaaaGreat
open Go.RowKit Go.Shelf
attribute [local go_sem] Oper.semAt_some

theorem grt_le (A : Nat → Nat) (n c : Nat) (h : ∀ j, j < n → A j ≤ c) : grt A n ≤ c := by
  induction n with
  | zero => exact Nat.zero_le _
  | succ n ih => simp only [grt]; have := ih (fun j hj => h j (by omega)); have := h n (by omega); omega

/-- Correlate, where all numbers are small: it tells the sums. -/
theorem corr_small (ap at' : Option Addr) (m n cp ct : Nat) (A B : Nat → Nat) (size : Int) (hm1 : 1 ≤ m) (hm : m ≤ 1000) (hn : n ≤ 100000) (hct : n ≤ ct) (hA1 : ∀ j, j < m → A j ≤ 65536) (hB1 : ∀ j, j < n → B j ≤ 65536) (hsz : n < m ∨ szB m size = true) (w : World) (hA : RowU w ap m A w.heap.size) (hB : RowU w at' n B w.heap.size) :
    Calls Tryz.prog 13 #[.slice ap m cp, .slice at' n ct, .int .i64 size] w fun e w' => ∃ v z, e = .returned (.tuple #[v, .int .i64 z, .int .i64 0]) ∧ w'.ownsRow w.heap.size 46 1 v (n + 1 - m) (wordCells (fun i => sumP A B i m) (n + 1 - m)) ∧ Below w.heap.size w w' := by
  by_cases hmn : m ≤ n
  · have hs := hsz.resolve_left (by omega)
    obtain ⟨t, ht, rfl, hmN⟩ := sz_pow hs
    have g1 := grt_le A m 65536 hA1
    have g2 := grt_le B n 65536 hB1
    have h2 : m * (grt A m * grt B n) ≤ 1000 * (65536 * 65536) := Nat.mul_le_mul hm (Nat.mul_le_mul g1 g2)
    have hck : chkV m n ((2 ^ t : Nat) : Int) (grt A m) (grt B n) m = 0 := by
      unfold chkV
      rw [if_neg (by omega), if_neg (by rw [hs]; decide), if_pos (by omega)]
    refine (corr_good ap at' m n cp ct t A B hm1 hmn hm hn ht hmN hct hck (by omega) w hA hB).mono ?_
    rintro e w' ⟨v, rfl, ho, hb⟩
    rw [show n - m + 1 = n + 1 - m by omega] at ho
    exact ⟨v, _, rfl, ho, hb⟩
  · have hc : chkV m n size (grt A m) (grt B n) m = 0 := by unfold chkV; rw [if_pos (by omega)]
    refine (corr_bad ap at' m n cp ct A B size hm hn (.inl (by omega)) w hA hB).mono ?_
    rintro e w' ⟨rfl, hb⟩
    rw [hc]
    refine ⟨.slice none 0 0, 0, rfl, ?_, hb⟩
    rw [show n + 1 - m = 0 by omega]
    exact World.ownsRow_nil _ _ _ _

/-- How many elements of a class find it at a place. -/
def hitC (t : ByteArray) (L : Nat → Nat → Bool) (n : Nat) (c : Nat → Bool) (i : Nat) : Nat := sumP (fun j => bit (clsEq (L j) c)) (fun i => bit (c (tb t i))) i n

/-- What symb.kinds hands over: a class, a row, a number. -/
structure KX where
  c : Nat → Bool
  v : Value
  z : Int

theorem bit_le (b : Bool) : bit b ≤ 65536 := by cases b <;> decide

theorem RowC.keepX {E : Nat → Prop} {w w' : World} {ad : Option Addr} {n m : Nat} {L : Nat → Nat → Bool} (h : RowC w ad n L m) (hk : KeepX E w w') (hm : m ≤ w.heap.size) (hE : ∀ a, ad = some a → ¬ E a.block) : RowC w' ad n L m := by
  rcases h with h | ⟨b, o, ha, hlt, hc⟩
  · exact .inl h
  · refine .inr ⟨b, o, ha, hlt, fun j hj => ?_⟩
    obtain ⟨h0, h1, h2, h3⟩ := hc j hj
    have e := fun i => hk.2 b i (by omega) (hE _ ha)
    exact ⟨(e _).trans h0, (e _).trans h1, (e _).trans h2, (e _).trans h3⟩

set_option maxRecDepth 100000 in
set_option maxHeartbeats 8000000 in
theorem kinds1_in (N l B : Nat) (E : Nat → Prop) (ad : Option Addr) (n cap : Nat) (K : Int) (L : Nat → Nat → Bool) (t : ByteArray) (size : Int) (hn1 : 1 ≤ n) (hn : n ≤ 64) (ht : t.size ≤ 1000) (hsz : t.size < n ∨ szB n size = true) (W0 : World)
    (hE : ∀ b, E b → b < W0.heap.size) (hEB : ¬ E B ∧ ¬ E (B + 1) ∧ ¬ E (B + 2)) (hEr : ∀ a, ad = some a → ¬ E a.block)
    (J : List KX → World → Prop) (W : World) (hW : Below W0.heap.size W0 W) (hJ : AbidesFrom W.heap.size J)
    (hl : HoldsL W B ad n cap K) (htx : Boxed W (B + 1) 9 (.string t)) (hst : Boxed W (B + 2) 3 (.int .i64 size)) (hR : RowC W ad n L W.heap.size)
    (hY : ∀ pre x W1, J pre W1 → W1.ownsRow W0.heap.size 46 1 x.v (t.size + 1 - n) (wordCells (hitC t L n x.c) (t.size + 1 - n)) → pre.length < (kindsTo L n).length → YieldAt Fence.wide (N - 1) Tryz.prog l #[x.v, .int .i64 x.z] W1 fun e W' => e = .returned (.bool true) ∧ J (pre ++ [x]) W' ∧ KeepX E W1 W') (h0 : J [] W) :
    CallsIn Fence.wide N Tryz.prog 192 #[.func (.yield l) #[] #[], .pointer (some ⟨B, 0, none⟩), .pointer (some ⟨B + 1, 0, none⟩), .pointer (some ⟨B + 2, 0, none⟩)] W fun e W' => (∃ v, e = .returned v) ∧ ∃ xs : List KX, xs.map (fun x => x.c) = kindsTo L n ∧ J xs W' := by
  obtain ⟨c0, c1, cl⟩ := hl
  have c2 := htx.cell
  have c3 := hst.cell
  have hsl := hst.lt
  have hz0 := hW.size
  have hKl := kindsTo_length L n
  have hkd := Lib.hid fun w' (h : RowC w' ad n L w'.heap.size) => kinds_any ad n cap K L (by omega) w' h
  have hpl := Lib.hid fun c w' (h : RowC w' ad n L w'.heap.size) => puts_any ad n cap K L c (by omega) w' h
  have hmk := Lib.hid fun c w' => marks_any t (by omega) c w'
  have hco := Lib.hid fun (ap at' : Option Addr) c w' (h1 : RowU w' ap n (fun j => bit (clsEq (L j) c)) w'.heap.size) (h2 : RowU w' at' t.size (fun i => bit (c (tb t i))) w'.heap.size) => corr_small ap at' n t.size n t.size (fun j => bit (clsEq (L j) c)) (fun i => bit (c (tb t i))) size hn1 (by omega) (by omega) (Nat.le_refl _) (fun j _ => bit_le _) (fun j _ => bit_le _) hsz w' h1 h2
  have HR := Lib.hid hR
  have HJ := Lib.hid hJ
  have HY := Lib.hid hY
  have H0 := Lib.hid h0
  have HE := Lib.hid hE
  have HEr := Lib.hid hEr
  clear hR hJ hY h0 hE hEr htx hst hW
  refine callsIn_of_wp Tryz.func192 rfl trivial ?_ rfl
  simp only [Tryz.ntmps192, List.size_toArray, List.length_cons, List.length_nil, Nat.reduceAdd, Nat.reduceSub, Array.replicate_succ, Array.replicate_zero, List.push_toArray, List.append_toArray, List.nil_append, List.cons_append]
  gi_wp2_with (refine ⟨trivial, fun h => (by cases h), ?_⟩; gi_at_call 179; refine (callsIn_wide.2 (hkd.out _ HR.out)).mono ?_; rintro e w1 ⟨v1, rfl, ho1, hb1⟩; obtain ⟨ad1, cap1, rfl⟩ := own_slice ho1)
  have HO1 := Lib.hid ho1
  have hR1c := rowC_of_list ho1
  have HRk := Lib.hid hR1c
  have hz1 := hb1.size
  have HR1 := Lib.hid (HR.out.below hb1 (Nat.le_refl _))
  have HJ1 := Lib.hid (HJ.out _ _ _ none H0.out (grown_of_below hb1 none) (fun r e => by cases e))
  have k0 := (hb1.cell (p := ⟨B, 0, none⟩) cl).trans c0
  have k1 := (hb1.cell (p := ⟨B, 1, none⟩) cl).trans c1
  have k2 := (hb1.cell (p := ⟨B + 1, 0, none⟩) (by show B + 1 < W.heap.size; omega)).trans c2
  have k3 := (hb1.cell (p := ⟨B + 2, 0, none⟩) (by show B + 2 < W.heap.size; omega)).trans c3
  have HEk : Hid (∀ a, ad1 = some a → ¬ E a.block) := Lib.hid fun a ha h => by
    have h1 := HE.out _ h
    rcases ho1.2 with ⟨h2, _⟩ | ⟨g, cp, cur, h2, hg, _⟩
    · rw [ha] at h2; cases h2
    · rw [ha] at h2; cases h2; exact absurd h1 (by show ¬ g < W0.heap.size; omega)
  have hgc : Hid (∀ k, k < (kindsTo L n).length → (kindsTo L n).take (k + 1) = (kindsTo L n).take k ++ [gc (kindsTo L n) k]) := Lib.hid fun k hk => by
    rw [List.take_succ_eq_append_getElem hk]
    simp [gc, hk]
  have hall : Hid ((kindsTo L n).take (kindsTo L n).length = kindsTo L n) := Lib.hid (List.take_length)
  have HW1 : Hid (W.heap.size ≤ w1.heap.size) := Lib.hid hz1
  clear ho1 hR1c c0 c1 c2 c3 H0
  gi_loopw [13] (fun i wr => ∃ (k : Nat) (pre : List KX), k ≤ (kindsTo L n).length ∧ i = .int .i64 k ∧ pre.map (fun x => x.c) = (kindsTo L n).take k ∧ pre.length = k ∧ J pre wr ∧ KeepX E w1 wr) (fun i _ => (kindsTo L n).length - (intOf i).toNat)
  case atStart => exact ⟨0, [], by omega, rfl, by simp, rfl, HJ1.out, KeepX.refl _ _⟩
  case round =>
    obtain ⟨k, pre, hk, rfl, hpm, hpl2, hJk, hkx⟩ := hrel
    have HPM := Lib.hid hpm
    have HJk := Lib.hid hJk
    have HKX := Lib.hid hkx
    have hzr := hkx.1
    clear hpm hJk hkx
    by_cases hlt : k < (kindsTo L n).length
    · have hlti : (k : Int) < (kindsTo L n).length := by omega
      have r0 := (HKX.out.2 B 0 (by omega) hEB.1).trans k0
      have r1 := (HKX.out.2 B 1 (by omega) hEB.1).trans k1
      have r2 := (HKX.out.2 (B + 1) 0 (by omega) hEB.2.1).trans k2
      have r3 := (HKX.out.2 (B + 2) 0 (by omega) hEB.2.2).trans k3
      have HRr := Lib.hid ((HR1.out.keepX HKX.out hz1 HEr.out).mono (Nat.le_trans hz1 hzr))
      obtain ⟨b, o, rfl, hbm, e0, e1, e2, e3⟩ := (HRk.out.keepX HKX.out (Nat.le_refl _) HEk.out).at hlt
      have hbm2 : b < wr.heap.size := by omega
      have HGC := Lib.hid (hgc.out k hlt)
      generalize hcc : gc (kindsTo L n) k = c at *
      have hlB : B + 2 < wr.heap.size := by omega
      have hA : Below wr.heap.size wr (wr.alloc (.cells #[.int .u64 (wd c 0 : Nat), .int .u64 (wd c 1 : Nat), .int .u64 (wd c 2 : Nat), .int .u64 (wd c 3 : Nat)] 100)) := (Below.refl _ _).alloc (Nat.le_refl _) _
      have hC := HoldsC.new wr c
      gi_wp2_with fail
      refine wpIn_wide.2 ?_
      obtain ⟨⟨d0, d1, d2, d3⟩, -, dl⟩ := hC
      have q0 := (hA.cell (p := ⟨B, 0, none⟩) (show B < wr.heap.size by omega)).trans r0
      have q1 := (hA.cell (p := ⟨B, 1, none⟩) (show B < wr.heap.size by omega)).trans r1
      have q2 := (hA.cell (p := ⟨B + 1, 0, none⟩) (show B + 1 < wr.heap.size by omega)).trans r2
      have q3 := (hA.cell (p := ⟨B + 2, 0, none⟩) (show B + 2 < wr.heap.size by omega)).trans r3
      have HRa := Lib.hid ((HRr.out.below hA (Nat.le_refl _)).mono hA.size)
      have HAa := Lib.hid hA
      have hsA : (wr.alloc (.cells #[.int .u64 (wd c 0 : Nat), .int .u64 (wd c 1 : Nat), .int .u64 (wd c 2 : Nat), .int .u64 (wd c 3 : Nat)] 100)).heap.size = wr.heap.size + 1 := by simp
      clear r0 r1 r2 r3 e0 e1 e2 e3 hA
      generalize (wr.alloc (.cells #[.int .u64 (wd c 0 : Nat), .int .u64 (wd c 1 : Nat), .int .u64 (wd c 2 : Nat), .int .u64 (wd c 3 : Nat)] 100)) = wA at q0 q1 q2 q3 d0 d1 d2 d3 dl HRa HAa hsA ⊢
      have l0 : B < wA.heap.size := by omega
      have l1 : B + 1 < wA.heap.size := by omega
      have l2 : B + 2 < wA.heap.size := by omega
      have HsA := Lib.hid hsA
      clear hsA
      go_region_held3 (fun w' => Old wA w') (first | with_reducible exact Old.start _ | with_reducible exact Old.calld (Old.refl _) (by with_reducible assumption) | with_reducible exact Old.call (by with_reducible assumption) (by with_reducible assumption)) (first | (go_at_call 149; refine (hpl.out _ _ ((HRa.out.below (show Old wA _ by with_reducible assumption).2.2.2 (Nat.le_refl _)).mono (show Old wA _ by with_reducible assumption).2.2.1)).mono ?_; rintro e wP ⟨gP, rfl, hgP, hkP, hbP⟩) | (go_at_call 51; refine (hmk.out _ _).mono ?_; rintro e wM ⟨gM, rfl, hgM, hkM, hbM⟩) | (go_at_call 13; first | (refine (hco.out _ _ c _ (hkP.below hbM hkP.lt).row hkM.row).mono ?_; rintro e wC ⟨vC, zC, rfl, hoC, hbC⟩) | (refine (hco.out _ _ c _ hkP.row (hkM.below hbP hkM.lt).row).mono ?_; rintro e wC ⟨vC, zC, rfl, hoC, hbC⟩)))
      have hAC : Below wA.heap.size wA wC := (show Old wA wC by with_reducible assumption).2.2.2
      have hRC : Below wr.heap.size wr wC := HAa.out.trans (hAC.mono HAa.out.size)
      have hJC := HJ.out _ _ _ none HJk.out (grown_of_below hRC none) (fun r e => by cases e)
      have hzC : W0.heap.size ≤ wM.heap.size := by
        have := hbM.size; have := hbP.size; have := HAa.out.size
        simp at *
        omega
      have hYx := HY.out pre ⟨c, vC, zC⟩ wC hJC (own_le hoC hzC) (by rw [hpl2]; exact hlt)
      obtain ⟨fn, tmps, assign, body, hy, hRR⟩ := hYx
      dsimp only at hy
      have HRR := Lib.hid hRR
      have HKC := Lib.hid (HKX.out.trans (KeepX.of_below (E := E) hRC))
      have HPL : Hid (pre.length = k) := Lib.hid hpl2
      clear hRR hJC hoC hRC hAC hzC hpl2
      gi_wp2
      refine ⟨fun h => (by cases h), HRR.out.mono ?_⟩
      rintro e W3 ⟨rfl, hJ3, hk3⟩
      have HJ3 := Lib.hid hJ3
      have Hk3 := Lib.hid hk3
      clear hJ3 hk3
      gi_wp2
      exact ⟨⟨k + 1, pre ++ [⟨c, vC, zC⟩], by omega, by go_num, by rw [List.map_append, HPM.out, HGC.out]; rfl, by rw [List.length_append, HPL.out]; rfl, HJ3.out, HKC.out.trans Hk3.out⟩, by simp [intOf]; omega⟩
    · obtain rfl : k = (kindsTo L n).length := by omega
      gi_wp2_with fail
      go_end0
      exact ⟨⟨_, rfl⟩, pre, by rw [HPM.out, hall.out], HJk.out⟩
end Go.Proofs.YtjfkmoinldlmaaaGreat

/- The counts by kinds are the counts element by element: plain. -/
namespace Go.Proofs.YtjfkmoinldlmaaaGreat

/-- What some classes find at a place. -/
def accH (t : ByteArray) (L : Nat → Nat → Bool) (n : Nat) (cs : List (Nat → Bool)) (i : Nat) : Nat := (cs.map fun c => hitC t L n c i).sum
theorem accH_snoc (t : ByteArray) (L : Nat → Nat → Bool) (n : Nat) (cs : List (Nat → Bool)) (c : Nat → Bool) (i : Nat) : accH t L n (cs ++ [c]) i = accH t L n cs i + hitC t L n c i := by
  simp [accH]
theorem sum_bits_le (p q : Nat → Bool) (i n : Nat) : sumP (fun j => bit (p j)) (fun j => bit (q j)) i n ≤ n := by
  induction n with
  | zero => exact Nat.le_refl _
  | succ n ih =>
    simp only [sumP]
    have : bit (p n) * bit (q (i + n)) ≤ 1 := by cases p n <;> cases q (i + n) <;> decide
    omega
theorem hitC_le (t : ByteArray) (L : Nat → Nat → Bool) (n : Nat) (c : Nat → Bool) (i : Nat) : hitC t L n c i ≤ n := sum_bits_le (fun j => clsEq (L j) c) (fun j => c (tb t j)) i n
theorem accH_le (t : ByteArray) (L : Nat → Nat → Bool) (n : Nat) (cs : List (Nat → Bool)) (i : Nat) : accH t L n cs i ≤ cs.length * n := by
  induction cs with
  | nil => exact Nat.zero_le _
  | cons c cs ih =>
    simp only [accH, List.map_cons, List.sum_cons, List.length_cons] at ih ⊢
    have := hitC_le t L n c i
    rw [Nat.succ_mul]
    omega
/-- What some classes find of one element. -/
def oneH (S : Nat → Bool) (b : Nat) (cs : List (Nat → Bool)) : Nat := (cs.map fun c => bit (clsEq S c) * bit (c b)).sum
theorem accH_zero (t : ByteArray) (L : Nat → Nat → Bool) (cs : List (Nat → Bool)) (i : Nat) : accH t L 0 cs i = 0 := by
  induction cs with
  | nil => rfl
  | cons c cs ih => simp only [accH, List.map_cons, List.sum_cons] at ih ⊢; rw [ih]; rfl
theorem accH_succ (t : ByteArray) (L : Nat → Nat → Bool) (n : Nat) (cs : List (Nat → Bool)) (i : Nat) : accH t L (n + 1) cs i = accH t L n cs i + oneH (L n) (tb t (i + n)) cs := by
  induction cs with
  | nil => rfl
  | cons c cs ih =>
    simp only [accH, oneH, List.map_cons, List.sum_cons] at ih ⊢
    rw [ih]
    have : hitC t L (n + 1) c i = hitC t L n c i + bit (clsEq (L n) c) * bit (c (tb t (i + n))) := rfl
    omega
theorem clsEq_at {S T : Nat → Bool} (h : clsEq S T = true) {b : Nat} (hb : b < 256) : S b = T b := (clsEq_iff S T).1 h b hb
theorem inL_congr {S T : Nat → Bool} (h : clsEq S T = true) (l : List (Nat → Bool)) : inL S l = inL T l := by
  induction l with
  | nil => rfl
  | cons U l ih =>
    simp only [inL, List.any_cons] at ih ⊢
    rw [ih]
    congr 1
    cases h1 : clsEq U S with
    | true => rw [clsEq_trans h1 h]
    | false =>
      cases h2 : clsEq U T with
      | false => rfl
      | true => rw [clsEq_trans h2 (by rw [clsEq_comm]; exact h)] at h1; cases h1
theorem inL_one (S T : Nat → Bool) (l : List (Nat → Bool)) : inL S (l ++ [T]) = (inL S l || clsEq T S) := by simp [inL]
theorem kindsTo_old {L : Nat → Nat → Bool} {k : Nat} (h : (clsEq (L k) fullS || inL (L k) (kindsTo L k)) = true) : kindsTo L (k + 1) = kindsTo L k := by
  show (if clsEq (L k) fullS || inL (L k) (kindsTo L k) then kindsTo L k else kindsTo L k ++ [L k]) = _
  rw [if_pos h]
theorem kindsTo_new {L : Nat → Nat → Bool} {k : Nat} (h : ¬ (clsEq (L k) fullS || inL (L k) (kindsTo L k)) = true) : kindsTo L (k + 1) = kindsTo L k ++ [L k] := by
  show (if clsEq (L k) fullS || inL (L k) (kindsTo L k) then kindsTo L k else kindsTo L k ++ [L k]) = _
  rw [if_neg h]
theorem oneH_kinds (S : Nat → Bool) (b : Nat) (hb : b < 256) (L : Nat → Nat → Bool) (k : Nat) : oneH S b (kindsTo L k) = bit (inL S (kindsTo L k) && S b) := by
  induction k with
  | zero => rfl
  | succ k ih =>
    by_cases h : (clsEq (L k) fullS || inL (L k) (kindsTo L k)) = true
    · rw [kindsTo_old h]; exact ih
    · rw [kindsTo_new h, inL_one]
      rw [Bool.not_eq_true] at h
      have h2 : inL (L k) (kindsTo L k) = false := by
        rw [Bool.or_eq_false_iff] at h; exact h.2
      have h3 : oneH S b (kindsTo L k ++ [L k]) = oneH S b (kindsTo L k) + bit (clsEq S (L k)) * bit (L k b) := by simp [oneH]
      rw [h3, ih]
      cases hc : clsEq S (L k) with
      | true =>
        rw [inL_congr hc, h2, clsEq_comm, hc, clsEq_at hc hb]
        simp [bit]
      | false => rw [clsEq_comm (L k) S, hc]; simp [bit]
theorem inL_full (L : Nat → Nat → Bool) (k : Nat) : inL fullS (kindsTo L k) = false := by
  induction k with
  | zero => rfl
  | succ k ih =>
    by_cases h : (clsEq (L k) fullS || inL (L k) (kindsTo L k)) = true
    · rw [kindsTo_old h]; exact ih
    · rw [kindsTo_new h, inL_one, ih]
      rw [Bool.not_eq_true, Bool.or_eq_false_iff] at h
      rw [h.1]; rfl
theorem inL_kinds (L : Nat → Nat → Bool) (n j : Nat) (hj : j < n) : inL (L j) (kindsTo L n) = !clsEq (L j) fullS := by
  induction n with
  | zero => omega
  | succ n ih =>
    by_cases he : j = n
    · subst he
      by_cases h : (clsEq (L j) fullS || inL (L j) (kindsTo L j)) = true
      · rw [kindsTo_old h]
        cases hf : clsEq (L j) fullS with
        | true => rw [inL_congr hf, inL_full]; rfl
        | false => rw [hf, Bool.false_or] at h; rw [h]; rfl
      · rw [kindsTo_new h, inL_one, clsEq_refl, Bool.or_true]
        rw [Bool.not_eq_true, Bool.or_eq_false_iff] at h
        rw [h.1]; rfl
    · have := ih (by omega)
      by_cases h : (clsEq (L n) fullS || inL (L n) (kindsTo L n)) = true
      · rw [kindsTo_old h]; exact this
      · rw [kindsTo_new h, inL_one, this]
        cases hf : clsEq (L j) fullS with
        | false => rfl
        | true =>
          rw [Bool.not_true, Bool.false_or]
          cases h3 : clsEq (L n) (L j) with
          | false => rfl
          | true => exact absurd (by rw [clsEq_trans h3 hf]; rfl) h
/-- Found and missed are all that are bound. -/
theorem acc_mis (t : ByteArray) (L : Nat → Nat → Bool) (n i : Nat) : ∀ m, m ≤ n → accH t L m (kindsTo L n) i + mis t L i m = boundN L m := by
  intro m
  induction m with
  | zero => intro _; rw [accH_zero]; rfl
  | succ m ih =>
    intro hm
    have h1 := ih (by omega)
    have hb : tb t (i + m) < 256 := by have := tb_le t (i + m); omega
    rw [accH_succ, oneH_kinds _ _ hb, inL_kinds L n m (by omega)]
    have h2 : mis t L i (m + 1) = mis t L i m + (if L m (tb t (i + m)) then 0 else 1) := rfl
    have h3 : boundN L (m + 1) = boundN L m + (if !clsEq (L m) fullS then 1 else 0) := rfl
    rw [h2, h3]
    cases hf : clsEq (L m) fullS with
    | true =>
      have : L m (tb t (i + m)) = true := clsEq_at hf hb
      rw [this]; simp [bit]; omega
    | false =>
      cases L m (tb t (i + m)) <;> simp [bit] <;> omega
theorem acc_kinds (t : ByteArray) (L : Nat → Nat → Bool) (n i : Nat) : ((boundN L n : Nat) : Int) - (accH t L n (kindsTo L n) i : Nat) = (mis t L i n : Nat) := by
  have := acc_mis t L n i n (Nat.le_refl _)
  omega
end Go.Proofs.YtjfkmoinldlmaaaGreat

/- Blocks of numbers; walks of symb.kinds and symb.check. -/
namespace Go.Proofs.YtjfkmoinldlmaaaGreat
open Go.RowKit Go.Shelf

/-- A block of n numbers, to be written. -/
structure BlkI (w : World) (g n : Nat) (x : Nat → Int) : Prop where
  cells : ∀ j, j < n → w.cell? ⟨g, j, none⟩ = some (.int .i64 (x j))
  free : ∀ j, j < n → w.frozen? ⟨g, j, none⟩ = false
  lt : g < w.heap.size
theorem BlkI.below {w w' : World} {g n m : Nat} {x : Nat → Int} (h : BlkI w g n x) (hb : Below m w w') (hg : g < m) : BlkI w' g n x where
  cells j hj := (hb.cell (p := ⟨g, j, none⟩) hg).trans (h.cells j hj)
  free j hj := (hb.frozen (p := ⟨g, j, none⟩) hg).trans (h.free j hj)
  lt := Nat.lt_of_lt_of_le h.lt hb.size
theorem BlkI.congr {w : World} {g n : Nat} {x y : Nat → Int} (h : BlkI w g n x) (he : ∀ j, j < n → x j = y j) : BlkI w g n y where
  cells j hj := by rw [h.cells j hj, he j hj]
  free := h.free
  lt := h.lt
theorem BlkI.set {w : World} {g n : Nat} {x : Nat → Int} (h : BlkI w g n x) (i : Nat) (b : Int) : BlkI (w.setCell ⟨g, i, none⟩ (.int .i64 b)) g n (fun j => if j = i then b else x j) where
  cells j hj := by
    by_cases he : j = i
    · subst he
      rw [World.cell?_setCell_same' _ _ _ (by rw [h.cells j hj]; rfl), if_pos rfl]
    · rw [World.cell?_setCell_other _ _ _ _ (by intro e; cases e; exact he rfl), h.cells j hj, if_neg he]
  free j hj := by rw [World.frozen?_setCell]; exact h.free j hj
  lt := by simpa using h.lt
theorem BlkI.far {w : World} {g n : Nat} {x : Nat → Int} (h : BlkI w g n x) {p : Addr} (hp : p.block ≠ g) (v : Value) : BlkI (w.setCell p v) g n x where
  cells j hj := by rw [World.cell?_setCell_other _ _ _ _ (by intro e; cases e; exact hp rfl)]; exact h.cells j hj
  free j hj := by rw [World.frozen?_setCell]; exact h.free j hj
  lt := by simpa using h.lt
theorem BlkI.row {w : World} {g n : Nat} {x : Nat → Int} (h : BlkI w g n x) : RowI w (some ⟨g, 0, none⟩) n x w.heap.size :=
  .inr ⟨g, 0, rfl, h.lt, fun j hj => by rw [Nat.zero_add]; exact h.cells j hj⟩
theorem BlkI.kept {w w' : World} {g n : Nat} {x : Nat → Int} {row : Option Nat} (h : BlkI w g n x) (hg : w.grownBy w' row) (hr : ∀ r, row = some r → ∃ o : Obj, w.heap[r]? = some o ∧ o.isCells = false) : BlkI w' g n x where
  cells j hj := cell_kept (h.cells j hj) hg hr
  free j hj := (frozen_kept (h.cells j hj) hg hr).trans (h.free j hj)
  lt := Nat.lt_of_lt_of_le h.lt hg.size
set_option maxRecDepth 100000 in
theorem makeI (n : Nat) (hn : n ≤ 100000) (w : World) : (Instr.makeSlice 24 (.int .i64 (n : Nat)) (.int .i64 (n : Nat))).run Tryz.prog w = .ok (.slice (some ⟨w.heap.size, 0, none⟩) n n) (w.alloc (.cells (madeCells #[.int .i64 0] n) 3)) := by
  obtain ⟨i, hi, h1, h2, h3⟩ := info_parts (P := Tryz.prog) (show (Tryz.prog.info? 3).map (fun i => (i.zero, i.size, i.bytes)) = some (some (.int .i64 0), 1, 8) from by kernel_rfl)
  have h := run_make (P := Tryz.prog) w 24 3 i (.int .i64 0) Tryz.underlying24 hi h1 .i64 .i64 n n (by omega) (by omega) (by rw [h3]; omega) (by omega)
  rw [h2, Nat.mul_one] at h
  exact h
theorem BlkI.new (w : World) (n : Nat) : BlkI (w.alloc (.cells (madeCells #[.int .i64 0] n) 3)) w.heap.size n fun _ => 0 where
  cells j hj := by
    rw [World.cell?_alloc_new]
    have : (madeCells #[.int .i64 0] n).toList[j]? = some (.int .i64 0) := by
      rw [toList_madeCells_one]
      rw [List.getElem?_replicate, if_pos hj]
    rw [← Array.getElem?_toList, this]
  free j _ := World.frozen?_alloc_new _ _ _ _
  lt := by simp

set_option maxRecDepth 100000 in
theorem kindsF_any (ad : Option Addr) (n cap : Nat) (K : Int) (t : ByteArray) (size : Int) (w : World) :
    Calls Tryz.prog 145 #[lv ad n cap K, .string t, .int .i64 size] w fun e w' => e = .returned (.func (.func 192) #[] #[.pointer (some ⟨w.heap.size, 0, none⟩), .pointer (some ⟨w.heap.size + 1, 0, none⟩), .pointer (some ⟨w.heap.size + 2, 0, none⟩)]) ∧
      HoldsL w' w.heap.size ad n cap K ∧ Boxed w' (w.heap.size + 1) 9 (.string t) ∧ Boxed w' (w.heap.size + 2) 3 (.int .i64 size) ∧ w'.heap.size = w.heap.size + 3 ∧ Below w.heap.size w w' := by
  have hL := HoldsL.new w ad n cap K
  have hT := Boxed.new (w.alloc (.cells #[.slice ad n cap, .int .i64 K] 52)) 9 (.string t)
  have hS := Boxed.new ((w.alloc (.cells #[.slice ad n cap, .int .i64 K] 52)).alloc (.cells #[.string t] 9)) 3 (.int .i64 size)
  simp only [World.size_alloc, Nat.add_assoc, Nat.reduceAdd] at hT hS
  go_enter Tryz.func145, Tryz.ntmps145
  go_wp2
  go_ret
  have b1 := (Below.refl (w.heap.size + 1) (w.alloc (.cells #[.slice ad n cap, .int .i64 K] 52))).alloc (by simp) (.cells #[.string t] 9)
  have b2 := (Below.refl (w.heap.size + 2) ((w.alloc (.cells #[.slice ad n cap, .int .i64 K] 52)).alloc (.cells #[.string t] 9))).alloc (by simp) (.cells #[.int .i64 size] 3)
  exact ⟨rfl, (hL.below b1 (by omega)).below b2 (by omega), Boxed.below hT b2 (by omega), hS, by simp, (((Below.refl _ _).alloc (Nat.le_refl _) _).alloc (by simp) _).alloc (by simp; omega) _⟩

set_option maxRecDepth 100000 in
set_option maxHeartbeats 4000000 in
/-- symb.check, where nothing is amiss. -/
theorem scheck_ok (ad : Option Addr) (n cap : Nat) (K : Int) (L : Nat → Nat → Bool) (t : ByteArray) (size : Int) (hn : n ≤ 1000) (ht : t.size ≤ 1000) (hr : rightB n L K = true) (hsz : t.size < n ∨ szB n size = true) (w : World) (hR : RowC w ad n L w.heap.size) :
    Calls Tryz.prog 143 #[lv ad n cap K, .string t, .int .i64 size] w fun e w' => e = .returned (.int .i64 0) ∧ Below w.heap.size w w' := by
  have h1 := Lib.hid fun w' => log_any size w'
  have h2 := Lib.hid fun w' (h : RowC w' ad n L w'.heap.size) => (show _ from hr ▸ right_any ad n cap K L (by omega) w' h)
  have hL := HoldsL.new w ad n cap K
  have hA : Below w.heap.size w (w.alloc (.cells #[.slice ad n cap, .int .i64 K] 52)) := (Below.refl _ _).alloc (Nat.le_refl _) _
  have hR1 := Lib.hid ((hR.below hA (Nat.le_refl _)).mono hA.size)
  have hA := Lib.hid hA
  have hnI : (n : Int) ≤ 1000 := by omega
  have htI : (t.size : Int) ≤ 1000 := by omega
  clear hR
  by_cases hlt : t.size < n
  · have hltI : (t.size : Int) < n := by omega
    clear hsz
    go_enter Tryz.func143, Tryz.ntmps143
    go_wp2_with fail
    generalize (w.alloc (.cells #[.slice ad n cap, .int .i64 K] 52)) = W1 at hL hR1 hA ⊢
    refine (h1.out _).mono ?_
    rintro e w1 ⟨rfl, hb1⟩
    obtain ⟨c0, c1, cl⟩ := id (hL.below hb1 hL.2.2)
    go_wp2_with fail
    refine (h2.out _ ((hR1.out.below hb1 (Nat.le_refl _)).mono hb1.size)).mono ?_
    rintro e w2 ⟨rfl, hb2⟩
    have hb12 := hb1.trans (hb2.mono hb1.size)
    obtain ⟨d0, d1, dl⟩ := id (hL.below hb12 hL.2.2)
    clear c0 c1 cl
    go_wp2_with fail
    go_ret
    exact ⟨rfl, hA.out.trans (hb12.mono hA.out.size)⟩
  · have hs := hsz.resolve_left hlt
    unfold szB at hs
    rw [Bool.and_eq_true, decide_eq_true_eq] at hs
    obtain ⟨hs1, hs2⟩ := hs
    rw [hs1] at h1
    go_enter Tryz.func143, Tryz.ntmps143
    go_wp2_with fail
    generalize (w.alloc (.cells #[.slice ad n cap, .int .i64 K] 52)) = W1 at hL hR1 hA ⊢
    refine (h1.out _).mono ?_
    rintro e w1 ⟨rfl, hb1⟩
    obtain ⟨c0, c1, cl⟩ := id (hL.below hb1 hL.2.2)
    clear hs1
    go_wp2_with fail
    refine (h2.out _ ((hR1.out.below hb1 (Nat.le_refl _)).mono hb1.size)).mono ?_
    rintro e w2 ⟨rfl, hb2⟩
    have hb12 := hb1.trans (hb2.mono hb1.size)
    obtain ⟨d0, d1, dl⟩ := id (hL.below hb12 hL.2.2)
    clear c0 c1 cl
    go_wp2_with fail
    go_ret
    exact ⟨rfl, hA.out.trans (hb12.mono hA.out.size)⟩
end Go.Proofs.YtjfkmoinldlmaaaGreat

/- Walks of symb.Counts and symb.Find. -/
namespace Go.Proofs.YtjfkmoinldlmaaaGreat
open Go.RowKit Go.Shelf
attribute [local go_sem] Oper.semAt_some

theorem own_cells {W W' : World} {base : Nat} {e : TypeId} {size k : Nat} {v : Value} {xs : List Value} {row : Option Nat} (h : W.ownsRow base e size v k xs) (hg : W.grownBy W' row) (hr : ∀ r, row = some r → ∃ o : Obj, W.heap[r]? = some o ∧ o.isCells = false) : W'.ownsRow base e size v k xs := by
  refine h.kept hg ?_
  rcases h.2 with ⟨rfl, _⟩ | ⟨g, cap, cur, rfl, _, hgb, _⟩
  · exact .inl rfl
  · refine .inr fun e' => ?_
    obtain ⟨o, ho, hc⟩ := hr g (by first | exact e' | exact e'.symm)
    rw [hgb] at ho
    cases ho
    cases hc

theorem KeepX.set {E : Nat → Prop} {W : World} {p : Addr} (hp : E p.block) (v : Value) : KeepX E W (W.setCell p v) :=
  ⟨by simp, fun b o _ hb => World.cell?_setCell_other _ _ _ _ (by rintro rfl; exact hb hp)⟩

set_option maxRecDepth 100000 in
set_option maxHeartbeats 8000000 in
theorem scounts_any (ad : Option Addr) (n cap : Nat) (K : Int) (L : Nat → Nat → Bool) (t : ByteArray) (size : Int) (hn1 : 1 ≤ n) (hn : n ≤ 64) (ht : t.size ≤ 1000) (hr : rightB n L K = true) (hsz : t.size < n ∨ szB n size = true) (w : World) (hR : RowC w ad n L w.heap.size) :
    Calls Tryz.prog 86 #[lv ad n cap K, .string t, .int .i64 size] w fun e w' => ∃ g z, e = .returned (.tuple #[.slice (some ⟨g, 0, none⟩) (t.size + 1 - n : Nat) (t.size + 1 - n : Nat), .int .i64 z, .int .i64 0]) ∧ w.heap.size ≤ g ∧ BlkI w' g (t.size + 1 - n) (fun i => (mis t L i n : Nat)) ∧ Below w.heap.size w w' := by
  have hck := Lib.hid fun w' (h : RowC w' ad n L w'.heap.size) => scheck_ok ad n cap K L t size (by omega) ht hr hsz w' h
  have hbd := Lib.hid fun w' (h : RowC w' ad n L w'.heap.size) => bound_any ad n cap K L (by omega) w' h
  have hkf := Lib.hid fun w' => kindsF_any ad n cap K t size w'
  have HK := Lib.hid fun i => acc_kinds t L n i
  have hL := HoldsL.new w ad n cap K
  have hA : Below w.heap.size w (w.alloc (.cells #[.slice ad n cap, .int .i64 K] 52)) := (Below.refl _ _).alloc (Nat.le_refl _) _
  have hsA : (w.alloc (.cells #[.slice ad n cap, .int .i64 K] 52)).heap.size = w.heap.size + 1 := by simp
  obtain ⟨S, hS⟩ : ∃ S, S = t.size + 1 - n := ⟨_, rfl⟩
  rw [← hS]
  obtain ⟨D, hD⟩ : ∃ D, (t.size : Int) - n + 1 = D := ⟨_, rfl⟩
  have hmx : (if 0 < D then D else 0) = (S : Nat) := by split <;> omega
  have hD1 : -1000 ≤ D := by omega
  have hD2 : D ≤ 2000 := by omega
  have hS1 : S ≤ 1001 := by omega
  have hSI : (S : Int) ≤ 1001 := by omega
  have hmk := fun w' => makeI S (by omega) w'
  have hnI : (n : Int) ≤ 64 := by omega
  have htI : (t.size : Int) ≤ 1000 := by omega
  have HS := Lib.hid hS
  clear hS
  have hbn : boundN L n ≤ n := by have := bound_where L n; omega
  refine (callsIn_wide (n := 9)).1 ?_
  refine callsIn_of_wp_marks Tryz.func86 rfl trivial ?_ rfl
  simp only [Tryz.ntmps86, List.size_toArray, List.length_cons, List.length_nil, Nat.reduceAdd, Nat.reduceSub, Array.replicate_succ, Array.replicate_zero, List.push_toArray, List.append_toArray, List.nil_append, List.cons_append]
  obtain ⟨a0, a1, al⟩ := id hL
  have HR1 := Lib.hid ((hR.below hA (Nat.le_refl _)).mono hA.size)
  have HAA := Lib.hid hA
  have HR0 := Lib.hid hR
  clear hR hA
  gi_wp2_with fail
  generalize (w.alloc (.cells #[.slice ad n cap, .int .i64 K] 52)) = W1 at a0 a1 al hL HR1 HAA hsA ⊢
  refine ⟨trivial, ?_⟩
  refine (callsIn_wide.2 (hck.out _ HR1.out)).mono ?_
  rintro e w1 ⟨rfl, hb1⟩
  have HR2 := Lib.hid ((HR1.out.below hb1 (Nat.le_refl _)).mono hb1.size)
  obtain ⟨c0, c1, cl⟩ := id (hL.below hb1 hL.2.2)
  have hz1 := hb1.size
  have HB1 := Lib.hid (HAA.out.trans (hb1.mono HAA.out.size))
  clear a0 a1 al hb1
  have hnew := BlkI.new w1 S
  have hbox := Boxed.new (w1.alloc (.cells (madeCells #[.int .i64 0] S) 3)) 24 (.slice (some ⟨w1.heap.size, 0, none⟩) S S)
  have hB2 : Below w1.heap.size w1 ((w1.alloc (.cells (madeCells #[.int .i64 0] S) 3)).alloc (.cells #[.slice (some ⟨w1.heap.size, 0, none⟩) S S] 24)) := ((Below.refl _ _).alloc (Nat.le_refl _) _).alloc (by simp) _
  have hnew2 := hnew.kept (World.grownBy_alloc _ (.cells #[.slice (some ⟨w1.heap.size, 0, none⟩) S S] 24) none) (fun r e => by cases e)
  have hs2 : ((w1.alloc (.cells (madeCells #[.int .i64 0] S) 3)).alloc (.cells #[.slice (some ⟨w1.heap.size, 0, none⟩) S S] 24)).heap.size = w1.heap.size + 2 := by simp
  rw [World.size_alloc] at hbox
  gi_wp2_with fail
  generalize ((w1.alloc (.cells (madeCells #[.int .i64 0] S) 3)).alloc (.cells #[.slice (some ⟨w1.heap.size, 0, none⟩) S S] 24)) = W2 at hbox hB2 hnew2 hs2 ⊢
  have hcg : w.heap.size < w1.heap.size := by omega
  have HR3 := Lib.hid ((HR2.out.below hB2 (Nat.le_refl _)).mono hB2.size)
  have HHL := Lib.hid ((show HoldsL w1 w.heap.size ad n cap K from ⟨c0, c1, cl⟩).below hB2 cl)
  have HBX := Lib.hid hbox
  have HNW := Lib.hid hnew2
  have HB2 := Lib.hid (HB1.out.trans (hB2.mono (show w.heap.size ≤ w1.heap.size by omega)))
  generalize hg : w1.heap.size = g at *
  have Hs2 := Lib.hid hs2
  clear hbox hB2 hnew hnew2 hs2 c0 c1 cl HR2 HR1 HB1 hL HAA hg hz1 hsA hmk hD hmx hD1 hD2
  gi_loopw [35] (fun i wr => ∃ q : Nat, q ≤ S ∧ i = .int .i64 q ∧ BlkI wr g S (fun j => if j < q then (boundN L n : Nat) else 0) ∧ HoldsL wr w.heap.size ad n cap K ∧ Boxed wr (g + 1) 24 (.slice (some ⟨g, 0, none⟩) S S) ∧ Below w.heap.size w wr) (fun i _ => S - (intOf i).toNat)
  case atStart => exact ⟨0, by omega, rfl, HNW.out.congr fun j _ => by rw [if_neg (by omega)], HHL.out, HBX.out, HB2.out⟩
  case round =>
    obtain ⟨q, hq, rfl, hB, hl, hx, hb⟩ := hrel
    have hxc := hx.cell
    have hxl := hx.lt
    obtain ⟨a0, a1, al⟩ := id hl
    have HB := Lib.hid hB
    have HHl := Lib.hid hl
    have HX := Lib.hid hx
    have Hb := Lib.hid hb
    clear hB hl hx hb
    by_cases hlt : q < S
    · have hlti : (q : Int) < S := by omega
      have hq0 : (0 : Int) ≤ q := by omega
      have HRr : Hid (RowC wr.drew ad n L wr.drew.heap.size) := Lib.hid ((HR0.out.below Hb.out.drew (Nat.le_refl _)).mono Hb.out.drew.size)
      have hgl := HB.out.lt
      have HBd : Hid (BlkI wr.drew g S (fun j => if j < q then (boundN L n : Nat) else 0)) := Lib.hid (HB.out.below (Below.refl wr.heap.size wr).drew hgl)
      gi_wp2_with fail
      refine wpIn_wide.2 ?_
      have hS0 : (wr.drew.cell? ⟨g + 1, 0, none⟩ = some (.slice (some ⟨g, 0, none⟩) S S) ∧ wr.drew.cell? ⟨w.heap.size, 0, none⟩ = some (.slice ad n cap) ∧ wr.drew.cell? ⟨w.heap.size, 1, none⟩ = some (.int .i64 K)) := ⟨hxc, a0, a1⟩
      go_region_held3 (fun w' => (w'.cell? ⟨g + 1, 0, none⟩ = some (.slice (some ⟨g, 0, none⟩) S S) ∧ w'.cell? ⟨w.heap.size, 0, none⟩ = some (.slice ad n cap) ∧ w'.cell? ⟨w.heap.size, 1, none⟩ = some (.int .i64 K))) (with_reducible assumption) (first | (go_at_call 144; refine (hbd.out _ HRr.out).mono ?_; rintro e w' ⟨rfl, hb'⟩; have hBq := HBd.out.below hb' HBd.out.lt; have f1 := hBq.free q hlt; have d1 := hBq.cells q hlt; have dl := hBq.lt; have hS1 : (w'.cell? ⟨g + 1, 0, none⟩ = some (.slice (some ⟨g, 0, none⟩) S S) ∧ w'.cell? ⟨w.heap.size, 0, none⟩ = some (.slice ad n cap) ∧ w'.cell? ⟨w.heap.size, 1, none⟩ = some (.int .i64 K)) := ⟨(hb'.cell (p := ⟨g + 1, 0, none⟩) hxl).trans hxc, (hb'.cell (p := ⟨w.heap.size, 0, none⟩) al).trans a0, (hb'.cell (p := ⟨w.heap.size, 1, none⟩) al).trans a1⟩; have hS2 : ((w'.setCell ⟨g, q, none⟩ (.int .i64 (boundN L n : Nat))).cell? ⟨g + 1, 0, none⟩ = some (.slice (some ⟨g, 0, none⟩) S S) ∧ (w'.setCell ⟨g, q, none⟩ (.int .i64 (boundN L n : Nat))).cell? ⟨w.heap.size, 0, none⟩ = some (.slice ad n cap) ∧ (w'.setCell ⟨g, q, none⟩ (.int .i64 (boundN L n : Nat))).cell? ⟨w.heap.size, 1, none⟩ = some (.int .i64 K)) := by (obtain ⟨s0, s1, s2⟩ := hS1; refine ⟨?_, ?_, ?_⟩ <;> (rw [World.cell?_setCell_other _ _ _ _ (by intro e; injection e with h1 h2; omega)]; first | exact s0 | exact s1 | exact s2))))
      gi_wp2
      have hbw : Below wr.heap.size wr w' := (Below.refl wr.heap.size wr).drew.trans hb'
      have hBs := hBq.set q (boundN L n : Nat)
      have hXs : Boxed (w'.setCell ⟨g, q, none⟩ (.int .i64 (boundN L n : Nat))) (g + 1) 24 (.slice (some ⟨g, 0, none⟩) S S) := (Below.heap_setCell _ _ _ (g + 1) (by simp)).trans (Boxed.below HX.out hbw hxl)
      have hbs : Below w.heap.size w (w'.setCell ⟨g, q, none⟩ (.int .i64 (boundN L n : Nat))) := (Hb.out.trans (hbw.mono Hb.out.size)).setCell (p := ⟨g, q, none⟩) (by show w.heap.size ≤ g; omega) _
      have hzz : wr.heap.size ≤ w'.heap.size := hb'.size
      refine ⟨⟨q + 1, by omega, by go_num, hBs.congr fun j hj => ?_, ⟨hS2.2.1, hS2.2.2, by simp; omega⟩, hXs, hbs⟩, by simp [intOf]; omega⟩
      by_cases he : j = q
      · subst he; rw [if_pos rfl, if_pos (by omega)]
      · rw [if_neg he]
        by_cases h2 : j < q
        · rw [if_pos h2, if_pos (by omega)]
        · rw [if_neg h2, if_neg (by omega)]
    · obtain rfl : q = S := by omega
      have hA : Below wr.heap.size wr (wr.alloc (.cells #[.int .i64 0] 3)) := (Below.refl _ _).alloc (Nat.le_refl _) _
      have hbox := Boxed.new wr 3 (.int .i64 0)
      have hsA : (wr.alloc (.cells #[.int .i64 0] 3)).heap.size = wr.heap.size + 1 := by simp
      obtain ⟨d0, d1, dl⟩ := id (HHl.out.below hA al)
      have HHA := Lib.hid (HHl.out.below hA al)
      clear a0 a1
      gi_wp2_with fail
      generalize (wr.alloc (.cells #[.int .i64 0] 3)) = WA at hA hbox hsA d0 d1 dl HHA ⊢
      refine ⟨trivial, ?_⟩
      refine (callsIn_wide.2 (hkf.out _)).mono ?_
      rintro e w4 ⟨rfl, hkl, hkt, hks, hkz, hb4⟩
      gi_wp2_with fail
      rw [hsA] at hkl hkt hks hkz hb4
      have hz4 : w.heap.size < g := hcg
      have hzr := HB.out.lt
      have hb04 : Below wr.heap.size wr w4 := hA.trans (hb4.mono (Nat.le_succ _))
      have x0 := (hb04.cell (p := ⟨g + 1, 0, none⟩) hxl).trans hxc
      have HBl4 := Lib.hid (HB.out.below hb04 hzr)
      have hbx4 := Boxed.below hbox hb4 (by omega)
      have Hb4 := Lib.hid (Hb.out.trans (hb04.mono Hb.out.size))
      have HR4 := Lib.hid (HR0.out.below Hb4.out (Nat.le_refl _))
      have HKL := Lib.hid hkl
      have HKT := Lib.hid hkt
      have HKS := Lib.hid hks
      have HKZ := Lib.hid hkz
      have HZE : Hid (w4.heap.size = wr.heap.size + 4) := Lib.hid (by omega)
      clear hkl hkt hks hkz hb4 hb04 hA hbox hsA hxc dl d0 d1 HHA
      have hEa : Hid (∀ b, (b = g ∨ b = wr.heap.size) → b < w4.heap.size) := Lib.hid (by have := HZE.out; rintro b (h | h) <;> omega)
      have hEb : Hid (¬ (wr.heap.size + 1 = g ∨ wr.heap.size + 1 = wr.heap.size) ∧ ¬ (wr.heap.size + 1 + 1 = g ∨ wr.heap.size + 1 + 1 = wr.heap.size) ∧ ¬ (wr.heap.size + 1 + 2 = g ∨ wr.heap.size + 1 + 2 = wr.heap.size)) := Lib.hid (by omega)
      have hEc : Hid (∀ a : Addr, ad = some a → n ≠ 0 → ¬ (a.block = g ∨ a.block = wr.heap.size)) := Lib.hid (by
        rintro a ha hn0 h
        rcases HR0.out with h0 | ⟨b, o, hab, hlt, _⟩
        · exact hn0 h0
        · rw [ha] at hab; cases hab; simp only at h; omega)
      refine range_mem rfl (by omega) (gf := 192) (lb := #[.pointer (some ⟨wr.heap.size + 1, 0, none⟩), .pointer (some ⟨wr.heap.size + 1 + 1, 0, none⟩), .pointer (some ⟨wr.heap.size + 1 + 2, 0, none⟩)]) rfl trivial (enters_of Tryz.func192 (by kernel_rfl) rfl)
        (encs := fun x : KX => #[x.v, .int .i64 x.z]) (E := fun b => b = g ∨ b = wr.heap.size) (Sx := fun x W => W.ownsRow w4.heap.size 46 1 x.v q (wordCells (hitC t L n x.c) q)) (S := fun xs => xs.map (fun x => x.c) = kindsTo L n) (N := (kindsTo L n).length)
        (fun l J W hW hJ hY h0 => kinds1_in 8 l (wr.heap.size + 1) (fun b => b = g ∨ b = wr.heap.size) ad n cap K L t size hn1 hn ht hsz w4 hEa.out hEb.out (fun a ha => hEc.out a ha (by omega)) J W hW hJ
          (HKL.out.below hW HKL.out.2.2) (Boxed.below HKT.out hW HKT.out.lt) (Boxed.below HKS.out hW HKS.out.lt) (((HR4.out.mono (by have := Hb4.out.size; exact this)).below hW (Nat.le_refl _)).mono hW.size) (by have := HS.out; rw [← this]; exact hY) h0)
        (fun _ => rfl)
        (fun x A B row hs hg' hr => own_cells hs hg' fun r e => (hr r e).2)
        (fun pre W => (W.cell? ⟨g + 1, 0, none⟩ = some (.slice (some ⟨g, 0, none⟩) q q) ∧ BlkI W g q (fun i => (boundN L n : Nat) - (accH t L n (pre.map fun x => x.c) i : Nat)) ∧ ∃ z, W.cell? ⟨wr.heap.size, 0, none⟩ = some (.int .i64 z) ∧ W.frozen? ⟨wr.heap.size, 0, none⟩ = false) ∧ Below w.heap.size w W)
        (OwnFrom.and (Own.from (fun s A B row hs hg' hr => ⟨cell_kept hs.1 hg' hr, hs.2.1.kept hg' hr, by obtain ⟨z, h1, h2⟩ := hs.2.2; exact ⟨z, cell_kept h1 hg' hr, (frozen_kept h1 hg' hr).trans h2⟩⟩) _) (ownFrom_below (Nat.le_refl _) (by have := Hb4.out.size; omega)))
        ⟨⟨x0, HBl4.out.congr fun j hj => by rw [if_pos hj]; simp [accH], 0, hbx4.cell, hbx4.frozen⟩, Hb4.out⟩
        (fun x => { tmps := #[lv ad n cap K, Value.string t, Value.int IntKind.i64 size,
          Value.pointer (some { block := w.heap.size, off := 0 }), undef, undef, Value.slice none 0 0,
          Value.int IntKind.i64 0, Value.int IntKind.i64 0, Value.int IntKind.i64 0,
          Value.pointer (some { block := g + 1, off := 0 }), u11,
          Value.pointer (some { block := wr.heap.size, off := 0 }), x.v, Value.int IntKind.i64 x.z, undef, undef,
          Value.agg #[Value.slice ad n cap, Value.int IntKind.i64 K], Value.string t, Value.int IntKind.i64 size,
          Value.int IntKind.i64 0, Value.int IntKind.i64 0, Value.bool false, undef, Value.string t,
          Value.int IntKind.i64 t.size, Value.pointer (some { block := w.heap.size, off := 0 }), Value.slice ad n cap,
          Value.int IntKind.i64 n, Value.int IntKind.i64 (t.size - n), Value.int IntKind.i64 D,
          Value.int IntKind.i64 q, Value.slice (some { block := g, off := 0 }) q q,
          Value.slice (some { block := g, off := 0 }) q q, Value.int IntKind.i64 q, Value.int IntKind.i64 q,
          Value.bool false, u37, u38, u39, u40, u41, u42, u43,
          Value.agg #[Value.slice ad n cap, Value.int IntKind.i64 K], Value.string t, Value.int IntKind.i64 size,
          Value.func (Fn.func 192) #[]
            #[Value.pointer (some { block := wr.heap.size + 1, off := 0 }),
              Value.pointer (some { block := wr.heap.size + 1 + 1, off := 0 }),
              Value.pointer (some { block := wr.heap.size + 1 + 2, off := 0 })],
          x.v, Value.int IntKind.i64 x.z, undef, undef, undef, undef, undef, undef, undef, undef, undef, undef, undef, undef, undef,
          undef, undef, undef, undef, undef, undef, undef, undef], defers := [] }) ?assign ?body ?done
      case assign =>
        intro l x W K hK
        gi_wp2
        exact hK
      case body =>
        rintro l pre ⟨c, v, zx⟩ W ⟨⟨e0, hBk, z, e1, f1⟩, hBw⟩ hrow hlen
        dsimp only at hrow
        obtain ⟨ad5, cap5, rfl⟩ := own_slice hrow
        obtain ⟨wx, rfl⟩ : ∃ wx, wx = wr := ⟨wr, rfl⟩
        have hAcc := fun j => accH_le t L n (pre.map fun x => x.c) j
        have hpl : pre.length ≤ 64 := by have := kindsTo_length L n; omega
        have hAc2 : Hid (∀ j, accH t L n (pre.map fun x => x.c) j ≤ 4096) := Lib.hid fun j => by
          have h1 := hAcc j
          rw [List.length_map] at h1
          have := Nat.mul_le_mul hpl hn
          omega
        have hHc : Hid (∀ j, hitC t L n c j ≤ 64) := Lib.hid fun j => by have := hitC_le t L n c j; omega
        have HSN : Hid (∀ j, accH t L n ((pre ++ [(⟨c, .slice ad5 q cap5, zx⟩ : KX)]).map fun x => x.c) j = accH t L n (pre.map fun x => x.c) j + hitC t L n c j) := Lib.hid fun j => by
          rw [List.map_append]; exact accH_snoc t L n _ c j
        clear hAcc
        have HROW := Lib.hid hrow
        have HBK := Lib.hid hBk
        have HBW := Lib.hid hBw
        have hWz := hBw.size
        have hal : wx.heap.size < W.heap.size := by
          rcases Nat.lt_or_ge wx.heap.size W.heap.size with h | h
          · exact h
          · exfalso; unfold World.cell? at e1; simp [Array.getElem?_eq_none h] at e1
        clear hrow hBk hBw
        generalize accH t L n (pre.map fun x => x.c) = A at *
        generalize hitC t L n c = H at *
        gi_wp2_with fail
        gi_loopw [55] (fun i wr => ∃ q2 : Nat, q2 ≤ q ∧ i = .int .i64 q2 ∧ BlkI wr g q (fun j => (boundN L n : Nat) - (A j : Nat) - (if j < q2 then (H j : Nat) else 0)) ∧ (∃ z, wr.cell? ⟨wx.heap.size, 0, none⟩ = some (.int .i64 z) ∧ wr.frozen? ⟨wx.heap.size, 0, none⟩ = false) ∧ KeepX (fun b => b = g ∨ b = wx.heap.size) W wr ∧ KeepsFrom w4.heap.size W wr ∧ Below w.heap.size w wr) (fun i _ => q - (intOf i).toNat)
        case atStart =>
          exact ⟨0, by omega, rfl, (HBK.out.far (p := ⟨wx.heap.size, 0, none⟩) (by simp; omega) _).congr fun j _ => by rw [if_neg (by omega)]; omega, ⟨_, World.cell?_setCell_same' _ _ _ (by rw [e1]; rfl), by rw [World.frozen?_setCell]; exact f1⟩, KeepX.set (.inr rfl) _, (KeepsOthers.setCell _ _ _).from _, HBW.out.setCell (p := ⟨wx.heap.size, 0, none⟩) (by show w.heap.size ≤ wx.heap.size; omega) _⟩
        case round =>
          obtain ⟨q2, hq2, rfl, hB2, ⟨z2, y1, y2⟩, hkx, hkf2, hbw⟩ := hrel
          have HB2 := Lib.hid hB2
          have HKX := Lib.hid hkx
          have HKF := Lib.hid hkf2
          have HBW2 := Lib.hid hbw
          have x0 := (hkx.2 (g + 1) 0 (by omega) (by omega)).trans e0
          have hze := HZE.out
          clear hB2 hkx hkf2 hbw
          by_cases hlt : q2 < q
          · have hlti : (q2 : Int) < q := by omega
            have hq0 : (0 : Int) ≤ q2 := by omega
            obtain ⟨g5, cap6, hv5, hge5, hlt5⟩ := own_form HROW.out (by omega : 0 < q)
            obtain ⟨b5, o5, rfl, hb5l, hc5⟩ := (rowU_of_own HROW.out).at hlt
            obtain rfl : b5 = g5 := by cases hv5; rfl
            have x1 := (HKX.out.2 b5 (o5 + q2) hb5l (by omega)).trans hc5
            have d1 := HB2.out.cells q2 hlt
            have f2 := HB2.out.free q2 hlt
            have dl := HB2.out.lt
            rw [if_neg (by omega)] at d1
            have hA1 := hAc2.out q2
            have hH1 := hHc.out q2
            obtain ⟨av, hav⟩ : ∃ av : Int, av = (boundN L n : Nat) - (A q2 : Nat) := ⟨_, rfl⟩
            rw [show ((boundN L n : Nat) : Int) - (A q2 : Nat) - ((0 : Nat) : Int) = av by omega] at d1
            have hav1 : -4096 ≤ av := by omega
            have hav2 : av ≤ 64 := by omega
            have HAV := Lib.hid hav
            obtain ⟨hv, hhv⟩ : ∃ hv, hv = H q2 := ⟨_, rfl⟩
            rw [← hhv] at x1 hH1
            have hH2 : (hv : Int) ≤ 64 := by omega
            have HHV := Lib.hid hhv
            clear hav hhv hc5 hv5 hze
            gi_wp2_with fail
            refine ⟨⟨q2 + 1, by omega, by go_num, (HB2.out.set q2 (av - hv)).congr fun j hj => ?_, ⟨z2, by rw [World.cell?_setCell_other _ _ _ _ (by intro e; injection e with h1 h2; omega)]; exact y1, by rw [World.frozen?_setCell]; exact y2⟩, HKX.out.trans (KeepX.set (.inl rfl) _), HKF.out.trans ((KeepsOthers.setCell _ _ _).from _), HBW2.out.setCell (p := ⟨g, q2, none⟩) (by show w.heap.size ≤ g; omega) _⟩, by simp [intOf]; omega⟩
            have h1 := HAV.out
            have h2 := HHV.out
            by_cases he : j = q2
            · subst he; rw [if_pos rfl, if_pos (by omega)]; omega
            · rw [if_neg he]
              by_cases h3 : j < q2
              · rw [if_pos h3, if_pos (by omega)]
              · rw [if_neg h3, if_neg (by omega)]
          · obtain rfl : q2 = q := by omega
            gi_wp2_with fail
            exact ⟨HKF.out, HKX.out, ⟨x0, HB2.out.congr fun j hj => by rw [if_pos hj, HSN.out]; omega, z2, y1, y2⟩, HBW2.out⟩
      case done =>
        rintro D' xs W hD hxs ⟨⟨e0, hBk, z, e1, f1⟩, hBw⟩ hK
        have HBK : Hid (BlkI W g q fun i => (mis t L i n : Nat)) := Lib.hid (hBk.congr fun j _ => by rw [hxs]; exact HK.out j)
        clear hBk
        gi_wp2_with fail
        refine wpIn_wide.2 ?_
        go_quiet (fail)
        gi_wp2
        refine ⟨by simp, .inl ⟨_, _, rfl, run_takeDeferred hK, ?_⟩⟩
        have hDz : w.heap.size ≤ D' := by have := Hb4.out.size; omega
        refine ⟨_, results_tmp3 rfl _ _ _, g, z, rfl, by omega, ?_, ?_⟩
        · refine BlkI.kept (w := W.drewN nq) (HBK.out.below (below_drewN (Below.refl _ _) nq) HBK.out.lt) (row := some D') (grownBy_putObj' _ D' (.deferred none)) fun r e => ?_
          cases e
          exact ⟨_, hK, rfl⟩
        · exact (below_drewN hBw nq).trans (belowK_b (w := w) (Nat.le_refl _) _ D' _ (.deferred none) hDz hK rfl rfl)

set_option maxRecDepth 100000 in
set_option maxHeartbeats 4000000 in
theorem sfind_any (ad : Option Addr) (n cap : Nat) (K : Int) (L : Nat → Nat → Bool) (t : ByteArray) (size : Int) (hn1 : 1 ≤ n) (hn : n ≤ 64) (ht : t.size ≤ 1000) (hr : rightB n L K = true) (hsz : t.size < n ∨ szB n size = true) (w : World) (hR : RowC w ad n L w.heap.size) :
    Calls Tryz.prog 85 #[lv ad n cap K, .string t, .int .i64 size] w fun e w' => ∃ v z, e = .returned (.tuple #[v, .int .i64 z, .int .i64 0]) ∧ w'.ownsRow w.heap.size 3 1 v (fnd t n L K (plc 0 (many t n L K 0))).length (ints (fnd t n L K (plc 0 (many t n L K 0)))) ∧ Below w.heap.size w w' := by
  have hmany : many t n L K 0 = t.size + 1 - n := by unfold many; rw [hr, if_pos rfl]; omega
  have h1 := Lib.hid fun w' (h : RowC w' ad n L w'.heap.size) => scounts_any ad n cap K L t size hn1 hn ht hr hsz w' h
  have h2 := fun ad' cap' w' (h : RowI w' ad' (t.size + 1 - n) (gi ((plc 0 (t.size + 1 - n)).map fun i => ((mis t L i n : Nat) : Int))) w'.heap.size) => hits_any ad' (t.size + 1 - n) cap' (gi ((plc 0 (t.size + 1 - n)).map fun i => ((mis t L i n : Nat) : Int))) K (by omega) w' h
  rw [hits_plc t n L K (t.size + 1 - n) (t.size + 1 - n) (Nat.le_refl _)] at h2
  rw [hmany]
  have H2 := Lib.hid h2
  have HG : Hid (∀ j, j < t.size + 1 - n → ((mis t L j n : Nat) : Int) = gi ((plc 0 (t.size + 1 - n)).map fun i => ((mis t L i n : Nat) : Int)) j) := Lib.hid fun j hj => by
    unfold gi plc
    simp [hj]
  generalize gi ((plc 0 (t.size + 1 - n)).map fun i => ((mis t L i n : Nat) : Int)) = G at *
  generalize fnd t n L K (plc 0 (t.size + 1 - n)) = F at *
  clear h2 hmany
  have hL := HoldsL.new w ad n cap K
  have hA : Below w.heap.size w (w.alloc (.cells #[.slice ad n cap, .int .i64 K] 52)) := (Below.refl _ _).alloc (Nat.le_refl _) _
  have HR1 := Lib.hid ((hR.below hA (Nat.le_refl _)).mono hA.size)
  have HA := Lib.hid hA
  have HL := Lib.hid hL
  obtain ⟨c0, c1, cl⟩ := hL
  clear hA hR
  generalize t.size + 1 - n = S at *
  go_enter Tryz.func85, Tryz.ntmps85
  go_wp2_with fail
  refine (h1.out _ HR1.out).mono ?_
  rintro e w1 ⟨g, z, rfl, hg, hB, hb1⟩
  obtain ⟨d0, d1, dl⟩ := id (HL.out.below hb1 cl)
  have HB := Lib.hid hB
  have Hb1 := Lib.hid (HA.out.trans (hb1.mono HA.out.size))
  clear hB hb1
  go_wp2_with fail
  refine (H2.out _ _ _ (HB.out.row.congr HG.out)).mono ?_
  rintro e w2 ⟨v, rfl, ho, hb2⟩
  have hzz := Hb1.out.size
  go_wp2_with fail
  refine bodyPost_ret (results_tmp3 rfl _ _ _) rfl ?_
  exact ⟨v, z, rfl, own_le ho hzz, Hb1.out.trans (hb2.mono hzz)⟩
end Go.Proofs.YtjfkmoinldlmaaaGreat

/- The walk of the law BeagleSums, over alive. -/
namespace Go.Proofs.YtjfkmoinldlmaaaGreat
open Go.RowKit Go.Shelf

/-- The law's own sum, modulo a prime. -/
def yN (k : Nat) (A B : Nat → Nat) (i : Nat) : Nat → Nat
  | 0 => 0
  | j + 1 => addN k (yN k A B i j) (mulN k (A j) (B (i + j)))
theorem yN_eq (k : Nat) (A B : Nat → Nat) (i m : Nat) : yN k A B i m = sumP A B i m % P3 k := by
  induction m with
  | zero => simp [yN, sumP]
  | succ m ih =>
    show addN k (yN k A B i m) (mulN k (A m) (B (i + m))) = (sumP A B i m + A m * B (i + m)) % P3 k
    unfold addN mulN
    rw [ih, Nat.mod_mod, Nat.mod_mod, ← Nat.mul_mod, ← Nat.add_mod]

set_option maxRecDepth 100000 in
set_option maxHeartbeats 8000000 in
theorem sums_good (hal : ∀ w, Calls Tryz.prog 6 #[] w fun e w' => e = .returned (.bool true) ∧ Below w.heap.size w w')
    (ap at' : Option Addr) (m n cp ct t : Nat) (A B : Nat → Nat) (hm1 : 1 ≤ m) (hmn : m ≤ n) (hm : m ≤ 200) (hn : n ≤ 1000) (ht : t ≤ 12) (hmN : m ≤ 2 ^ t) (hct : n ≤ ct) (hck : chkV m n ((2 ^ t : Nat) : Int) (grt A m) (grt B n) m = 0) (hsm : m * (grt A m * grt B n) ≤ 18446744073709551615) (w : World) (hA : RowU w ap m A w.heap.size) (hB : RowU w at' n B w.heap.size) :
    Calls Tryz.prog 4 #[.slice ap m cp, .slice at' n ct, .int .i64 ((2 ^ t : Nat) : Int)] w fun e w' => e = .returned (.bool true) ∧ Below w.heap.size w w' := by
  have hC := Lib.hid fun w' (h1 : RowU w' ap m A w'.heap.size) (h2 : RowU w' at' n B w'.heap.size) => corr_good ap at' m n cp ct t A B hm1 (by omega) (by omega) (by omega) ht hmN hct hck hsm w' h1 h2
  have hcn := Lib.hid fun w' => count_any (m : Int) (n : Int) ((2 ^ t : Nat) : Int) (by omega) (by omega) (by omega) (by omega) w'
  have hal := Lib.hid hal
  have hml := Lib.hid fun k (hk : k < 3) a b w' => mul_res k hk a b w'
  have had := Lib.hid fun k (hk : k < 3) a b w' => add_res k hk a b w'
  have hof := Lib.hid fun k (hk : k < 3) a w' => of_res k hk a w'
  have hX := Lib.hid fun k i => yN_eq k A B i m
  obtain ⟨S, hS⟩ : ∃ S, S = n - m + 1 := ⟨_, rfl⟩
  rw [← hS] at hC
  have hmI : (1 : Int) ≤ m := by omega
  have hmI2 : (m : Int) ≤ 200 := by omega
  have hnI : (m : Int) ≤ n := by omega
  have hnI2 : (n : Int) ≤ 1000 := by omega
  have hSI : (1 : Int) ≤ S := by omega
  have hSI2 : (S : Int) ≤ 1000 := by omega
  have hSn : ∀ i, i < S → i + m ≤ n := by omega
  have hSe : (n : Int) - m + 1 = S := by omega
  generalize cntV (m : Int) (n : Int) ((2 ^ t : Nat) : Int) = C at *
  generalize hX2 : (fun i => sumP A B i m) = X at *
  have hX : Hid (∀ k i, yN k A B i m = X i % P3 k) := Lib.hid fun k i => by rw [hX.out k i, ← hX2]
  generalize ((2 ^ t : Nat) : Int) = N at *
  clear hX2 hsm hck hmN hS
  have HA := Lib.hid hA
  have HB := Lib.hid hB
  clear hA hB
  go_enter Tryz.func4, Tryz.ntmps4
  go_wp2_with fail
  refine (hC.out _ HA.out HB.out).mono ?_
  rintro e w1 ⟨v, rfl, ho, hb⟩
  obtain ⟨ad, cap, rfl⟩ := own_slice ho
  have HR := Lib.hid (rowU_of_own ho)
  have Hb := Lib.hid hb
  clear hb ho
  go_wp2_with fail
  refine (hcn.out _).mono ?_
  rintro e w2 ⟨rfl, hb2⟩
  have HR2 := Lib.hid ((HR.out.below hb2 (Nat.le_refl _)).mono hb2.size)
  have Hb2 := Lib.hid (Hb.out.trans (hb2.mono Hb.out.size))
  clear hb2 Hb HR
  go_wp2_with fail
  go_loopw [71] (fun i wr => ∃ q : Nat, q ≤ S ∧ i = .int .i64 q ∧ RowU wr ad S X wr.heap.size ∧ Below w.heap.size w wr) (fun i _ => S - (intOf i).toNat)
  case atStart => exact ⟨0, by omega, rfl, HR2.out, Hb2.out⟩
  case round =>
    obtain ⟨q, hq, rfl, hR, hb⟩ := hrel
    have HRq := Lib.hid hR
    have Hbq := Lib.hid hb
    clear hR hb
    obtain ⟨wx, rfl⟩ : ∃ wx, wx = wr := ⟨wr, rfl⟩
    by_cases hlt : q < S
    · have hlti : (q : Int) < S := by omega
      have hq0 : (0 : Int) ≤ q := by omega
      have hqm := hSn q hlt
      obtain ⟨bb, ob, rfl, hbb, hcb⟩ := HRq.out.at hlt
      go_wp2_with fail
      go_loopw [76] (fun i wr => ∃ k : Nat, k ≤ 3 ∧ i = .int .i64 k ∧ Below wx.heap.size wx wr) (fun i _ => 3 - (intOf i).toNat)
      case atStart => exact ⟨0, by omega, rfl, Below.refl _ _⟩
      case round =>
        obtain ⟨k, hk, rfl, hb⟩ := hrel
        have Hbk := Lib.hid hb
        clear hb
        obtain ⟨wy, rfl⟩ : ∃ wy, wy = wr := ⟨wr, rfl⟩
        by_cases hlk : k < 3
        · have hlki : (k : Int) < 3 := by omega
          have hk0 : (0 : Int) ≤ k := by omega
          have HY0 : Hid (yN k A B q 0 = 0) := Lib.hid rfl
          have HY : Hid (∀ j, yN k A B q (j + 1) = addN k (yN k A B q j) (mulN k (A j) (B (q + j)))) := Lib.hid fun j => rfl
          have HYm := Lib.hid (hX.out k q)
          generalize yN k A B q = Y at HY0 HY HYm
          go_wp2_with fail
          go_loopw [13, 81] (fun y i wr => ∃ j : Nat, j ≤ m ∧ i = .int .i64 j ∧ y = .int .u64 (Y j : Nat) ∧ Below wx.heap.size wx wr) (fun _ i _ => m - (intOf i).toNat)
          case atStart => exact ⟨0, by omega, rfl, by rw [HY0.out]; rfl, Hbk.out⟩
          case round =>
            obtain ⟨j, hj, rfl, rfl, hb⟩ := hrel
            have Hbj := Lib.hid hb
            clear hb
            by_cases hlj : j < m
            · have hlji : (j : Int) < m := by omega
              have hj0 : (0 : Int) ≤ j := by omega
              have HAj := Lib.hid ((HA.out.below Hbq.out (Nat.le_refl _)).mono Hbq.out.size)
              have HBj := Lib.hid ((HB.out.below Hbq.out (Nat.le_refl _)).mono Hbq.out.size)
              obtain ⟨b1, o1, rfl, hb1, hc1⟩ := HAj.out.at hlj
              obtain ⟨b2, o2, rfl, hb2, hc2⟩ := HBj.out.at (show q + j < n by omega)
              have e1 := (Hbj.out.cell (p := ⟨b1, o1 + j, none⟩) hb1).trans hc1
              have e2 := (Hbj.out.cell (p := ⟨b2, o2 + (q + j), none⟩) hb2).trans hc2
              have l1 := Nat.lt_of_lt_of_le hb1 Hbj.out.size
              have l2 := Nat.lt_of_lt_of_le hb2 Hbj.out.size
              have hqj1 : (q : Int) + j < n := by omega
              have hqj2 : (0 : Int) ≤ (q : Int) + j := by omega
              have hqj3 : IntKind.i64.wrap ((q : Int) + j) = (q : Int) + j := by rw [IntKind.wrap_i64]; omega
              have hqj4 : ((q : Int) + j).toNat = q + j := by omega
              clear hc1 hc2
              go_wp2_with fail
              go_region_held3 (fun w' => Old wr w') (first | with_reducible exact Old.start _ | with_reducible exact Old.calld (Old.refl _) (by with_reducible assumption) | with_reducible exact Old.call (by with_reducible assumption) (by with_reducible assumption)) (first | (go_at_call 16; refine (hml.out k hlk _ _ _).mono ?_; rintro e w' ⟨rfl, hb'⟩) | (go_at_call 15; refine (had.out k hlk _ _ _).mono ?_; rintro e w' ⟨rfl, hb'⟩))
              obtain ⟨r1, r2, r3, r4⟩ := (show Old wr _ by with_reducible assumption)
              clear hqj1 hqj2 hqj3 hqj4
              go_wp2_with fail
              go_roundw
              case rel => exact ⟨j + 1, by omega, by go_num, by rw [HY.out], Hbj.out.trans (r4.mono Hbj.out.size)⟩
              case measure => simp [intOf]; omega
            · obtain rfl : j = m := by omega
              go_wp2_with fail
              refine (hof.out k hlk _ _).mono ?_
              rintro e w5 ⟨rfl, hb5⟩
              have hb5x := Hbj.out.trans (hb5.mono Hbj.out.size)
              have hne : ((Y j : Int) != ((X q % P3 k : Nat) : Int)) = false := by rw [HYm.out]; simp
              go_wp2_with fail
              go_roundw
              case rel => exact ⟨k + 1, by omega, by go_num, hb5x⟩
              case measure => simp [intOf]; omega
        · obtain rfl : k = 3 := by omega
          go_wp2_with fail
          go_roundw
          case rel => exact ⟨q + 1, by omega, by go_num, (HRq.out.below Hbk.out (Nat.le_refl _)).mono Hbk.out.size, Hbq.out.trans (Hbk.out.mono Hbq.out.size)⟩
          case measure => simp [intOf]; omega
    · obtain rfl : q = S := by omega
      go_wp2_with fail
      refine (hal.out _).mono ?_
      rintro e w3 ⟨rfl, hb3⟩
      go_wp2_with fail
      go_ret
      exact ⟨rfl, Hbq.out.trans (hb3.mono Hbq.out.size)⟩

set_option maxRecDepth 100000 in
set_option maxHeartbeats 8000000 in
theorem sums_bad (hal : ∀ w, Calls Tryz.prog 6 #[] w fun e w' => e = .returned (.bool true) ∧ Below w.heap.size w w')
    (ap at' : Option Addr) (m n cp ct : Nat) (A B : Nat → Nat) (size : Int) (hm : m ≤ 200) (hn : n ≤ 1000) (hbad : ¬ ((1 : Int) ≤ m ∧ (m : Int) ≤ n) ∨ chkV m n size (grt A m) (grt B n) m ≠ 0) (w : World) (hA : RowU w ap m A w.heap.size) (hB : RowU w at' n B w.heap.size) :
    Calls Tryz.prog 4 #[.slice ap m cp, .slice at' n ct, .int .i64 size] w fun e w' => e = .returned (.bool true) ∧ Below w.heap.size w w' := by
  have hC := Lib.hid fun w' (h1 : RowU w' ap m A w'.heap.size) (h2 : RowU w' at' n B w'.heap.size) => corr_bad ap at' m n cp ct A B size (by omega) (by omega) hbad w' h1 h2
  have hal := Lib.hid hal
  have HA := Lib.hid hA
  have HB := Lib.hid hB
  have hmI : (0 : Int) ≤ m := by omega
  have hmI2 : (m : Int) ≤ 200 := by omega
  have hnI : (0 : Int) ≤ n := by omega
  have hnI2 : (n : Int) ≤ 1000 := by omega
  have hsl : ¬ ((1 : Int) ≤ m ∧ (m : Int) ≤ n) → chkV m n size (grt A m) (grt B n) m = 0 := fun h => by unfold chkV; rw [if_pos h]
  clear hA hB
  generalize chkV m n size (grt A m) (grt B n) m = R at *
  by_cases hR : R = 0
  · subst hR
    have hns : ¬ ((1 : Int) ≤ m ∧ (m : Int) ≤ n) := hbad.resolve_right (fun h => h rfl)
    have hcn := Lib.hid fun w' => count_no (m : Int) (n : Int) size hns (by omega) w'
    clear hsl hbad
    by_cases hm0 : m = 0
    · subst hm0
      clear hns
      go_enter Tryz.func4, Tryz.ntmps4
      go_wp2_with fail
      refine (hC.out _ HA.out HB.out).mono ?_
      rintro e w1 ⟨rfl, hb⟩
      go_wp2_with fail
      refine (hcn.out _).mono ?_
      rintro e w2 ⟨rfl, hb2⟩
      go_wp2_with fail
      have Hb := Lib.hid (hb.trans (hb2.mono hb.size))
      clear hb hb2
      go_loopw [71] (fun i wr => i = .int .i64 0 ∧ Below w.heap.size w wr) (fun _ _ => 0)
      case atStart => exact ⟨rfl, Hb.out⟩
      case round =>
        obtain ⟨rfl, hb⟩ := hrel
        go_wp2_with fail
        refine (hal.out _).mono ?_
        rintro e w3 ⟨rfl, hb3⟩
        go_wp2_with fail
        go_ret
        exact ⟨rfl, hb.trans (hb3.mono hb.size)⟩
    · have hm1 : (0 : Int) < m := by omega
      have hmn : (n : Int) - m + 1 ≤ 0 := by omega
      clear hns hm0
      go_enter Tryz.func4, Tryz.ntmps4
      go_wp2_with fail
      refine (hC.out _ HA.out HB.out).mono ?_
      rintro e w1 ⟨rfl, hb⟩
      go_wp2_with fail
      refine (hcn.out _).mono ?_
      rintro e w2 ⟨rfl, hb2⟩
      go_wp2_with fail
      have Hb := Lib.hid (hb.trans (hb2.mono hb.size))
      clear hb hb2
      go_loopw [71] (fun i wr => i = .int .i64 0 ∧ Below w.heap.size w wr) (fun _ _ => 0)
      case atStart => exact ⟨rfl, Hb.out⟩
      case round =>
        obtain ⟨rfl, hb⟩ := hrel
        go_wp2_with fail
        refine (hal.out _).mono ?_
        rintro e w3 ⟨rfl, hb3⟩
        go_wp2_with fail
        go_ret
        exact ⟨rfl, hb.trans (hb3.mono hb.size)⟩
  · have hRe : (R == 0) = false := by rw [beq_eq_false_iff_ne]; exact hR
    have hRn : (R != 0) = true := by rw [bne_iff_ne]; exact hR
    clear hsl hbad
    go_enter Tryz.func4, Tryz.ntmps4
    go_wp2_with fail
    refine (hC.out _ HA.out HB.out).mono ?_
    rintro e w1 ⟨rfl, hb⟩
    go_wp2_with fail
    refine (hal.out _).mono ?_
    rintro e w2 ⟨rfl, hb2⟩
    go_wp2_with fail
    go_ret
    exact ⟨rfl, hb.trans (hb2.mono hb.size)⟩

set_option maxRecDepth 100000 in
set_option maxHeartbeats 8000000 in
theorem sums_long (hal : ∀ w, Calls Tryz.prog 6 #[] w fun e w' => e = .returned (.bool true) ∧ Below w.heap.size w w')
    (ap at' : Option Addr) (m n cp ct : Nat) (size : Int) (h : 200 < m ∨ 1000 < n) (w : World) :
    Calls Tryz.prog 4 #[.slice ap m cp, .slice at' n ct, .int .i64 size] w fun e w' => e = .returned (.bool true) ∧ Below w.heap.size w w' := by
  have hal := Lib.hid hal
  by_cases hm : (200 : Int) < m
  · clear h
    go_enter Tryz.func4, Tryz.ntmps4
    go_wp2_with fail
    refine (hal.out _).mono ?_
    rintro e w2 ⟨rfl, hb2⟩
    go_wp2_with fail
    go_ret
    exact ⟨rfl, hb2⟩
  · have hn : (1000 : Int) < n := by omega
    clear h
    go_enter Tryz.func4, Tryz.ntmps4
    go_wp2_with fail
    refine (hal.out _).mono ?_
    rintro e w2 ⟨rfl, hb2⟩
    go_wp2_with fail
    go_ret
    exact ⟨rfl, hb2⟩

theorem sums_any (hal : ∀ w, Calls Tryz.prog 6 #[] w fun e w' => e = .returned (.bool true) ∧ Below w.heap.size w w')
    (ap at' : Option Addr) (m n cp ct : Nat) (A B : Nat → Nat) (size : Int) (hct : n ≤ ct) (w : World) (hA : RowU w ap m A w.heap.size) (hB : RowU w at' n B w.heap.size) :
    Calls Tryz.prog 4 #[.slice ap m cp, .slice at' n ct, .int .i64 size] w fun e w' => e = .returned (.bool true) ∧ Below w.heap.size w w' := by
  by_cases hl : 200 < m ∨ 1000 < n
  · exact sums_long hal ap at' m n cp ct size hl w
  · by_cases hbad : ¬ ((1 : Int) ≤ m ∧ (m : Int) ≤ n) ∨ chkV m n size (grt A m) (grt B n) m ≠ 0
    · exact sums_bad hal ap at' m n cp ct A B size (by omega) (by omega) hbad w hA hB
    · have h1 : (1 : Int) ≤ m ∧ (m : Int) ≤ n := Classical.byContradiction fun h => hbad (.inl h)
      have h2 : chkV m n size (grt A m) (grt B n) m = 0 := Classical.byContradiction fun h => hbad (.inr h)
      have hs : szB m size = true := by
        cases h : szB m size with
        | true => rfl
        | false => unfold chkV at h2; rw [if_neg (fun h => h h1), if_pos h] at h2; cases h2
      obtain ⟨t, ht, rfl, hmN⟩ := sz_pow hs
      have hsm : m * (grt A m * grt B n) ≤ 18446744073709551615 := by
        unfold chkV at h2
        rw [if_neg (fun h => h h1), if_neg (by rw [hs]; decide)] at h2
        by_cases h : m * (grt A m * grt B n) ≤ 18446744073709551615
        · exact h
        · rw [if_neg h] at h2; cases h2
      exact sums_good hal ap at' m n cp ct t A B (by omega) (by omega) (by omega) (by omega) ht hmN hct h2 hsm w hA hB
end Go.Proofs.YtjfkmoinldlmaaaGreat
