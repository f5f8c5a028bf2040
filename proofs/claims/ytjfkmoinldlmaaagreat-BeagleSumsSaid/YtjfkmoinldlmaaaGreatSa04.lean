/- Leaves as values, rows of classes and of numbers; walks of leaf.Right, ref Right, few, Places. -/
import Derived.Test.YtjfkmoinldlmaaaGreatSa03
import Derived.WalkSmall
namespace Go.Proofs.YtjfkmoinldlmaaaGreat
open Go.RowKit

/-- n classes, one behind the other, below block m. -/
abbrev RowC (w : World) (ad : Option Addr) (n : Nat) (L : Nat → Nat → Bool) (m : Nat) : Prop :=
  n = 0 ∨ ∃ b o, ad = some ⟨b, o, none⟩ ∧ b < m ∧ ∀ j, j < n → w.cell? ⟨b, o + j * 4, none⟩ = some (.int .u64 (wd (L j) 0 : Nat)) ∧ w.cell? ⟨b, o + j * 4 + 1, none⟩ = some (.int .u64 (wd (L j) 1 : Nat)) ∧
    w.cell? ⟨b, o + j * 4 + 2, none⟩ = some (.int .u64 (wd (L j) 2 : Nat)) ∧ w.cell? ⟨b, o + j * 4 + 3, none⟩ = some (.int .u64 (wd (L j) 3 : Nat))

theorem RowC.below {w w' : World} {ad : Option Addr} {n m k : Nat} {L : Nat → Nat → Bool} (h : RowC w ad n L m) (hb : Below k w w') (hm : m ≤ k) : RowC w' ad n L m := by
  rcases h with h | ⟨b, o, ha, hlt, hc⟩
  · exact .inl h
  · refine .inr ⟨b, o, ha, hlt, fun j hj => ?_⟩
    obtain ⟨h0, h1, h2, h3⟩ := hc j hj
    have e := fun i => hb.cell (p := ⟨b, i, none⟩) (Nat.lt_of_lt_of_le hlt hm)
    exact ⟨(e _).trans h0, (e _).trans h1, (e _).trans h2, (e _).trans h3⟩

theorem RowC.at {w : World} {ad : Option Addr} {n m : Nat} {L : Nat → Nat → Bool} (h : RowC w ad n L m) {j : Nat} (hj : j < n) : ∃ b o, ad = some ⟨b, o, none⟩ ∧ b < m ∧ w.cell? ⟨b, o + j * 4, none⟩ = some (.int .u64 (wd (L j) 0 : Nat)) ∧ w.cell? ⟨b, o + j * 4 + 1, none⟩ = some (.int .u64 (wd (L j) 1 : Nat)) ∧
    w.cell? ⟨b, o + j * 4 + 2, none⟩ = some (.int .u64 (wd (L j) 2 : Nat)) ∧ w.cell? ⟨b, o + j * 4 + 3, none⟩ = some (.int .u64 (wd (L j) 3 : Nat)) := by
  rcases h with h | ⟨b, o, ha, hlt, hc⟩
  · omega
  · exact ⟨b, o, ha, hlt, hc j hj⟩

theorem RowC.mono {w : World} {ad : Option Addr} {n m m' : Nat} {L : Nat → Nat → Bool} (h : RowC w ad n L m) (hm : m ≤ m') : RowC w ad n L m' := by
  rcases h with h | ⟨b, o, ha, hlt, hc⟩
  · exact .inl h
  · exact .inr ⟨b, o, ha, Nat.lt_of_lt_of_le hlt hm, hc⟩

/-- Is there one below k? -/
def anyN (p : Nat → Bool) : Nat → Bool
  | 0 => false
  | k + 1 => anyN p k || p k
theorem anyN_iff (p : Nat → Bool) (k : Nat) : anyN p k = true ↔ ∃ j, j < k ∧ p j = true := by
  induction k with
  | zero => simp [anyN]
  | succ k ih =>
    simp only [anyN, Bool.or_eq_true, ih]
    constructor
    · rintro (⟨j, hj, h⟩ | h)
      · exact ⟨j, by omega, h⟩
      · exact ⟨k, by omega, h⟩
    · rintro ⟨j, hj, h⟩
      by_cases he : j = k
      · subst he; exact .inr h
      · exact .inl ⟨j, by omega, h⟩
theorem anyN_hit {p : Nat → Bool} {k n : Nat} (hk : k < n) (h : p k = true) : anyN p n = true := (anyN_iff p n).2 ⟨k, hk, h⟩

set_option maxRecDepth 100000 in
set_option maxHeartbeats 1000000 in
theorem index_any (ad : Option Addr) (n cap : Nat) (L : Nat → Nat → Bool) (S : Nat → Bool) (hn : (n : Int) ≤ 4611686018427387904) (w : World) (hR : RowC w ad n L w.heap.size) :
    Calls Tryz.prog 150 #[.slice ad n cap, cv S] w fun e w' => ∃ r : Int, e = .returned (.int .i64 r) ∧ decide (0 ≤ r) = anyN (fun j => clsEq S (L j)) n ∧ Below w.heap.size w w' := by
  go_enter Tryz.func150, Tryz.ntmps150
  go_wp2_with fail
  have hS := HoldsC.new w S
  obtain ⟨W0, hW0⟩ : ∃ W0 : World, w.alloc (.cells #[.int .u64 (wd S 0 : Nat), .int .u64 (wd S 1 : Nat), .int .u64 (wd S 2 : Nat), .int .u64 (wd S 3 : Nat)] 100) = W0 := ⟨_, rfl⟩
  have HB : Below w.heap.size w W0 := by subst hW0; exact (Below.refl _ _).alloc (Nat.le_refl _) _
  have hR0 := hR.below HB (Nat.le_refl _)
  rw [hW0] at hS ⊢
  clear hW0 hR
  have l0 := hS.2.2
  go_loopw [8] (fun i wr => ∃ k : Nat, k ≤ n ∧ i = .int .i64 k ∧ anyN (fun j => clsEq S (L j)) k = false ∧ Old W0 wr) (fun i _ => n - (intOf i).toNat)
  case atStart => exact ⟨0, by omega, rfl, rfl, Old.refl _⟩
  case round =>
    obtain ⟨k, hk, rfl, hany, hO⟩ := hrel
    have hS1 := hS.below hO.2.2.2 l0
    have hR1 := hR0.below hO.2.2.2 (Nat.le_of_lt l0)
    have HB1 := HB.trans (hO.2.2.2.mono HB.size)
    have HO := Lib.hid hO
    have HA := Lib.hid hany
    clear hO hany
    by_cases hlt : k < n
    · obtain ⟨b, o, rfl, hb, e0, e1, e2, e3⟩ := hR1.at hlt
      clear hR1 hR0
      have hlti : (k : Int) < n := by omega
      cases hq : clsEq S (L k)
      · go_wp2_with fail
        go_region
        go_wp2
        refine ⟨⟨k + 1, by omega, by go_num, ?_, Old.trans HO.out (Old.of (below_drewN (Below.refl _ _) _))⟩, by simp [intOf]; omega⟩
        show (anyN _ k || clsEq S (L k)) = false
        rw [HA.out, hq]; rfl
      · go_wp2_with fail
        go_region
        go_wp2
        go_ret
        exact ⟨k, rfl, by rw [anyN_hit hlt hq]; simp, HB1.drew⟩
    · obtain rfl : k = n := by omega
      go_wp2
      go_ret
      exact ⟨-1, rfl, by rw [HA.out]; rfl, HB1⟩

set_option maxRecDepth 100000 in
set_option maxHeartbeats 1000000 in
theorem contains_any (ad : Option Addr) (n cap : Nat) (L : Nat → Nat → Bool) (S : Nat → Bool) (hn : (n : Int) ≤ 4611686018427387904) (w : World) (hR : RowC w ad n L w.heap.size) :
    Calls Tryz.prog 92 #[.slice ad n cap, cv S] w fun e w' => e = .returned (.bool (anyN (fun j => clsEq S (L j)) n)) ∧ Below w.heap.size w w' := by
  go_enter Tryz.func92, Tryz.ntmps92
  have HB : Below w.heap.size w (w.alloc (.cells #[.int .u64 (wd S 0 : Nat), .int .u64 (wd S 1 : Nat), .int .u64 (wd S 2 : Nat), .int .u64 (wd S 3 : Nat)] 100)) := (Below.refl _ _).alloc (Nat.le_refl _) _
  have hR0 := (hR.below HB (Nat.le_refl _)).mono HB.size
  go_wp2_with (go_at_call 150; refine (index_any ad n cap L S hn _ (by assumption)).mono ?_; rintro e w1 ⟨r, rfl, hr, hb⟩)
  go_ret
  exact ⟨rfl, HB.trans (hb.mono HB.size)⟩

set_option maxRecDepth 100000 in
theorem contains0_any (ad : Option Addr) (n cap : Nat) (L : Nat → Nat → Bool) (hn : (n : Int) ≤ 4611686018427387904) (w : World) (hR : RowC w ad n L w.heap.size) :
    Calls Tryz.prog 92 #[.slice ad n cap, .agg #[.int .u64 0, .int .u64 0, .int .u64 0, .int .u64 0]] w fun e w' => e = .returned (.bool (anyN (fun j => clsEq noByte (L j)) n)) ∧ Below w.heap.size w w' := by
  have h := contains_any ad n cap L noByte hn w hR
  rw [cv0] at h
  exact h

/-- A leaf as the program holds it. -/
abbrev lv (ad : Option Addr) (n cap : Nat) (K : Int) : Value := .agg #[.slice ad n cap, .int .i64 K]

/-- A variable that holds a leaf. -/
abbrev HoldsL (w : World) (B : Nat) (ad : Option Addr) (n cap : Nat) (K : Int) : Prop :=
  w.cell? ⟨B, 0, none⟩ = some (.slice ad n cap) ∧ w.cell? ⟨B, 1, none⟩ = some (.int .i64 K) ∧ B < w.heap.size
theorem HoldsL.new (w : World) (ad : Option Addr) (n cap : Nat) (K : Int) : HoldsL (w.alloc (.cells #[.slice ad n cap, .int .i64 K] 52)) w.heap.size ad n cap K := by
  refine ⟨?_, ?_, ?_⟩ <;> simp [go_sem]
theorem HoldsL.below {w w' : World} {B n' : Nat} {ad : Option Addr} {n cap : Nat} {K : Int} (h : HoldsL w B ad n cap K) (hb : Below n' w w') (hn : B < n') : HoldsL w' B ad n cap K :=
  ⟨(hb.cell (p := ⟨B, 0, none⟩) hn).trans h.1, (hb.cell (p := ⟨B, 1, none⟩) hn).trans h.2.1, Nat.lt_of_lt_of_le h.2.2 hb.size⟩

/-- May a leaf be? -/
def rightB (n : Nat) (L : Nat → Nat → Bool) (K : Int) : Bool :=
  decide (1 ≤ n) && (decide (n ≤ 64) && (!anyN (fun j => clsEq noByte (L j)) n && (decide (0 ≤ K) && decide (K ≤ 64))))

set_option maxRecDepth 100000 in
set_option maxHeartbeats 4000000 in
theorem right_any (ad : Option Addr) (n cap : Nat) (K : Int) (L : Nat → Nat → Bool) (hn : (n : Int) ≤ 4611686018427387904) (w : World) (hR : RowC w ad n L w.heap.size) :
    Calls Tryz.prog 134 #[lv ad n cap K] w fun e w' => e = .returned (.bool (rightB n L K)) ∧ Below w.heap.size w w' := by
  go_enter Tryz.func134, Tryz.ntmps134
  have HB : Below w.heap.size w (w.alloc (.cells #[.slice ad n cap, .int .i64 K] 52)) := (Below.refl _ _).alloc (Nat.le_refl _) _
  have hR0 := (hR.below HB (Nat.le_refl _)).mono HB.size
  have hl := HoldsL.new w ad n cap K
  go_wp2_with fail
  refine (contains0_any ad n cap L hn _ hR0).mono ?_
  rintro e w1 ⟨rfl, hb⟩
  have hl1 := hl.below hb hl.2.2
  have HB1 := HB.trans (hb.mono HB.size)
  clear hl HB hb hR0 hR
  have hr : ∀ a1 a2 a3 a4 a5 : Bool, decide (1 ≤ n) = a1 → decide (n ≤ 64) = a2 → anyN (fun j => clsEq noByte (L j)) n = a3 → decide (0 ≤ K) = a4 → decide (K ≤ 64) = a5 → rightB n L K = (a1 && (a2 && (!a3 && (a4 && a5)))) := by
    rintro a1 a2 a3 a4 a5 rfl rfl rfl rfl rfl; rfl
  generalize hany : anyN (fun j => clsEq noByte (L j)) n = any at hr ⊢
  have HR := Lib.hid hr
  clear hr
  by_cases h1 : (1 : Int) ≤ n
  · by_cases h2 : (n : Int) ≤ 64
    · cases any
      · by_cases h4 : 0 ≤ K
        · by_cases h5 : K ≤ 64
          · go_wp2
            go_ret
            exact ⟨by rw [HR.out true true false true true (by simp; omega) (by simp; omega) rfl (by simp; omega) (by simp; omega)]; rfl, HB1⟩
          · go_wp2
            go_ret
            exact ⟨by rw [HR.out true true false true _ (by simp; omega) (by simp; omega) rfl (by simp; omega) rfl]; rfl, HB1⟩
        · go_wp2
          go_ret
          exact ⟨by rw [HR.out true true false false _ (by simp; omega) (by simp; omega) rfl (by simp; omega) rfl]; rfl, HB1⟩
      · go_wp2
        go_ret
        exact ⟨by rw [HR.out true true true _ _ (by simp; omega) (by simp; omega) rfl rfl rfl]; rfl, HB1⟩
    · go_wp2
      go_ret
      exact ⟨by rw [HR.out true false _ _ _ (by simp; omega) (by simp; omega) rfl rfl rfl]; rfl, HB1⟩
  · go_wp2
    go_ret
    exact ⟨by rw [HR.out false _ _ _ _ (by simp; omega) rfl rfl rfl rfl]; rfl, HB1⟩

theorem cnt_zero (S : Nat → Bool) : (cnt S = 0) ↔ clsEq noByte S = true := by
  have h : ∀ k, cntN S k = 0 ↔ ∀ n, n < k → S n = false := by
    intro k
    induction k with
    | zero => simp [cntN]
    | succ k ih =>
      simp only [cntN]
      by_cases hk : S k = true
      · simp only [hk, if_true]
        constructor
        · intro h; omega
        · intro h; have := h k (by omega); rw [hk] at this; cases this
      · have hf : S k = false := by simpa using hk
        simp only [hf, Bool.false_eq_true, if_false, Nat.add_zero, ih]
        constructor
        · intro h n hn
          by_cases he : n = k
          · subst he; exact hf
          · exact h n (by omega)
        · intro h n hn; exact h n (by omega)
  rw [clsEq_iff]
  unfold cnt
  rw [h 256]
  exact ⟨fun h n hn => (h n hn).symm, fun h n hn => (h n hn).symm⟩

set_option maxRecDepth 100000 in
set_option maxHeartbeats 4000000 in
theorem rright_any (ad : Option Addr) (n cap : Nat) (K : Int) (L : Nat → Nat → Bool) (hn : (n : Int) ≤ 4611686018427387904) (w : World) (hR : RowC w ad n L w.heap.size) :
    Calls Tryz.prog 172 #[lv ad n cap K] w fun e w' => e = .returned (.bool (rightB n L K)) ∧ Below w.heap.size w w' := by
  have hr : ∀ a1 a2 a3 a4 a5 : Bool, decide (1 ≤ n) = a1 → decide (n ≤ 64) = a2 → anyN (fun j => clsEq noByte (L j)) n = a3 → decide (0 ≤ K) = a4 → decide (K ≤ 64) = a5 → rightB n L K = (a1 && (a2 && (!a3 && (a4 && a5)))) := by
    rintro a1 a2 a3 a4 a5 rfl rfl rfl rfl rfl; rfl
  have hz : ∀ j, cnt (L j) = 0 ↔ clsEq noByte (L j) = true := fun j => cnt_zero (L j)
  have HR := Lib.hid hr
  have HZ := Lib.hid hz
  clear hr hz
  have HB : Below w.heap.size w (w.alloc (.cells #[.slice ad n cap, .int .i64 K] 52)) := (Below.refl _ _).alloc (Nat.le_refl _) _
  by_cases h1 : (1 : Int) ≤ n
  · by_cases h2 : (n : Int) ≤ 64
    · by_cases h4 : 0 ≤ K
      · by_cases h5 : K ≤ 64
        · go_enter Tryz.func172, Tryz.ntmps172
          go_wp2_with fail
          have hl := HoldsL.new w ad n cap K
          obtain ⟨W0, hW0⟩ : ∃ W0 : World, w.alloc (.cells #[.slice ad n cap, .int .i64 K] 52) = W0 := ⟨_, rfl⟩
          have hR0 := hR.below HB (Nat.le_refl _)
          rw [hW0] at hl HB hR0 ⊢
          clear hW0 hR
          have l0 := hl.2.2
          go_loopw [3] (fun i wr => ∃ k : Nat, k ≤ n ∧ i = .int .i64 k ∧ anyN (fun j => clsEq noByte (L j)) k = false ∧ Old W0 wr) (fun i _ => n - (intOf i).toNat)
          case atStart => exact ⟨0, by omega, rfl, rfl, Old.refl _⟩
          case round =>
            obtain ⟨k, hk, rfl, hany, hO⟩ := hrel
            have hl1 := hl.below hO.2.2.2 l0
            have hR1 := hR0.below hO.2.2.2 (Nat.le_of_lt l0)
            have HB1 := HB.trans (hO.2.2.2.mono HB.size)
            have HO := Lib.hid hO
            have HA := Lib.hid hany
            clear hO hany
            by_cases hlt : k < n
            · obtain ⟨b, o, rfl, hb, e0, e1, e2, e3⟩ := hR1.at hlt
              clear hR1 hR0
              have hlti : (k : Int) < n := by omega
              by_cases hq : cnt (L k) = 0
              · go_wp2_with (go_at_call 218; refine (rsize_any _ _).mono ?_; rintro e w1 ⟨rfl, hb1⟩)
                go_ret
                exact ⟨by rw [HR.out _ _ true _ _ rfl rfl (anyN_hit hlt ((HZ.out k).1 hq)) rfl rfl]; simp, HB1.trans (hb1.mono HB1.size)⟩
              · go_wp2_with (go_at_call 218; refine (rsize_any _ _).mono ?_; rintro e w1 ⟨rfl, hb1⟩)
                refine ⟨⟨k + 1, by omega, by go_num, ?_, Old.trans HO.out (Old.of hb1)⟩, by simp [intOf]; omega⟩
                have hq' : clsEq noByte (L k) = false := by rw [HZ.out k] at hq; simpa using hq
                show (anyN _ k || clsEq noByte (L k)) = false
                rw [HA.out, hq']; rfl
            · obtain rfl : k = n := by omega
              go_wp2
              go_ret
              exact ⟨by rw [HR.out true true false true true (by simp; omega) (by simp; omega) HA.out (by simp; omega) (by simp; omega)]; rfl, HB1⟩
        · go_enter Tryz.func172, Tryz.ntmps172
          go_wp2_with fail
          go_ret
          exact ⟨by rw [HR.out _ _ _ _ false rfl rfl rfl rfl (by simp; omega)]; simp, HB⟩
      · go_enter Tryz.func172, Tryz.ntmps172
        go_wp2_with fail
        go_ret
        exact ⟨by rw [HR.out _ _ _ false _ rfl rfl rfl (by simp; omega) rfl]; simp, HB⟩
    · go_enter Tryz.func172, Tryz.ntmps172
      go_wp2_with fail
      go_ret
      exact ⟨by rw [HR.out _ false _ _ _ rfl (by simp; omega) rfl rfl rfl]; simp, HB⟩
  · go_enter Tryz.func172, Tryz.ntmps172
    go_wp2_with fail
    go_ret
    exact ⟨by rw [HR.out false _ _ _ _ (by simp; omega) rfl rfl rfl rfl]; simp, HB⟩

/-- n numbers, one behind the other, below block m. -/
abbrev RowI (w : World) (ad : Option Addr) (n : Nat) (A : Nat → Int) (m : Nat) : Prop :=
  n = 0 ∨ ∃ b o, ad = some ⟨b, o, none⟩ ∧ b < m ∧ ∀ j, j < n → w.cell? ⟨b, o + j, none⟩ = some (.int .i64 (A j))
theorem RowI.below {w w' : World} {ad : Option Addr} {n m k : Nat} {A : Nat → Int} (h : RowI w ad n A m) (hb : Below k w w') (hm : m ≤ k) : RowI w' ad n A m := by
  rcases h with h | ⟨b, o, ha, hlt, hc⟩
  · exact .inl h
  · exact .inr ⟨b, o, ha, hlt, fun j hj => (hb.cell (p := ⟨b, o + j, none⟩) (Nat.lt_of_lt_of_le hlt hm)).trans (hc j hj)⟩
theorem RowI.at {w : World} {ad : Option Addr} {n m : Nat} {A : Nat → Int} (h : RowI w ad n A m) {j : Nat} (hj : j < n) : ∃ b o, ad = some ⟨b, o, none⟩ ∧ b < m ∧ w.cell? ⟨b, o + j, none⟩ = some (.int .i64 (A j)) := by
  rcases h with h | ⟨b, o, ha, hlt, hc⟩
  · omega
  · exact ⟨b, o, ha, hlt, hc j hj⟩
theorem RowI.mono {w : World} {ad : Option Addr} {n m m' : Nat} {A : Nat → Int} (h : RowI w ad n A m) (hm : m ≤ m') : RowI w ad n A m' := by
  rcases h with h | ⟨b, o, ha, hlt, hc⟩
  · exact .inl h
  · exact .inr ⟨b, o, ha, Nat.lt_of_lt_of_le hlt hm, hc⟩
theorem RowI.congr {w : World} {ad : Option Addr} {n m : Nat} {A A' : Nat → Int} (h : RowI w ad n A m) (he : ∀ j, j < n → A j = A' j) : RowI w ad n A' m := by
  rcases h with h | ⟨b, o, ha, hlt, hc⟩
  · exact .inl h
  · exact .inr ⟨b, o, ha, hlt, fun j hj => by rw [hc j hj, he j hj]⟩

/-- Do two rows of numbers agree below k? -/
def agI (A B : Nat → Int) : Nat → Bool
  | 0 => true
  | k + 1 => agI A B k && (A k == B k)
theorem agI_iff (A B : Nat → Int) (k : Nat) : agI A B k = true ↔ ∀ n, n < k → A n = B n := by
  induction k with
  | zero => simp [agI]
  | succ k ih =>
    simp only [agI, Bool.and_eq_true, beq_iff_eq, ih]
    constructor
    · rintro ⟨h1, h2⟩ n hn
      by_cases he : n = k
      · subst he; exact h2
      · exact h1 n (by omega)
    · intro h
      exact ⟨fun n hn => h n (by omega), h k (by omega)⟩

set_option maxRecDepth 100000 in
set_option maxHeartbeats 4000000 in
theorem places_any (ad : Option Addr) (n cap : Nat) (A : Nat → Int) (ad' : Option Addr) (n' cap' : Nat) (A' : Nat → Int) (hn : (n : Int) ≤ 4611686018427387904) (hn' : (n' : Int) ≤ 4611686018427387904) (w : World)
    (hR : RowI w ad n A w.heap.size) (hR' : RowI w ad' n' A' w.heap.size) :
    Calls Tryz.prog 20 #[.slice ad n cap, .slice ad' n' cap'] w fun e w' => e = .returned (.bool (decide (n = n') && agI A A' n)) ∧ Below w.heap.size w w' := by
  by_cases hne : n = n'
  · subst hne
    go_enter Tryz.func20, Tryz.ntmps20
    go_wp2_with fail
    go_loopw [5] (fun i wr => ∃ k : Nat, k ≤ n ∧ i = .int .i64 k ∧ agI A A' k = true ∧ Old w wr) (fun i _ => n - (intOf i).toNat)
    case atStart => exact ⟨0, by omega, rfl, rfl, Old.refl _⟩
    case round =>
      obtain ⟨k, hk, rfl, hag, hO⟩ := hrel
      have hR1 := hR.below hO.2.2.2 (Nat.le_refl _)
      have hR2 := hR'.below hO.2.2.2 (Nat.le_refl _)
      have HO := Lib.hid hO
      have HA := Lib.hid hag
      clear hO hag
      by_cases hlt : k < n
      · obtain ⟨b, o, rfl, hb, e0⟩ := hR1.at hlt
        obtain ⟨b', o', rfl, hb', e0'⟩ := hR2.at hlt
        clear hR1 hR2 hR hR'
        have hlti : (k : Int) < n := by omega
        by_cases hq : A k = A' k
        · rw [hq] at e0
          go_wp2_with fail
          go_region
          go_wp2
          refine ⟨⟨k + 1, by omega, by go_num, ?_, Old.trans HO.out (Old.of (below_drewN (Below.refl _ _) _))⟩, by simp [intOf]; omega⟩
          show (agI A A' k && (A k == A' k)) = true
          rw [HA.out, hq]; simp
        · go_wp2_with fail
          go_region
          go_wp2
          go_ret
          refine ⟨?_, HO.out.2.2.2.drew⟩
          have : agI A A' n = false := by
            rw [Bool.eq_false_iff]
            intro h
            exact hq ((agI_iff _ _ _).1 h k hlt)
          rw [this]; simp
      · obtain rfl : k = n := by omega
        go_wp2
        go_ret
        exact ⟨by rw [HA.out]; simp, HO.out.2.2.2⟩
  · have hni : ¬ ((n : Int) = n') := by omega
    go_enter Tryz.func20, Tryz.ntmps20
    go_wp2
    go_ret
    exact ⟨by rw [decide_eq_false hne]; simp, Below.refl _ _⟩
end Go.Proofs.YtjfkmoinldlmaaaGreat
