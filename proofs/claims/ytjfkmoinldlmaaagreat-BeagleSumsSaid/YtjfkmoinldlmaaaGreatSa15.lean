/- The plan in plain terms: the best way, longer texts. -/
import Derived.Test.YtjfkmoinldlmaaaGreatSa14
import Derived.Test.YtjfkmoinldlmaaaGreatSa12
import Derived.Test.YtjfkmoinldlmaaaGreatSa11
namespace Go.Proofs.YtjfkmoinldlmaaaGreat

/-- May each way be sized? -/
def sdF (nn size K : Int) (L : Nat → Nat → Bool) (n : Nat) (way : Int) : Bool := sdB way nn size K L n
/-- What each way is told to cost. -/
def tel (nn size K : Int) (L : Nat → Nat → Bool) (n : Nat) (way : Int) : Int := if sdB way nn size K L n then costV way nn size L n else 0
/-- The best of the first k ways, and what it costs. -/
def chs (s : Int → Bool) (c : Int → Int) : Nat → Int × Int
  | 0 => (0, 0)
  | k + 1 => if s ((k : Int) + 1) && (decide ((chs s c k).1 = 0) || decide (c ((k : Int) + 1) < (chs s c k).2)) then ((k : Int) + 1, c ((k : Int) + 1)) else chs s c k
theorem chs_spec (s : Int → Bool) (c : Int → Int) (k : Nat) :
    ((chs s c k).1 = 0 ∧ ∀ y : Int, 1 ≤ y → y ≤ k → s y = false) ∨
    ((1 ≤ (chs s c k).1 ∧ (chs s c k).1 ≤ k) ∧ s (chs s c k).1 = true ∧ (chs s c k).2 = c (chs s c k).1 ∧ ∀ y : Int, 1 ≤ y → y ≤ k → s y = true → (chs s c k).2 ≤ c y ∧ ((chs s c k).2 < c y ∨ (chs s c k).1 ≤ y)) := by
  induction k with
  | zero => exact .inl ⟨rfl, fun y h1 h2 => by omega⟩
  | succ k ih =>
    simp only [chs]
    cases hs : s ((k : Int) + 1)
    · rw [Bool.false_and, if_neg (by decide)]
      rcases ih with ⟨h0, h1⟩ | ⟨⟨h0, h1⟩, h2, h3, h4⟩
      · refine .inl ⟨h0, fun y y1 y2 => ?_⟩
        by_cases he : y = (k : Int) + 1
        · rw [he]; exact hs
        · exact h1 y y1 (by omega)
      · refine .inr ⟨⟨h0, by omega⟩, h2, h3, fun y y1 y2 y3 => ?_⟩
        by_cases he : y = (k : Int) + 1
        · rw [he, hs] at y3; cases y3
        · exact h4 y y1 (by omega) y3
    · rw [Bool.true_and]
      rcases ih with ⟨h0, h1⟩ | ⟨⟨h0, h1⟩, h2, h3, h4⟩
      · rw [decide_eq_true h0, Bool.true_or, if_pos rfl]
        refine .inr ⟨⟨by omega, by omega⟩, hs, rfl, fun y y1 y2 y3 => ?_⟩
        by_cases he : y = (k : Int) + 1
        · rw [he]; exact ⟨Int.le_refl _, .inr (Int.le_refl _)⟩
        · rw [h1 y y1 (by omega)] at y3; cases y3
      · rw [decide_eq_false (show ¬ ((chs s c k).1 = 0) by omega), Bool.false_or]
        by_cases hlt : c ((k : Int) + 1) < (chs s c k).2
        · rw [decide_eq_true hlt, if_pos rfl]
          refine .inr ⟨⟨by omega, by omega⟩, hs, rfl, fun y y1 y2 y3 => ?_⟩
          by_cases he : y = (k : Int) + 1
          · rw [he]; exact ⟨Int.le_refl _, .inr (Int.le_refl _)⟩
          · have := (h4 y y1 (by omega) y3).1
            exact ⟨by omega, .inl (by omega)⟩
        · rw [decide_eq_false hlt, if_neg (by decide)]
          refine .inr ⟨⟨h0, by omega⟩, h2, h3, fun y y1 y2 y3 => ?_⟩
          by_cases he : y = (k : Int) + 1
          · rw [he]; exact ⟨by omega, .inr (by omega)⟩
          · exact h4 y y1 (by omega) y3
/-- The best way of a leaf. -/
def bestV (nn size K : Int) (L : Nat → Nat → Bool) (n : Nat) : Int := (chs (sdF nn size K L n) (tel nn size K L n) 5).1
theorem sd_1 (nn size K : Int) (L : Nat → Nat → Bool) (n : Nat) : sdB 1 nn size K L n = rightB n L K := by
  unfold sdB frB
  rw [decide_eq_true rfl, Bool.true_or, Bool.true_or, Bool.and_true]
  cases h : rightB n L K
  · exact adm_no h
  · exact adm_1 h
theorem best_right (nn size K : Int) (L : Nat → Nat → Bool) (n : Nat) : decide (bestV nn size K L n = 0) = !rightB n L K := by
  unfold bestV
  rcases chs_spec (sdF nn size K L n) (tel nn size K L n) 5 with ⟨h0, h1⟩ | ⟨⟨h0, h1⟩, h2, h3, h4⟩
  · rw [decide_eq_true h0]
    have := h1 1 (by omega) (by omega)
    unfold sdF at this
    rw [sd_1] at this
    rw [this]; rfl
  · rw [decide_eq_false (by omega)]
    unfold sdF at h2
    unfold sdB at h2
    rw [Bool.and_eq_true] at h2
    have h5 := h2.1
    unfold admB at h5
    rw [Bool.and_eq_true] at h5
    rw [h5.1]; rfl
theorem best_sized {nn size K : Int} {L : Nat → Nat → Bool} {n : Nat} (h : bestV nn size K L n ≠ 0) : sdB (bestV nn size K L n) nn size K L n = true := by
  unfold bestV at h ⊢
  rcases chs_spec (sdF nn size K L n) (tel nn size K L n) 5 with ⟨h0, h1⟩ | ⟨⟨h0, h1⟩, h2, h3, h4⟩
  · exact absurd h0 h
  · exact h2
theorem best_least {nn size K : Int} {L : Nat → Nat → Bool} {n : Nat} (h : bestV nn size K L n ≠ 0) (y : Int) (hy : sdB y nn size K L n = true) :
    tel nn size K L n (bestV nn size K L n) ≤ tel nn size K L n y ∧ (tel nn size K L n (bestV nn size K L n) < tel nn size K L n y ∨ bestV nn size K L n ≤ y) := by
  have hr := sd_rng hy
  unfold bestV at h ⊢
  rcases chs_spec (sdF nn size K L n) (tel nn size K L n) 5 with ⟨h0, h1⟩ | ⟨⟨h0, h1⟩, h2, h3, h4⟩
  · exact absurd h0 h
  · rw [← h3]
    exact h4 y hr.2.1 hr.2.2 hy

/-- No cost is below 0. -/
theorem cs_nonneg {way m N x k f r : Int} (hm : 0 ≤ m) (hN : m ≤ N) (hx : 0 ≤ x) (hk : 0 ≤ k) (hf : 0 ≤ f) (hr : 0 ≤ r) : 0 ≤ csW way m N x k f r := by
  unfold csW cs1 cs2 cs3 cs4 cs5
  have h1 := Int.mul_nonneg hm (show 0 ≤ N - m + 1 by omega)
  have h2 := Int.mul_nonneg (show 0 ≤ x + N by omega) hk
  have h3 := Int.mul_nonneg (show 0 ≤ x + N by omega) hf
  have h4 := Int.mul_nonneg (show 0 ≤ N by omega) hr
  split
  · exact h1
  · split
    · omega
    · split
      · omega
      · split <;> omega
theorem cs_mono {way m N N' x x' k f r : Int} (hm : 0 ≤ m) (hk : 0 ≤ k) (hf : 0 ≤ f) (hr : 0 ≤ r) (hNN : N ≤ N') (hxx : x ≤ x') : csW way m N x k f r ≤ csW way m N' x' k f r := by
  unfold csW cs1 cs2 cs3 cs4 cs5
  have h1 := Int.mul_le_mul_of_nonneg_left (show N - m + 1 ≤ N' - m + 1 by omega) hm
  have h2 := Int.mul_le_mul_of_nonneg_right (show x + N ≤ x' + N' by omega) hk
  have h3 := Int.mul_le_mul_of_nonneg_right (show x + N ≤ x' + N' by omega) hf
  have h4 := Int.mul_le_mul_of_nonneg_right hNN hr
  split
  · exact h1
  · split
    · omega
    · split
      · omega
      · split <;> omega
theorem cost_nonneg {way nn size : Int} {L : Nat → Nat → Bool} {n : Nat} (hn : 1 ≤ n) : 0 ≤ costV way nn size L n := by
  unfold costV
  split
  · rename_i h
    exact cs_nonneg (by omega) h (xV_in (by omega) h (by omega)).1 (by omega) (by omega) (by omega)
  · exact Int.le_refl _
theorem tel_nonneg (nn size K : Int) (L : Nat → Nat → Bool) (n : Nat) (way : Int) : 0 ≤ tel nn size K L n way := by
  unfold tel
  split
  · rename_i h
    exact cost_nonneg (sd_rng h).1.1
  · exact Int.le_refl _
theorem cnt_mono {m N N' size : Int} (hNN : N ≤ N') : cntV m N size ≤ cntV m N' size := by
  unfold cntV
  cases hs : szB m size
  · simp
  · rw [if_pos rfl, if_pos rfl]
    unfold szB at hs
    rw [Bool.and_eq_true, decide_eq_true_eq] at hs
    have := Int.ediv_le_ediv (show 0 < size - m + 1 by have := hs.2; omega) (show N - m ≤ N' - m by omega)
    omega
theorem xV_mono {m N N' size : Int} (hNN : N ≤ N') : xV m N size ≤ xV m N' size := by
  unfold xV
  cases hs : szB m size
  · unfold cntV
    rw [hs, if_neg (by decide), if_neg (by decide)]
    exact Int.le_refl _
  · unfold szB at hs
    rw [Bool.and_eq_true] at hs
    have hg := (lg_size hs.1).1
    exact Int.mul_le_mul_of_nonneg_right (Int.mul_le_mul_of_nonneg_right (cnt_mono hNN) (by omega)) (by omega)
theorem cost_mono {way nn size : Int} {L : Nat → Nat → Bool} {n : Nat} (hn : 1 ≤ n) : costV way nn size L n ≤ costV way (nn + 1) size L n := by
  by_cases h : (n : Int) ≤ min nn 100000
  · unfold costV
    rw [if_pos h, if_pos (by omega)]
    exact cs_mono (by omega) (by omega) (by omega) (by omega) (by omega) (xV_mono (by omega))
  · have := cost_nonneg (way := way) (nn := nn + 1) (size := size) (L := L) hn
    unfold costV at this ⊢
    rw [if_neg h]
    exact this
theorem sd_longer {way nn size K : Int} {L : Nat → Nat → Bool} {n : Nat} (h : sdB way (nn + 1) size K L n = true) : sdB way nn size K L n = true := by
  unfold sdB at h ⊢
  simp only [Bool.and_eq_true, Bool.or_eq_true, decide_eq_true_eq] at h ⊢
  refine ⟨h.1, ?_⟩
  rcases h.2 with h2 | h2 | h2
  · exact .inl h2
  · exact .inr (.inl (by omega))
  · exact .inr (.inr h2)
theorem tel_longer {way nn size K : Int} {L : Nat → Nat → Bool} {n : Nat} (h : sdB way nn size K L n = true) (h' : sdB way (nn + 1) size K L n = true) : tel nn size K L n way ≤ tel (nn + 1) size K L n way := by
  unfold tel
  rw [if_pos h, if_pos h']
  exact cost_mono (sd_rng h).1.1

end Go.Proofs.YtjfkmoinldlmaaaGreat

/- The best way: walks of plan.Choose and of beagleref16.Choose; walk of beaglelaw16.few. -/
namespace Go.Proofs.YtjfkmoinldlmaaaGreat
open Go.RowKit

set_option maxRecDepth 100000 in
theorem telC (C : Nat) (way : Int) (ad : Option Addr) (n cap : Nat) (K : Int) (L : Nat → Nat → Bool) (nn size : Int) (w : World)
    (h : Calls Tryz.prog C #[.int .i64 way, lv ad n cap K, .int .i64 nn, .int .i64 size] w fun e w' => e = .returned (.tuple #[.int .i64 (if sdB way nn size K L n then costV way nn size L n else 0), .bool (sdB way nn size K L n)]) ∧ Below w.heap.size w w') :
    Calls Tryz.prog C #[.int .i64 way, lv ad n cap K, .int .i64 nn, .int .i64 size] w fun e w' => e = .returned (.tuple #[.int .i64 (tel nn size K L n way), .bool (sdF nn size K L n way)]) ∧ Below w.heap.size w w' := h

set_option maxRecDepth 100000 in
set_option maxHeartbeats 4000000 in
theorem choose_any (ad : Option Addr) (n cap : Nat) (K : Int) (L : Nat → Nat → Bool) (hn : (n : Int) ≤ 1000) (nn size : Int) (w : World) (hR : RowC w ad n L w.heap.size) :
    Calls Tryz.prog 232 #[lv ad n cap K, .int .i64 nn, .int .i64 size] w fun e w' => e = .returned (.int .i64 (bestV nn size K L n)) ∧ Below w.heap.size w w' := by
  have hl := HoldsL.new w ad n cap K
  have HB : Below w.heap.size w (w.alloc (.cells #[.slice ad n cap, .int .i64 K] 52)) := (Below.refl _ _).alloc (Nat.le_refl _) _
  have hR0 := (hR.below HB (Nat.le_refl _)).mono HB.size
  have hc := fun way w' h' => telC 242 way ad n cap K L nn size w' (cost_any way ad n cap K L hn nn size w' h')
  unfold bestV
  generalize sdF nn size K L n = s at hc
  generalize tel nn size K L n = c at hc
  have HC := Lib.hid hc
  clear hc
  go_enter Tryz.func232, Tryz.ntmps232
  go_wp2_with fail
  generalize hW : w.alloc (.cells #[.slice ad n cap, .int .i64 K] 52) = W0 at hl HB hR0 ⊢
  clear hW hR
  go_loopw [7, 8, 9] (fun b m i wr => ∃ k : Nat, k ≤ 5 ∧ i = .int .i64 ((k : Int) + 1) ∧ b = .int .i64 (chs s c k).1 ∧ m = .int .i64 (chs s c k).2 ∧ Old W0 wr) (fun _ _ i _ => 6 - (intOf i).toNat)
  case atStart => exact ⟨0, by omega, rfl, rfl, rfl, Old.refl _⟩
  case round =>
    obtain ⟨k, hk, rfl, rfl, rfl, hO⟩ := hrel
    have hlq := hl.below hO.2.2.2 hl.2.2
    have hRq := (hR0.below hO.2.2.2 (Nat.le_refl _)).mono hO.2.2.1
    obtain ⟨c0, c1, cl⟩ := hlq
    have HO := Lib.hid hO
    have HNx : Hid (chs s c (k + 1) = if s ((k : Int) + 1) && (decide ((chs s c k).1 = 0) || decide (c ((k : Int) + 1) < (chs s c k).2)) then ((k : Int) + 1, c ((k : Int) + 1)) else chs s c k) := Lib.hid rfl
    clear hO hl hR0
    by_cases hlt : k < 5
    · have hlti : (k : Int) + 1 ≤ 5 := by omega
      obtain ⟨P, hP⟩ : ∃ P, P = chs s c k := ⟨_, rfl⟩
      rw [← hP] at HNx ⊢
      clear hP
      obtain ⟨B, M⟩ := P
      dsimp only at HNx ⊢
      cases hs : s ((k : Int) + 1)
      · rw [hs, Bool.false_and, if_neg (by decide)] at HNx
        go_wp2_with (first | (go_at_call 242; refine (HC.out ((k : Int) + 1) _ hRq).mono ?_; rintro e w4 ⟨rfl, hb4⟩))
        exact ⟨⟨k + 1, by omega, by go_num, by rw [HNx.out], by rw [HNx.out], HO.out.trans (Old.of hb4)⟩, by simp [intOf]; omega⟩
      · rw [hs, Bool.true_and] at HNx
        by_cases hB : B = 0
        · subst hB
          rw [decide_eq_true rfl, Bool.true_or, if_pos rfl] at HNx
          go_wp2_with (first | (go_at_call 242; refine (HC.out ((k : Int) + 1) _ hRq).mono ?_; rintro e w4 ⟨rfl, hb4⟩))
          exact ⟨⟨k + 1, by omega, by go_num, by rw [HNx.out], by rw [HNx.out], HO.out.trans (Old.of hb4)⟩, by simp [intOf]; omega⟩
        · have hB1 : (B == 0) = false := by rw [beq_eq_false_iff_ne]; exact hB
          rw [decide_eq_false hB, Bool.false_or] at HNx
          clear hB
          by_cases hM : c ((k : Int) + 1) < M
          · have hM1 : decide (c ((k : Int) + 1) < M) = true := decide_eq_true hM
            rw [hM1, if_pos rfl] at HNx
            go_wp2_with (first | (go_at_call 242; refine (HC.out ((k : Int) + 1) _ hRq).mono ?_; rintro e w4 ⟨rfl, hb4⟩))
            exact ⟨⟨k + 1, by omega, by go_num, by rw [HNx.out], by rw [HNx.out], HO.out.trans (Old.of hb4)⟩, by simp [intOf]; omega⟩
          · have hM1 : decide (c ((k : Int) + 1) < M) = false := decide_eq_false hM
            rw [hM1, if_neg (by decide)] at HNx
            go_wp2_with (first | (go_at_call 242; refine (HC.out ((k : Int) + 1) _ hRq).mono ?_; rintro e w4 ⟨rfl, hb4⟩))
            exact ⟨⟨k + 1, by omega, by go_num, by rw [HNx.out], by rw [HNx.out], HO.out.trans (Old.of hb4)⟩, by simp [intOf]; omega⟩
    · obtain rfl : k = 5 := by omega
      go_wp2
      go_ret
      exact ⟨rfl, HB.trans (HO.out.2.2.2.mono HB.size)⟩

end Go.Proofs.YtjfkmoinldlmaaaGreat

/- Walk of beaglelaw07.alive: it returns true. -/
namespace Go.Proofs.YtjfkmoinldlmaaaGreat
open Go.RowKit

def s1a : ByteArray := ⟨#[97]⟩
def s1b : ByteArray := ⟨#[98]⟩
def sab : ByteArray := ⟨#[97, 98]⟩
def sxyz : ByteArray := ⟨#[120, 121, 122]⟩
/-- a alone; b alone; both. -/
def a1 : Nat → Bool := strSet s1a 1
def b1 : Nat → Bool := strSet s1b 1
def ab1 : Nat → Bool := strSet sab 2
/-- a, any, b, a. -/
def La : Nat → Nat → Bool
  | 0 => a1
  | 1 => fun _ => true
  | 2 => b1
  | _ => a1
set_option maxRecDepth 100000 in
theorem of_a (w : World) : Calls Tryz.prog 43 #[.string ⟨#[97]⟩] w fun e w' => e = .returned (cv a1) ∧ Below w.heap.size w w' := of_any s1a (by decide) w
set_option maxRecDepth 100000 in
theorem of_b (w : World) : Calls Tryz.prog 43 #[.string ⟨#[98]⟩] w fun e w' => e = .returned (cv b1) ∧ Below w.heap.size w w' := of_any s1b (by decide) w
set_option maxRecDepth 100000 in
theorem of_ab (w : World) : Calls Tryz.prog 43 #[.string ⟨#[97, 98]⟩] w fun e w' => e = .returned (cv ab1) ∧ Below w.heap.size w w' := of_any sab (by decide) w
set_option maxRecDepth 100000 in
theorem text_xyz (K : Int) (w : World) : Calls Tryz.prog 18 #[.string ⟨#[120, 121, 122]⟩, .int .i64 K] w fun e w' => ∃ ad cap, e = .returned (lv ad 3 cap K) ∧ w'.ownsRow w.heap.size 100 4 (.slice ad 3 cap) 3 (clsCells (byteS sxyz) 3) ∧ Below w.heap.size w w' :=
  text_any sxyz (by decide) K w
theorem al_letters : lettersB (byteS sxyz) 3 = true := by decide +kernel
theorem al_txt : txt (byteS sxyz) 3 = ⟨#[120, 121, 122]⟩ := by
  unfold txt; rw [al_letters]
  rw [if_pos rfl]
  exact congrArg ByteArray.mk (by decide +kernel)
theorem al_none : lettersB La 4 = false := by decide +kernel
theorem al_kinds : kindsTo La 4 = [a1, b1] := by
  have h0 : clsEq a1 fullS = false := by decide +kernel
  have h1 : clsEq (fun _ => true) fullS = true := by decide +kernel
  have h2 : clsEq b1 fullS = false := by decide +kernel
  have h3 : clsEq a1 b1 = false := by decide +kernel
  have h4 : clsEq a1 a1 = true := clsEq_refl _
  simp [kindsTo, La, inL, h0, h1, h2, h3, h4]
theorem al_where : whereTo a1 La 4 = [0, 3] := by decide +kernel
theorem al_right : rightB 4 La 1 = true := by decide +kernel
theorem al_right0 (L : Nat → Nat → Bool) : rightB 0 L 0 = false := by simp [rightB]
theorem al_plain : plainB La 4 = true := by decide +kernel
theorem al_plain0 : plainB (fun _ => ab1) 1 = false := by decide +kernel
theorem al_bound : boundN La 4 = 3 := by decide +kernel
theorem al_same (n : Nat) (L : Nat → Nat → Bool) (K : Int) : sameB n L K n L K = true := by unfold sameB; rw [agC_refl]; simp
theorem al_other : sameB 4 La 1 3 (byteS sxyz) 1 = false := by simp [sameB]

theorem rowC_new1 (w : World) (S : Nat → Bool) : RowC (w.alloc (.cells #[.int .u64 (wd S 0 : Nat), .int .u64 (wd S 1 : Nat), .int .u64 (wd S 2 : Nat), .int .u64 (wd S 3 : Nat)] 100)) (some ⟨w.heap.size, 0, none⟩) 1 (fun _ => S) (w.alloc (.cells #[.int .u64 (wd S 0 : Nat), .int .u64 (wd S 1 : Nat), .int .u64 (wd S 2 : Nat), .int .u64 (wd S 3 : Nat)] 100)).heap.size :=
  .inr ⟨w.heap.size, 0, rfl, by simp, fun j hj => by
    obtain rfl : j = 0 := by omega
    exact ⟨by simp [go_sem], by simp [go_sem], by simp [go_sem], by simp [go_sem]⟩⟩
theorem Old.drewK {W w : World} (h : Old W w) : Old W w.drew := .of h.2.2.2.drew
theorem Old.setK {W w : World} {p : Addr} {v : Value} (h : Old W w) (hp : W.heap.size ≤ p.block) : Old W (w.setCell p v) := .of (h.2.2.2.setCell hp v)

end Go.Proofs.YtjfkmoinldlmaaaGreat

/- Walk of the law LeafTexts. -/
namespace Go.Proofs.YtjfkmoinldlmaaaGreat
open Go.RowKit

theorem cnt_one_byte (m : Nat) (hm : m < 256) (S : Nat → Bool) (h : ∀ n, n < 256 → S n = (n == m)) : one S = true ∧ sgl S = m ∧ clsEq S fullS = false := by
  have hf : first S = m := by
    refine first_eq S m (by omega) (fun _ => by rw [h m hm]; simp) (fun i hi => ?_)
    rw [h i (by omega)]
    simp; omega
  have ho : one S = true := by
    unfold one
    rw [decide_eq_true_eq]
    exact (one_iff S).2 ⟨by omega, by rw [hf]; exact h⟩
  refine ⟨ho, by unfold sgl; rw [ho, if_pos rfl, hf], ?_⟩
  rw [Bool.eq_false_iff]
  intro hc
  have e := (clsEq_iff _ _).1 hc
  have e0 := e 0 (by omega)
  have e1 := e 1 (by omega)
  rw [h 0 (by omega)] at e0
  rw [h 1 (by omega)] at e1
  simp [fullS] at e0 e1
  omega

theorem byteS_single (s : ByteArray) (j : Nat) (hj : j < s.size) : one (byteS s j) = true ∧ sgl (byteS s j) = s[j].toNat ∧ clsEq (byteS s j) fullS = false := by
  have h : j < s.data.toList.length := by simpa using hj
  refine cnt_one_byte _ (by have := s[j].toNat_lt; omega) _ (fun n _ => ?_)
  unfold byteS
  rw [List.getElem?_eq_getElem h]
  simp only [Option.map_some, Option.some.injEq]
  have e : s.data.toList[j] = s[j] := rfl
  rw [e, Bool.eq_iff_iff, decide_eq_true_eq, beq_iff_eq]
  exact eq_comm

theorem byteS_letters (s : ByteArray) : lettersB (byteS s) s.size = true := (allN_iff _ _).2 fun j hj => (byteS_single s j hj).1
theorem byteS_plain (s : ByteArray) : plainB (byteS s) s.size = true := (allN_iff _ _).2 fun j hj => by rw [(byteS_single s j hj).1]; rfl
theorem byteS_bound (s : ByteArray) : boundN (byteS s) s.size = s.size := (cntN_full _ _).2 fun j hj => by rw [(byteS_single s j hj).2.2]; rfl
theorem byteS_txt (s : ByteArray) : txt (byteS s) s.size = s := by
  unfold txt
  rw [byteS_letters, if_pos rfl]
  have hd : s.data.toList = (lets (byteS s) s.size).map fun x => UInt8.ofNat x.toNat := by
    refine List.ext_getElem (by simp [lets]) fun j h1 h2 => ?_
    have hj : j < s.size := by simpa using h1
    simp only [lets, List.getElem_map, List.getElem_range, Int.toNat_natCast, (byteS_single s j hj).2.1]
    show s[j] = _
    exact (UInt8.ofNat_toNat).symm
  unfold strOfNums
  rw [← hd]

end Go.Proofs.YtjfkmoinldlmaaaGreat

/- Walk of the law LeafLetters. -/
namespace Go.Proofs.YtjfkmoinldlmaaaGreat
open Go.RowKit

theorem txt_size (L : Nat → Nat → Bool) (n : Nat) (h : lettersB L n = true) : (txt L n).size = n := by
  unfold txt
  rw [h, if_pos rfl, strOfNums_size, lets_length]
theorem sgl_lt (S : Nat → Bool) : sgl S < 256 ∨ one S = false := by
  unfold sgl
  cases h : one S
  · exact .inr rfl
  · have : cnt S = 1 := by unfold one at h; simpa using h
    have := ((one_iff S).1 this).1
    exact .inl (by rw [if_pos rfl]; exact this)
theorem txt_same (L : Nat → Nat → Bool) (n : Nat) (h : lettersB L n = true) : agC (byteS (txt L n)) L n = true := by
  rw [agC_iff]
  intro j hj
  have ho := (allN_iff _ _).1 h j hj
  have ho' : one (L j) = true := ho
  have hc : cnt (L j) = 1 := by unfold one at ho'; simpa using ho'
  obtain ⟨hf, hS⟩ := (one_iff (L j)).1 hc
  have hsg : sgl (L j) = first (L j) := by unfold sgl; rw [ho', if_pos rfl]
  rw [clsEq_iff]
  intro m hm
  rw [hS m hm]
  unfold byteS txt
  rw [h, if_pos rfl, strOfNums_data]
  simp only [lets, List.map_map, List.getElem?_map, List.getElem?_range hj, Option.map_some, Function.comp_apply, Int.toNat_natCast, hsg]
  have e : (UInt8.ofNat (first (L j))).toNat = first (L j) := by rw [UInt8.toNat_ofNat']; omega
  rw [e, Bool.eq_iff_iff, decide_eq_true_eq, beq_iff_eq, Option.some.injEq]
  exact eq_comm

end Go.Proofs.YtjfkmoinldlmaaaGreat
