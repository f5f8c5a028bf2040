/- Walks of the reference's classes, first part: Has, bytes, Make. -/
import Derived.Test.YtkhcjjdamphbfaaC4
namespace Go.Proofs.Ytkhcjjdamphbfaa
open Go.RowKit

theorem wd_div_mod (S : Nat → Bool) (k m : Nat) (hm : m < 64) : (wd S k / 2 ^ m) % 2 = if S (64 * k + m) then 1 else 0 := by
  have h := wd_bit S (64 * k + m)
  rw [show (64 * k + m) / 64 = k by omega, show (64 * k + m) % 64 = m by omega] at h
  exact h

set_option maxHeartbeats 1000000 in
set_option maxRecDepth 100000 in
theorem rhas_any (S : Nat → Bool) (b : Int) (h0 : 0 ≤ b) (h1 : b ≤ 255) (w : World) :
    Calls Try.prog 47 #[cv S, .int .u8 b] w fun e w' => e = .returned (.bool (S b.toNat)) ∧ Below w.heap.size w w' := by
  obtain ⟨b, rfl⟩ := Int.eq_ofNat_of_zero_le h0
  simp only [Int.toNat_natCast]
  obtain ⟨q, hq⟩ : ∃ q : Nat, q = b / 64 := ⟨_, rfl⟩
  obtain ⟨r, hr⟩ : ∃ r : Nat, r = b % 64 := ⟨_, rfl⟩
  have e1 : ((b : Nat) : Int) / 64 = (q : Nat) := by omega
  have e2 : ((b : Nat) : Int) % 64 = (r : Nat) := by omega
  have hc : (w.alloc (.cells #[.int .u64 (wd S 0 : Nat), .int .u64 (wd S 1 : Nat), .int .u64 (wd S 2 : Nat), .int .u64 (wd S 3 : Nat)] 26)).cell? ⟨w.heap.size, q, none⟩ = some (.int .u64 (wd S q : Nat)) := by
    have : q = 0 ∨ q = 1 ∨ q = 2 ∨ q = 3 := by omega
    rcases this with h | h | h | h <;> subst h <;> simp [go_sem]
  have hbit := wd_div_mod S q r (by omega)
  rw [show 64 * q + r = b by omega] at hbit
  have HB := Lib.hid hbit
  have hw := wd_lt S q
  have hrl : r < 64 := by omega
  clear hbit hq hr
  obtain ⟨x, hx⟩ : ∃ x, x = wd S q := ⟨_, rfl⟩
  rw [← hx] at hc HB hw
  clear hx
  go_enter Try.func47, Try.ntmps47
  go_wp2
  go_loop [5, 6] (fun v i => ∃ k y : Nat, k ≤ r ∧ i = .int .i64 k ∧ v = .int .u64 y ∧ y ≤ 18446744073709551615 ∧ Hid (y = x / 2 ^ k)) (fun _ i => 64 - (intOf i).toNat)
  case atStart => exact ⟨0, x, by omega, rfl, rfl, by omega, by show x = x / 2 ^ 0; simp⟩
  case round =>
    obtain ⟨k, y, hk, rfl, rfl, hy, HY⟩ := hrel
    by_cases hlt : k < r
    · go_wp2
      refine ⟨⟨k + 1, y / 2, by omega, by go_num, by go_num, by omega, ?_⟩, by simp [intOf]; omega⟩
      show y / 2 = x / 2 ^ (k + 1)
      rw [HY.out, Nat.div_div_eq_div_mul, Nat.pow_succ]
    · obtain rfl : k = r := by omega
      go_wp2
      go_ret
      refine ⟨ret_eq (congrArg Value.bool ?_), (Below.refl _ _).alloc (Nat.le_refl _) _⟩
      have h := HB.out
      rw [← HY.out] at h
      cases hs : S b
      · rw [hs] at h
        simp at h
        simp
        omega
      · rw [hs] at h
        simp at h
        simp
        omega
/-- Bools, as cells. -/
def bls (S : Nat → Bool) (n : Nat) : List Value := (List.range n).map fun i => .bool (S i)
theorem bls_succ (S : Nat → Bool) (n : Nat) : bls S (n + 1) = bls S n ++ [.bool (S n)] := by simp [bls, List.range_succ]
theorem bls_at (S : Nat → Bool) (n i : Nat) (h : i < n) : (bls S n)[i]? = some (.bool (S i)) := by simp [bls, h]

set_option maxHeartbeats 1000000 in
set_option maxRecDepth 100000 in
theorem bytes_any (S : Nat → Bool) (w : World) :
    Calls Try.prog 107 #[cv S] w fun e w' => ∃ v, e = .returned v ∧ w'.ownsRow (w.heap.size + 1) 4 1 v 256 (bls S 256) ∧ Below w.heap.size w w' := by
  go_enter Try.func107, Try.ntmps107
  go_wp2
  have H0 := HoldsC.new w S
  obtain ⟨W0, hW0⟩ : ∃ W0 : World, w.alloc (.cells #[.int .u64 (wd S 0 : Nat), .int .u64 (wd S 1 : Nat), .int .u64 (wd S 2 : Nat), .int .u64 (wd S 3 : Nat)] 26) = W0 := ⟨_, rfl⟩
  have HB : Below w.heap.size w W0 := by subst hW0; exact (Below.refl _ _).alloc (Nat.le_refl _) _
  have hsz : w.heap.size + 1 ≤ W0.heap.size := by subst hW0; simp
  rw [hW0] at H0 ⊢
  clear hW0
  go_loopw [3, 4] (fun v i wr => ∃ k : Nat, k ≤ 256 ∧ i = .int .i64 k ∧ wr.ownsRow (w.heap.size + 1) 4 1 v k (bls S k) ∧ Below (w.heap.size + 1) W0 wr) (fun _ i _ => 256 - (intOf i).toNat)
  case atStart => exact ⟨0, by omega, rfl, World.ownsRow_nil _ _ _ _, Below.refl _ _⟩
  case round =>
    obtain ⟨k, hk, rfl, hown, hb⟩ := hrel
    have hc := H0.below hb (by omega)
    obtain ⟨⟨c0, c1, c2, c3⟩, ⟨f0, f1, f2, f3⟩, hl⟩ := hc
    by_cases hlt : k < 256
    · go_wp2_with (first | (go_at_call 47; refine (rhas_any S _ (by omega) (by omega) _).mono ?_; rintro e w1 ⟨rfl, hb1⟩; obtain ⟨hc1, hf1, hz1, -⟩ := Old.of hb1) | (at_builtin; refine wpList_app elem84 rfl _ _ rfl rfl (own_below hown hb1) [.bool (S k)] rfl rfl (by simp [Value.oneCell']) (by unfold maxLen; omega) (by omega) (by omega) ?_; intro v3 w3 hown3 hb3))
      rw [← bls_succ] at hown3
      exact ⟨⟨k + 1, by omega, by go_num, hown3, (hb.trans (hb1.mono (by omega))).trans hb3⟩, by simp [intOf]; omega⟩
    · obtain rfl : k = 256 := by omega
      go_wp2
      go_ret
      exact ⟨u3, rfl, hown, HB.trans (hb.mono (by omega))⟩
/-- The words of a class that is being made: the first k are there, the others are 0. -/
def part4 (S : Nat → Bool) (k q : Nat) : Nat := if q < k then wd S q else 0

/-- A variable of four words, one of which is at work. -/
structure Making (w : World) (B : Nat) (S : Nat → Bool) (k : Nat) (except : Nat) : Prop where
  cells : ∀ q, q < 4 → q ≠ except → w.cell? ⟨B, q, none⟩ = some (.int .u64 (part4 S k q : Nat))
  free : ∀ q, q < 4 → w.frozen? ⟨B, q, none⟩ = false
  lt : B < w.heap.size

theorem Making.set {w : World} {B k : Nat} {S : Nat → Bool} (h : Making w B S k k) (v : Value) : Making (w.setCell ⟨B, k, none⟩ v) B S k k where
  cells q hq hne := by
    rw [World.cell?_setCell_other _ _ _ _ (by intro e; cases e; exact hne rfl)]
    exact h.cells q hq hne
  free q hq := by rw [World.frozen?_setCell]; exact h.free q hq
  lt := by simpa using h.lt

theorem Making.next {w : World} {B k : Nat} {S : Nat → Bool} (h : Making w B S k k) (hc : w.cell? ⟨B, k, none⟩ = some (.int .u64 (wd S k : Nat))) : Making w B S (k + 1) 4 where
  cells q hq _ := by
    by_cases he : q = k
    · subst he; rw [hc]; simp [part4]
    · rw [h.cells q hq he]
      unfold part4
      by_cases hl : q < k
      · rw [if_pos hl, if_pos (by omega)]
      · rw [if_neg hl, if_neg (by omega)]
  free := h.free
  lt := h.lt

theorem Making.done {w : World} {B : Nat} {S : Nat → Bool} (h : Making w B S 4 4) : HoldsC w B S := by
  have hc := fun q hq => h.cells q hq (by omega)
  have e : ∀ q, q < 4 → part4 S 4 q = wd S q := fun q hq => by unfold part4; rw [if_pos hq]
  refine ⟨⟨?_, ?_, ?_, ?_⟩, ⟨h.free 0 (by omega), h.free 1 (by omega), h.free 2 (by omega), h.free 3 (by omega)⟩, h.lt⟩
  · rw [hc 0 (by omega), e 0 (by omega)]
  · rw [hc 1 (by omega), e 1 (by omega)]
  · rw [hc 2 (by omega), e 2 (by omega)]
  · rw [hc 3 (by omega), e 3 (by omega)]

theorem Making.start {w : World} {B : Nat} {S : Nat → Bool} (h : HoldsC w B noByte) : Making w B S 0 4 := by
  obtain ⟨⟨c0, c1, c2, c3⟩, ⟨f0, f1, f2, f3⟩, hl⟩ := h
  rw [wd_noByte] at c0 c1 c2 c3
  refine ⟨fun q hq _ => ?_, fun q hq => ?_, hl⟩
  · have : q = 0 ∨ q = 1 ∨ q = 2 ∨ q = 3 := by omega
    rcases this with rfl | rfl | rfl | rfl <;> simpa [part4]
  · have : q = 0 ∨ q = 1 ∨ q = 2 ∨ q = 3 := by omega
    rcases this with rfl | rfl | rfl | rfl <;> assumption

theorem make_step (S : Nat → Bool) (k m : Nat) (hm : m < 64) : wd S k / 2 ^ m = 2 * (wd S k / 2 ^ (m + 1)) + (if S (64 * k + m) then 1 else 0) := by
  rw [← wd_div_mod S k m hm, Nat.pow_succ, ← Nat.div_div_eq_div_mul]
  omega

set_option maxHeartbeats 2000000 in
set_option maxRecDepth 100000 in
theorem make_any (S : Nat → Bool) (g cap : Nat) (w : World) (hg : g < w.heap.size) (hs : ∀ j, j < 256 → w.cell? ⟨g, j, none⟩ = some (.bool (S j))) :
    Calls Try.prog 106 #[.slice (some ⟨g, 0, none⟩) 256 cap] w fun e w' => e = .returned (cv S) ∧ Below w.heap.size w w' := by
  have HS := Lib.hid hs
  clear hs
  go_enter Try.func106, Try.ntmps106
  go_wp2
  obtain ⟨W0, hW0⟩ : ∃ W0 : World, ((w.alloc (Obj.cells #[Value.int IntKind.u64 0, Value.int IntKind.u64 0, Value.int IntKind.u64 0, Value.int IntKind.u64 0] 26)).alloc (Obj.cells #[Value.int IntKind.u64 0, Value.int IntKind.u64 0, Value.int IntKind.u64 0, Value.int IntKind.u64 0] 26)) = W0 := ⟨_, rfl⟩
  have H1 : HoldsC W0 w.heap.size noByte := by subst hW0; exact (HoldsC.new0 w).alloc _
  have H2 : HoldsC W0 (w.heap.size + 1) noByte := by subst hW0; have := HoldsC.new0 (w.alloc (Obj.cells #[Value.int IntKind.u64 0, Value.int IntKind.u64 0, Value.int IntKind.u64 0, Value.int IntKind.u64 0] 26)); rwa [World.size_alloc] at this
  have HB : Below w.heap.size w W0 := by subst hW0; exact ((Below.refl _ _).alloc (Nat.le_refl _) _).alloc (by simp) _
  rw [hW0]
  clear hW0
  go_loopw [4] (fun i wr => ∃ k : Nat, k ≤ 4 ∧ i = .int .i64 k ∧ Making wr (w.heap.size + 1) S k 4 ∧ Below (w.heap.size + 1) W0 wr) (fun i _ => 4 - (intOf i).toNat)
  case atStart => exact ⟨0, by omega, rfl, Making.start H2, Below.refl _ _⟩
  case round =>
    obtain ⟨k, hk, rfl, hmk, hb⟩ := hrel
    by_cases hlt : k < 4
    · go_wp2
      go_loopw [5] (fun i wr => ∃ z : Int, -1 ≤ z ∧ z ≤ 63 ∧ i = .int .i64 z ∧ Making wr (w.heap.size + 1) S k k ∧ wr.cell? ⟨w.heap.size + 1, k, none⟩ = some (.int .u64 (wd S k / 2 ^ (z + 1).toNat : Nat)) ∧ Below (w.heap.size + 1) W0 wr) (fun i _ => (intOf i + 1).toNat)
      case atStart =>
        refine ⟨63, by omega, by omega, rfl, ⟨fun q hq _ => hmk.cells q hq (by omega), hmk.free, hmk.lt⟩, ?_, hb⟩
        rw [hmk.cells k hlt (by omega), show (63 + 1 : Int).toNat = 64 from rfl, Nat.div_eq_of_lt (show wd S k < 2 ^ 64 from wdN_lt S k 64)]
        simp [part4]
      case round =>
        obtain ⟨z, hz1, hz2, rfl, hmk1, hcell, hb1⟩ := hrel
        by_cases hz : 0 ≤ z
        · obtain ⟨m, rfl⟩ := Int.eq_ofNat_of_zero_le hz
          have hgne : ¬ g = w.heap.size + 1 := by omega
          have hread : wr.cell? ⟨g, 64 * k + m, none⟩ = some (.bool (S (64 * k + m))) := by
            rw [← HS.out (64 * k + m) (by omega)]
            exact ((HB.trans (hb1.mono (by omega))).cell (p := ⟨g, 64 * k + m, none⟩) hg)
          have hstep := make_step S k m (by omega)
          have hwl := wd_lt S k
          have hdl : wd S k / 2 ^ m ≤ wd S k := Nat.div_le_self _ _
          obtain ⟨x, hx⟩ : ∃ x, x = wd S k / 2 ^ (m + 1) := ⟨_, rfl⟩
          rw [show ((m : Int) + 1).toNat = m + 1 by omega, ← hx] at hcell
          rw [← hx] at hstep
          have hx2 : 2 * (x : Int) ≤ 18446744073709551615 := by omega
          have hfr := hmk1.free k hlt
          have hll := hmk1.lt
          have HM := Lib.hid hmk1
          have HX := Lib.hid hstep
          have HC := Lib.hid hcell
          clear hmk1 hstep hx hdl
          cases hS : S (64 * k + m)
          · rw [hS] at hread
            have HSS := Lib.hid hS
            clear hS
            go_wp2
            have hv : ((wd S k / 2 ^ ((m : Int) - 1 + 1).toNat : Nat) : Int) = 2 * (x : Int) := by
              have h := HX.out
              rw [HSS.out] at h
              rw [show ((m : Int) - 1 + 1).toNat = m by omega, h]
              simp
            refine ⟨⟨(m : Int) - 1, by omega, by omega, by go_num, HM.out.set _, ?_, hb1.setCell (Nat.le_refl _) _⟩, by simp [intOf]⟩
            rw [hv]
            exact World.cell?_setCell_same' _ _ _ (by rw [hcell]; rfl)
          · rw [hS] at hread
            have HSS := Lib.hid hS
            clear hS
            have hx3 : 2 * (x : Int) + 1 ≤ 18446744073709551615 := by have := HX.out; rw [HSS.out] at this; simp at this; omega
            go_wp2
            have hv : ((wd S k / 2 ^ ((m : Int) - 1 + 1).toNat : Nat) : Int) = 2 * (x : Int) + 1 := by
              have h := HX.out
              rw [HSS.out] at h
              rw [show ((m : Int) - 1 + 1).toNat = m by omega, h]
              simp
            refine ⟨⟨(m : Int) - 1, by omega, by omega, by go_num, (HM.out.set _).set _, ?_, (hb1.setCell (Nat.le_refl _) _).setCell (Nat.le_refl _) _⟩, by simp [intOf]⟩
            rw [hv]
            exact World.cell?_setCell_same' _ _ _ (by rw [World.cell?_setCell_same' _ _ _ (by rw [hcell]; rfl)]; rfl)
        · obtain rfl : z = -1 := by omega
          have hcell' : wr.cell? ⟨w.heap.size + 1, k, none⟩ = some (.int .u64 (wd S k : Nat)) := by rw [hcell]; simp
          have HM := Lib.hid hmk1
          have HC := Lib.hid hcell'
          clear hmk1 hcell hcell'
          go_wp2
          exact ⟨⟨k + 1, by omega, by go_num, HM.out.next HC.out, hb1⟩, by simp [intOf]; omega⟩
    · obtain rfl : k = 4 := by omega
      have hr := H1.below hb (by omega)
      have hr' := Lib.hid hr
      obtain ⟨⟨d0, d1, d2, d3⟩, ⟨g0, g1, g2, g3⟩, gl⟩ := hr
      obtain ⟨⟨c0, c1, c2, c3⟩, ⟨f0, f1, f2, f3⟩, hl⟩ := hmk.done
      go_wp2
      obtain ⟨⟨e0, e1, e2, e3⟩, -, -⟩ := hr'.out.set S
      exact bodyPost_ret (v := cv S) (by simp [results, Try.results106, go_sem, e0, e1, e2, e3]) rfl ⟨rfl, below_setC (HB.trans (hb.mono (by omega))) (Nat.le_refl _) _⟩
end Go.Proofs.Ytkhcjjdamphbfaa
