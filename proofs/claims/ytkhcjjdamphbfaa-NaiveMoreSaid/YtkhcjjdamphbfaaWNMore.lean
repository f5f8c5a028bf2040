/- Walk of the law NaiveMore. -/
import Derived.Test.YtkhcjjdamphbfaaAl08
import Derived.Test.YtkhcjjdamphbfaaNp
namespace Go.Proofs.Ytkhcjjdamphbfaa
open Go.RowKit

theorem tb_append (t m : ByteArray) (j : Nat) (hj : j < t.size) : tb (t ++ m) j = tb t j := by
  unfold tb
  rw [ByteArray.data_append, Array.toList_append, List.getElem?_append_left (by simpa using hj)]
theorem mis_append (t m : ByteArray) (L : Nat → Nat → Bool) (i n : Nat) (h : i + n ≤ t.size) : mis (t ++ m) L i n = mis t L i n := by
  induction n with
  | zero => rfl
  | succ n ih => simp only [mis]; rw [ih (by omega), tb_append t m (i + n) (by omega)]
theorem many_append (t m : ByteArray) (n : Nat) (L : Nat → Nat → Bool) (K : Int) : many t n L K 0 ≤ many (t ++ m) n L K 0 := by
  unfold many
  rw [ByteArray.size_append]
  split <;> omega
theorem counts_append (t m : ByteArray) (n : Nat) (L : Nat → Nat → Bool) (K : Int) (j : Nat) (hj : j < many t n L K 0) :
    gi ((plc 0 (many (t ++ m) n L K 0)).map fun i => ((mis (t ++ m) L i n : Nat) : Int)) j = gi ((plc 0 (many t n L K 0)).map fun i => ((mis t L i n : Nat) : Int)) j := by
  have h2 := many_append t m n L K
  unfold gi plc
  rw [List.getElem?_map, List.getElem?_map, List.getElem?_map, List.getElem?_map, List.getElem?_range (by omega), List.getElem?_range hj]
  simp only [Option.map_some, Option.getD_some, Nat.zero_add]
  rw [mis_append]
  unfold many at hj
  split at hj <;> omega
theorem RowI.take {w : World} {ad : Option Addr} {n m k : Nat} {A : Nat → Int} (h : RowI w ad n A m) (hk : k ≤ n) : RowI w ad k A m := by
  rcases h with h | ⟨b, o, ha, hlt, hc⟩
  · exact .inl (by omega)
  · exact .inr ⟨b, o, ha, hlt, fun j hj => hc j (by omega)⟩

set_option maxRecDepth 100000 in
set_option maxHeartbeats 4000000 in
theorem naiveMore_walk (ad : Option Addr) (n cap : Nat) (K : Int) (L : Nat → Nat → Bool) (hn : (n : Int) ≤ 4611686018427387904) (t : ByteArray) (ht : t.size ≤ 140737488351232) (m : ByteArray) (hm : m.size ≤ 140737488351232) (w : World) (hR : RowC w ad n L w.heap.size) :
    Calls Try.prog 13 #[lv ad n cap K, .string t, .string m] w fun e w' => e = .returned (.bool true) ∧ Below w.heap.size w w' := by
  have hl := HoldsL.new w ad n cap K
  have HB : Below w.heap.size w (w.alloc (.cells #[.slice ad n cap, .int .i64 K] 43)) := (Below.refl _ _).alloc (Nat.le_refl _) _
  have hR0 := (hR.below HB (Nat.le_refl _)).mono HB.size
  have hfew := few08_any ad n cap K hn t ht
  cases hf : (decide (n ≤ 100) && decide (t.size ≤ 300))
  · rw [hf] at hfew
    have HF := Lib.hid hfew
    clear hfew
    go_enter Try.func13, Try.ntmps13
    go_wp2_with (first | (go_at_call 52; refine (HF.out _).mono ?_; rintro e w1 ⟨rfl, hb1⟩) | (go_at_call 53; refine (alive08 _).mono ?_; rintro e w2 ⟨rfl, hb2⟩))
    go_ret
    exact ⟨rfl, HB.trans ((hb1.trans (hb2.mono hb1.size)).mono HB.size)⟩
  · rw [hf] at hfew
    have HF := Lib.hid hfew
    clear hfew
    simp only [Bool.and_eq_true, decide_eq_true_eq] at hf
    obtain ⟨hf1, hf2⟩ := hf
    by_cases hm1 : ((m.size : Nat) : Int) ≤ 100
    · have hca := Lib.hid (counts_append t m n L K)
      have hma := many_append t m n L K
      have hmy : many (t ++ m) n L K 0 ≤ 1000 := by have := many_le (t ++ m) n L K 0; rw [ByteArray.size_append] at this; omega
      have hc1 := fun w' h' => counts_any ad n cap K L (by omega) t (by omega) w' h'
      have hc2 := fun w' h' => counts_any ad n cap K L (by omega) (t ++ m) (by rw [ByteArray.size_append]; omega) w' h'
      have e1 : many t n L K 0 = ((plc 0 (many t n L K 0)).map fun i => ((mis t L i n : Nat) : Int)).length := by rw [List.length_map, plc_length]
      have e2 : many (t ++ m) n L K 0 = ((plc 0 (many (t ++ m) n L K 0)).map fun i => ((mis (t ++ m) L i n : Nat) : Int)).length := by rw [List.length_map, plc_length]
      generalize ((plc 0 (many t n L K 0)).map fun i => ((mis t L i n : Nat) : Int)) = X at e1 hc1 hca
      generalize ((plc 0 (many (t ++ m) n L K 0)).map fun i => ((mis (t ++ m) L i n : Nat) : Int)) = Y at e2 hc2 hca
      rw [e1] at hc1 hca hma
      rw [e2] at hc2 hma hmy
      clear e1 e2
      have HC1 := Lib.hid hc1
      have HC2 := Lib.hid hc2
      clear hc1 hc2
      have hcat : ¬ (9223372036854775807 < t.size + m.size) := by omega
      have hcat2 : t.size + m.size ≤ 9223372036854775807 := by omega
      go_enter Try.func13, Try.ntmps13
      go_wp2_with (go_at_call 52; refine (HF.out _).mono ?_; rintro e w1 ⟨rfl, hb1⟩)
      obtain ⟨c0, c1, cl⟩ := hl.below hb1 hl.2.2
      have hR1 := (hR0.below hb1 (Nat.le_refl _)).mono hb1.size
      have HB1 := HB.trans (hb1.mono HB.size)
      clear hl HB hR0 hb1 hR
      go_region_held3 (fun w' => Old w1 w') (first | with_reducible exact Old.start _ | with_reducible exact Old.calld (Old.refl _) (by assumption) | with_reducible exact Old.call (by assumption) (by assumption)) (first | (go_at_call 57; first | (with_reducible refine (HC1.out _ ((hR1.below (show Old w1 _ by with_reducible assumption).2.2.2 (Nat.le_refl _)).mono (show Old w1 _ by with_reducible assumption).2.2.1)).mono ?_; rintro e w' ⟨v1, rfl, ho1, hb1⟩; obtain ⟨ad1, cp1, rfl⟩ := own_slice ho1) | (with_reducible refine (HC2.out _ ((hR1.below (show Old w1 _ by with_reducible assumption).2.2.2 (Nat.le_refl _)).mono (show Old w1 _ by with_reducible assumption).2.2.1)).mono ?_; rintro e w' ⟨v2, rfl, ho2, hb2⟩; obtain ⟨ad2, cp2, rfl⟩ := own_slice ho2)))
      have hag : agI (gi Y) (gi X) X.length = true := (agI_iff _ _ _).2 fun j hj => hca.out j hj
      have hO := (show Old w1 _ by assumption).2.2.2
      have ho1' := own_below ho1 hb2
      have hRX := rowI_of_ints ho1'
      have hRY := rowI_of_ints ho2
      have HB2 := HB1.trans (hO.mono HB1.size)
      have hmi : (X.length : Int) ≤ Y.length := by omega
      rcases ho2.2 with ⟨hv, -⟩ | ⟨g, cp, cur, hv, -, -, hle, -⟩
      · obtain ⟨rfl, hy0, rfl⟩ : ad2 = none ∧ Y.length = 0 ∧ cp2 = 0 := by simpa using hv
        have hx0 : X.length = 0 := by omega
        rw [hx0] at hRX ⊢
        rw [hy0] at hRY ⊢
        clear hv hmi hma hmy hO ho1 ho1' ho2 hb1 hb2 hy0
        go_wp2_with (first | (go_at_call 53; refine (alive08 _).mono ?_; rintro e w3 ⟨rfl, hb3⟩) | (go_at_call 56; refine (places_any none 0 0 (gi Y) ad1 0 cp1 (gi X) (by omega) (by omega) _ (.inl rfl) (.inl rfl)).mono ?_; rw [decide_eq_true rfl]; rintro e w4 ⟨rfl, hb4⟩))
        go_ret
        exact ⟨rfl, HB2.trans ((hb3.trans (hb4.mono hb3.size)).mono HB2.size)⟩
      · obtain ⟨rfl, rfl⟩ : ad2 = some ⟨g, 0, none⟩ ∧ cp2 = cp := by simpa using hv
        have hxc : (X.length : Int) ≤ cp2 := by omega
        have hx00 : (0 : Int) ≤ X.length := by omega
        clear hv hO ho1 ho1' ho2 hb1 hb2
        go_wp2_with (first | (go_at_call 53; refine (alive08 _).mono ?_; rintro e w3 ⟨rfl, hb3⟩; have hRX3 := (hRX.below hb3 (Nat.le_refl _)).mono hb3.size; have hRY3 := ((hRY.below hb3 (Nat.le_refl _)).mono hb3.size).take hma) | (go_at_call 56; refine (places_any (some ⟨g, 0, none⟩) X.length cp2 (gi Y) ad1 X.length cp1 (gi X) (by omega) (by omega) _ hRY3 hRX3).mono ?_; rw [decide_eq_true rfl, hag]; rintro e w4 ⟨rfl, hb4⟩))
        go_ret
        exact ⟨rfl, HB2.trans ((hb3.trans (hb4.mono hb3.size)).mono HB2.size)⟩
    · have hgt : (100 : Int) < (m.size : Nat) := by omega
      go_enter Try.func13, Try.ntmps13
      go_wp2_with (first | (go_at_call 52; refine (HF.out _).mono ?_; rintro e w1 ⟨rfl, hb1⟩) | (go_at_call 53; refine (alive08 _).mono ?_; rintro e w2 ⟨rfl, hb2⟩))
      go_ret
      exact ⟨rfl, HB.trans ((hb1.trans (hb2.mono hb1.size)).mono HB.size)⟩
end Go.Proofs.Ytkhcjjdamphbfaa
