/- Rows of numbers as lists; walks of naive.Hits and of beagleref08: Hits, At, Counts, Find, First. -/
import Derived.Test.YtkhcjjdamphbfaaN0
namespace Go.Proofs.Ytkhcjjdamphbfaa
open Go.RowKit

/-- Numbers as cells. -/
def ints (l : List Int) : List Value := l.map fun x => .int .i64 x
theorem ints_snoc (l : List Int) (x : Int) : ints (l ++ [x]) = ints l ++ [.int .i64 x] := by simp [ints]
theorem ints_length (l : List Int) : (ints l).length = l.length := by simp [ints]
/-- The number at a place. -/
def gi (l : List Int) (j : Nat) : Int := (l[j]?).getD 0
theorem gi_eq (l : List Int) (j : Nat) (hj : j < l.length) : (ints l)[j]? = some (.int .i64 (gi l j)) := by
  unfold ints gi
  rw [List.getElem?_map, List.getElem?_eq_getElem hj]
  rfl
theorem rowI_of_ints {w : World} {base cap : Nat} {ad : Option Addr} {l : List Int} (h : w.ownsRow base 3 1 (.slice ad l.length cap) l.length (ints l)) : RowI w ad l.length (gi l) w.heap.size := by
  rcases Nat.eq_zero_or_pos l.length with h0 | h0
  · exact .inl h0
  · obtain ⟨g, cp, hv, _, hlt⟩ := own_form h h0
    cases hv
    refine .inr ⟨g, 0, rfl, hlt, fun j hj => ?_⟩
    rw [Nat.zero_add, h.cellAt j (by omega)]
    exact gi_eq l j hj
theorem agI_lists (l m : List Int) : (decide (l.length = m.length) && agI (gi l) (gi m) l.length) = decide (l = m) := by
  rw [Bool.eq_iff_iff]
  simp only [Bool.and_eq_true, decide_eq_true_eq, agI_iff]
  constructor
  · rintro ⟨hl, h⟩
    refine List.ext_getElem hl fun j h1 h2 => ?_
    have := h j h1
    unfold gi at this
    rw [List.getElem?_eq_getElem h1, List.getElem?_eq_getElem h2] at this
    exact this
  · rintro rfl
    exact ⟨rfl, fun _ _ => rfl⟩

/-- Places is asked of two rows of the program's own. -/
theorem placesL (l m : List Int) (hl : l.length ≤ 100000) (hm : m.length ≤ 100000) {ad ad' : Option Addr} {cap cap' base base' : Nat} (w : World) (h : w.ownsRow base 3 1 (.slice ad l.length cap) l.length (ints l)) (h' : w.ownsRow base' 3 1 (.slice ad' m.length cap') m.length (ints m)) :
    Calls Try.prog 56 #[.slice ad l.length cap, .slice ad' m.length cap'] w fun e w' => e = .returned (.bool (decide (l = m))) ∧ Below w.heap.size w w' := by
  have hp := places_any ad l.length cap (gi l) ad' m.length cap' (gi m) (by omega) (by omega) w (rowI_of_ints h) (rowI_of_ints h')
  rw [agI_lists] at hp
  exact hp

/-- The places below k at which a row is few. -/
def hitsTo (A : Nat → Int) (K : Int) : Nat → List Int
  | 0 => []
  | k + 1 => if A k ≤ K then hitsTo A K k ++ [(k : Int)] else hitsTo A K k
theorem hitsTo_length (A : Nat → Int) (K : Int) (k : Nat) : (hitsTo A K k).length ≤ k := by
  induction k with
  | zero => exact Nat.le_refl _
  | succ k ih =>
    simp only [hitsTo]
    split
    · rw [List.length_append, List.length_singleton]; omega
    · omega

set_option maxRecDepth 100000 in
set_option maxHeartbeats 4000000 in
theorem hits_any (ad : Option Addr) (n cap : Nat) (A : Nat → Int) (K : Int) (hn : (n : Int) ≤ 100000) (w : World) (hR : RowI w ad n A w.heap.size) :
    Calls Try.prog 63 #[.slice ad n cap, .int .i64 K] w fun e w' => ∃ v, e = .returned v ∧ w'.ownsRow w.heap.size 3 1 v (hitsTo A K n).length (ints (hitsTo A K n)) ∧ Below w.heap.size w w' := by
  go_enter Try.func63, Try.ntmps63
  go_wp2_with fail
  go_loopw [5, 10] (fun v i wr => ∃ k : Nat, k ≤ n ∧ i = .int .i64 k ∧ wr.ownsRow w.heap.size 3 1 v (hitsTo A K k).length (ints (hitsTo A K k)) ∧ Below w.heap.size w wr) (fun _ i _ => n - (intOf i).toNat)
  case atStart => exact ⟨0, by omega, rfl, World.ownsRow_nil _ _ _ _, Below.refl _ _⟩
  case round =>
    obtain ⟨k, hk, rfl, hown, hb⟩ := hrel
    have hR1 := hR.below hb (Nat.le_refl _)
    have hlen := hitsTo_length A K k
    have hz := hb.size
    by_cases hlt : k < n
    · obtain ⟨b, o, rfl, hbm, e0⟩ := hR1.at hlt
      clear hR1 hR
      have hlti : (k : Int) < n := by omega
      by_cases hq : A k ≤ K
      · have hs : hitsTo A K (k + 1) = hitsTo A K k ++ [(k : Int)] := by simp only [hitsTo]; rw [if_pos hq]
        have HS := Lib.hid hs
        clear hs
        go_wp2_with (first | (at_builtin; refine wpList_app elem48 rfl _ _ rfl rfl hown [.int .i64 (k : Nat)] rfl rfl (by simp [Value.oneCell']) (by unfold maxLen; omega) (by omega) (by omega) ?_; intro v3 w3 hown3 hb3))
        exact ⟨⟨k + 1, by omega, by go_num, by rw [HS.out, ints_snoc, List.length_append]; exact hown3, hb.trans hb3⟩, by simp [intOf]; omega⟩
      · have hs : hitsTo A K (k + 1) = hitsTo A K k := by simp only [hitsTo]; rw [if_neg hq]
        have HS := Lib.hid hs
        clear hs
        go_wp2
        exact ⟨⟨k + 1, by omega, by go_num, by rw [HS.out]; exact hown, hb⟩, by simp [intOf]; omega⟩
    · obtain rfl : k = n := by omega
      go_wp2
      go_ret
      exact ⟨_, rfl, hown, hb⟩

set_option maxRecDepth 100000 in
set_option maxHeartbeats 4000000 in
theorem rhits_any (ad : Option Addr) (n cap : Nat) (A : Nat → Int) (K : Int) (hn : (n : Int) ≤ 100000) (w : World) (hR : RowI w ad n A w.heap.size) :
    Calls Try.prog 64 #[.slice ad n cap, .int .i64 K] w fun e w' => ∃ v, e = .returned v ∧ w'.ownsRow w.heap.size 3 1 v (hitsTo A K n).length (ints (hitsTo A K n)) ∧ Below w.heap.size w w' := by
  go_enter Try.func64, Try.ntmps64
  go_wp2_with fail
  go_loopw [5, 6] (fun v i wr => ∃ k : Nat, k ≤ n ∧ i = .int .i64 k ∧ wr.ownsRow w.heap.size 3 1 v (hitsTo A K k).length (ints (hitsTo A K k)) ∧ Below w.heap.size w wr) (fun _ i _ => n - (intOf i).toNat)
  case atStart => exact ⟨0, by omega, rfl, World.ownsRow_nil _ _ _ _, Below.refl _ _⟩
  case round =>
    obtain ⟨k, hk, rfl, hown, hb⟩ := hrel
    have hR1 := hR.below hb (Nat.le_refl _)
    have hlen := hitsTo_length A K k
    have hz := hb.size
    by_cases hlt : k < n
    · obtain ⟨b, o, rfl, hbm, e0⟩ := hR1.at hlt
      clear hR1 hR
      have hlti : (k : Int) < n := by omega
      by_cases hq : A k ≤ K
      · have hs : hitsTo A K (k + 1) = hitsTo A K k ++ [(k : Int)] := by simp only [hitsTo]; rw [if_pos hq]
        have HS := Lib.hid hs
        clear hs
        go_wp2_with (first | (at_builtin; refine wpList_app elem48 rfl _ _ rfl rfl hown [.int .i64 (k : Nat)] rfl rfl (by simp [Value.oneCell']) (by unfold maxLen; omega) (by omega) (by omega) ?_; intro v3 w3 hown3 hb3))
        exact ⟨⟨k + 1, by omega, by go_num, by rw [HS.out, ints_snoc, List.length_append]; exact hown3, hb.trans hb3⟩, by simp [intOf]; omega⟩
      · have hs : hitsTo A K (k + 1) = hitsTo A K k := by simp only [hitsTo]; rw [if_neg hq]
        have HS := Lib.hid hs
        clear hs
        go_wp2
        exact ⟨⟨k + 1, by omega, by go_num, by rw [HS.out]; exact hown, hb⟩, by simp [intOf]; omega⟩
    · obtain rfl : k = n := by omega
      go_wp2
      go_ret
      exact ⟨_, rfl, hown, hb⟩

/-- May a leaf stand there? -/
def okAt (t : ByteArray) (n : Nat) (L : Nat → Nat → Bool) (K i : Int) : Bool := rightB n L K && (decide (0 ≤ i) && decide (i ≤ (t.size : Int) - n))

set_option maxRecDepth 100000 in
set_option maxHeartbeats 4000000 in
theorem rat_any (ad : Option Addr) (n cap : Nat) (K : Int) (L : Nat → Nat → Bool) (hn : (n : Int) ≤ 1000) (t : ByteArray) (ht : t.size ≤ 1000) (i : Int) (w : World) (hR : RowC w ad n L w.heap.size) :
    Calls Try.prog 55 #[lv ad n cap K, .string t, .int .i64 i] w fun e w' => e = .returned (.tuple #[.int .i64 (if okAt t n L K i then (mis t L i.toNat n : Nat) else 0), .bool (okAt t n L K i)]) ∧ Below w.heap.size w w' := by
  have HB : Below w.heap.size w (w.alloc (.cells #[.slice ad n cap, .int .i64 K] 43)) := (Below.refl _ _).alloc (Nat.le_refl _) _
  have hR0 := (hR.below HB (Nat.le_refl _)).mono HB.size
  have hl := HoldsL.new w ad n cap K
  have hsub : ((t.size : Int) - n) ≤ 1000 := by omega
  have hsub2 : -1000 ≤ ((t.size : Int) - n) := by omega
  by_cases hr : rightB n L K = true
  · by_cases h0 : 0 ≤ i
    · by_cases h1 : i ≤ (t.size : Int) - n
      · have hok : okAt t n L K i = true := by unfold okAt; rw [hr, decide_eq_true h0, decide_eq_true h1]; rfl
        rw [hok, if_pos rfl]
        obtain ⟨i, rfl⟩ := Int.eq_ofNat_of_zero_le h0
        rw [Int.toNat_natCast]
        clear hok
        go_enter Try.func55, Try.ntmps55
        go_wp2_with (go_at_call 65; refine (rright_any ad n cap K L (by omega) _ hR0).mono ?_; rw [hr]; rintro e w1 ⟨rfl, hb⟩; obtain ⟨c0, c1, cl⟩ := hl.below hb hl.2.2)
        have HB1 := HB.trans (hb.mono HB.size)
        have hl1 := hl.below hb hl.2.2
        have hR1 := hR.below HB1 (Nat.le_refl _)
        clear hb hl hR0 HB hR c0 c1
        go_loopw [8, 9] (fun c j wr => ∃ k : Nat, k ≤ n ∧ j = .int .i64 k ∧ c = .int .i64 (mis t L i k : Nat) ∧ Old w1 wr) (fun _ j _ => n - (intOf j).toNat)
        case atStart => exact ⟨0, by omega, rfl, rfl, Old.refl _⟩
        case round =>
          obtain ⟨k, hk, rfl, rfl, hO⟩ := hrel
          have hl2 := hl1.below hO.2.2.2 cl
          have hR2 := hR1.below hO.2.2.2 (Nat.le_of_lt cl)
          have HB2 := HB1.trans (hO.2.2.2.mono HB1.size)
          have HO := Lib.hid hO
          have cl2 := hl2.2.2
          clear hO hl1 hR1
          by_cases hlt : k < n
          · obtain ⟨b, o, rfl, hbm, e0, e1, e2, e3⟩ := hR2.at hlt
            clear hR2
            have hbl : b < wr.heap.size := Nat.lt_trans hbm cl2
            have hlti : (k : Int) < n := by omega
            have hin : i + k < t.size := by omega
            have hini : (i : Int) + k < t.size := by omega
            have hin0 : (0 : Int) ≤ (i : Int) + k := by omega
            have hw : IntKind.i64.wrap ((i : Int) + k) = (i : Int) + k := by rw [IntKind.wrap_i64]; omega
            have htn : ((i : Int) + k).toNat = i + k := by omega
            have hm1 : mis t L i (k + 1) = mis t L i k + (if L k (tb t (i + k)) then 0 else 1) := rfl
            have hml := mis_le t L i k
            obtain ⟨m, hm⟩ : ∃ m, m = mis t L i k := ⟨_, rfl⟩
            rw [← hm] at hm1 hml ⊢
            clear hm
            cases hq : L k (tb t (i + k))
            · rw [hq, if_neg (by decide)] at hm1
              have H1 := Lib.hid hm1
              clear hm1
              go_wp2_with fail
              go_region_held3 (fun w' => Old wr w') (first | with_reducible exact Old.start _ | with_reducible exact Old.calld (Old.refl _) (by assumption) | with_reducible exact Old.call (by assumption) (by assumption)) (first | (go_at_call 47; refine (rhas_tb _ _ _ (by omega) hq _).mono ?_; rintro e w' ⟨rfl, hb'⟩))
              go_wp2
              exact ⟨⟨k + 1, by omega, by go_num, by rw [H1.out]; go_num, HO.out.trans (by assumption)⟩, by simp [intOf]; omega⟩
            · rw [hq, if_pos rfl] at hm1
              have H1 := Lib.hid hm1
              clear hm1
              go_wp2_with fail
              go_region_held3 (fun w' => Old wr w') (first | with_reducible exact Old.start _ | with_reducible exact Old.calld (Old.refl _) (by assumption) | with_reducible exact Old.call (by assumption) (by assumption)) (first | (go_at_call 47; refine (rhas_tb _ _ _ (by omega) hq _).mono ?_; rintro e w' ⟨rfl, hb'⟩))
              go_wp2
              exact ⟨⟨k + 1, by omega, by go_num, by rw [H1.out]; go_num, HO.out.trans (by assumption)⟩, by simp [intOf]; omega⟩
          · obtain rfl : k = n := by omega
            go_wp2
            go_ret2
            exact ⟨rfl, HB2⟩
      · have hok : okAt t n L K i = false := by unfold okAt; rw [hr, decide_eq_false h1]; simp
        rw [hok, if_neg (by decide)]
        clear hok
        go_enter Try.func55, Try.ntmps55
        go_wp2_with (go_at_call 65; refine (rright_any ad n cap K L (by omega) _ hR0).mono ?_; rw [hr]; rintro e w1 ⟨rfl, hb⟩; obtain ⟨c0, c1, cl⟩ := hl.below hb hl.2.2)
        go_ret2
        exact ⟨rfl, HB.trans (hb.mono HB.size)⟩
    · have hok : okAt t n L K i = false := by unfold okAt; rw [hr, decide_eq_false h0]; simp
      rw [hok, if_neg (by decide)]
      clear hok
      go_enter Try.func55, Try.ntmps55
      go_wp2_with (go_at_call 65; refine (rright_any ad n cap K L (by omega) _ hR0).mono ?_; rw [hr]; rintro e w1 ⟨rfl, hb⟩; obtain ⟨c0, c1, cl⟩ := hl.below hb hl.2.2)
      go_ret2
      exact ⟨rfl, HB.trans (hb.mono HB.size)⟩
  · have hrf : rightB n L K = false := by simpa using hr
    have hok : okAt t n L K i = false := by unfold okAt; rw [hrf]; simp
    rw [hok, if_neg (by decide)]
    clear hok
    go_enter Try.func55, Try.ntmps55
    go_wp2_with (go_at_call 65; refine (rright_any ad n cap K L (by omega) _ hR0).mono ?_; rw [hrf]; rintro e w1 ⟨rfl, hb⟩; obtain ⟨c0, c1, cl⟩ := hl.below hb hl.2.2)
    go_ret2
    exact ⟨rfl, HB.trans (hb.mono HB.size)⟩

/-- How many are missed at each place below k at which the leaf stands. -/
def cntsTo (t : ByteArray) (n : Nat) (L : Nat → Nat → Bool) (K : Int) : Nat → List Int
  | 0 => []
  | k + 1 => if okAt t n L K (k : Nat) then cntsTo t n L K k ++ [((mis t L k n : Nat) : Int)] else cntsTo t n L K k
theorem cntsTo_length (t : ByteArray) (n : Nat) (L : Nat → Nat → Bool) (K : Int) (k : Nat) : (cntsTo t n L K k).length ≤ k := by
  induction k with
  | zero => exact Nat.le_refl _
  | succ k ih =>
    simp only [cntsTo]
    split
    · rw [List.length_append, List.length_singleton]; omega
    · omega

set_option maxRecDepth 100000 in
set_option maxHeartbeats 4000000 in
theorem rcounts_any (ad : Option Addr) (n cap : Nat) (K : Int) (L : Nat → Nat → Bool) (hn : (n : Int) ≤ 1000) (t : ByteArray) (ht : t.size ≤ 1000) (w : World) (hR : RowC w ad n L w.heap.size) :
    Calls Try.prog 58 #[lv ad n cap K, .string t] w fun e w' => ∃ v, e = .returned v ∧ w'.ownsRow w.heap.size 3 1 v (cntsTo t n L K (t.size + 1)).length (ints (cntsTo t n L K (t.size + 1))) ∧ Below w.heap.size w w' := by
  have hl := HoldsL.new w ad n cap K
  go_enter Try.func58, Try.ntmps58
  go_wp2_with fail
  obtain ⟨W0, hW0⟩ : ∃ W0 : World, w.alloc (.cells #[.slice ad n cap, .int .i64 K] 43) = W0 := ⟨_, rfl⟩
  have HB : Below w.heap.size w W0 := by subst hW0; exact (Below.refl _ _).alloc (Nat.le_refl _) _
  have hR0 := hR.below HB (Nat.le_refl _)
  have hs0 : W0.heap.size = w.heap.size + 1 := by subst hW0; simp
  rw [hW0] at hl ⊢
  clear hW0 hR
  have l0 := hl.2.2
  go_loopw [5, 6] (fun v i wr => ∃ k : Nat, k ≤ t.size + 1 ∧ i = .int .i64 k ∧ wr.ownsRow (w.heap.size + 1) 3 1 v (cntsTo t n L K k).length (ints (cntsTo t n L K k)) ∧ Below (w.heap.size + 1) W0 wr) (fun _ i _ => t.size + 1 - (intOf i).toNat)
  case atStart => exact ⟨0, by omega, rfl, World.ownsRow_nil _ _ _ _, Below.refl _ _⟩
  case round =>
    obtain ⟨k, hk, rfl, hown, hb⟩ := hrel
    have hl1 := hl.below hb (by omega)
    have hR1 := (hR0.below hb (by omega)).mono (show w.heap.size ≤ wr.heap.size by have := hb.size; omega)
    have hz := hb.size
    have hlen := cntsTo_length t n L K k
    obtain ⟨c0, c1, cl⟩ := hl1
    clear hl hR0 l0
    have hnext : cntsTo t n L K (k + 1) = if okAt t n L K (k : Nat) then cntsTo t n L K k ++ [((mis t L k n : Nat) : Int)] else cntsTo t n L K k := rfl
    by_cases hlt : k ≤ t.size
    · have hlti : (k : Int) ≤ t.size := by omega
      cases hok : okAt t n L K (k : Nat)
      · rw [hok, if_neg (by decide)] at hnext
        have HS := Lib.hid hnext
        clear hnext
        go_wp2_with (go_at_call 55; refine (rat_any ad n cap K L hn t ht _ _ hR1).mono ?_; rw [hok]; rintro e w1 ⟨rfl, hb1⟩)
        exact ⟨⟨k + 1, by omega, by go_num, by rw [HS.out]; exact own_below hown hb1, hb.trans (hb1.mono (by omega))⟩, by simp [intOf]; omega⟩
      · rw [hok, if_pos rfl] at hnext
        have HS := Lib.hid hnext
        clear hnext
        go_wp2_with (first | (go_at_call 55; refine (rat_any ad n cap K L hn t ht _ _ hR1).mono ?_; rw [hok, if_pos rfl, Int.toNat_natCast]; rintro e w1 ⟨rfl, hb1⟩; have hz1 := hb1.size) | (at_builtin; refine wpList_app elem48 rfl _ _ rfl rfl (own_below hown hb1) [.int .i64 (mis t L k n : Nat)] rfl rfl (by simp [Value.oneCell']) (by unfold maxLen; omega) (by omega) (by omega) ?_; intro v3 w3 hown3 hb3))
        exact ⟨⟨k + 1, by omega, by go_num, by rw [HS.out, ints_snoc, List.length_append]; exact hown3, (hb.trans (hb1.mono (by omega))).trans hb3⟩, by simp [intOf]; omega⟩
    · obtain rfl : k = t.size + 1 := by omega
      have hgt : (t.size : Int) < (t.size : Int) + 1 := by omega
      go_wp2
      go_ret
      exact ⟨_, rfl, own_le hown (by omega), HB.trans (hb.mono (by omega))⟩

/-- Where a leaf is found: by its counts. -/
def findL (t : ByteArray) (n : Nat) (L : Nat → Nat → Bool) (K : Int) : List Int := hitsTo (gi (cntsTo t n L K (t.size + 1))) K (cntsTo t n L K (t.size + 1)).length
theorem findL_length (t : ByteArray) (n : Nat) (L : Nat → Nat → Bool) (K : Int) : (findL t n L K).length ≤ t.size + 1 :=
  Nat.le_trans (hitsTo_length _ _ _) (cntsTo_length _ _ _ _ _)

set_option maxRecDepth 100000 in
set_option maxHeartbeats 4000000 in
theorem rfind_any (ad : Option Addr) (n cap : Nat) (K : Int) (L : Nat → Nat → Bool) (hn : (n : Int) ≤ 1000) (t : ByteArray) (ht : t.size ≤ 1000) (w : World) (hR : RowC w ad n L w.heap.size) :
    Calls Try.prog 62 #[lv ad n cap K, .string t] w fun e w' => ∃ v, e = .returned v ∧ w'.ownsRow w.heap.size 3 1 v (findL t n L K).length (ints (findL t n L K)) ∧ Below w.heap.size w w' := by
  have hl := HoldsL.new w ad n cap K
  have hlen := cntsTo_length t n L K (t.size + 1)
  unfold findL
  have hcc := fun w' hR' => rcounts_any ad n cap K L hn t ht w' hR'
  generalize cntsTo t n L K (t.size + 1) = C at hlen hcc
  have HC := Lib.hid hcc
  clear hcc
  go_enter Try.func62, Try.ntmps62
  go_wp2_with fail
  obtain ⟨W0, hW0⟩ : ∃ W0 : World, w.alloc (.cells #[.slice ad n cap, .int .i64 K] 43) = W0 := ⟨_, rfl⟩
  have HB : Below w.heap.size w W0 := by subst hW0; exact (Below.refl _ _).alloc (Nat.le_refl _) _
  have hR0 : RowC W0.drew ad n L W0.drew.heap.size := (hR.below HB (Nat.le_refl _)).mono HB.size
  rw [hW0] at hl ⊢
  clear hW0 hR
  obtain ⟨c0, c1, cl⟩ := hl
  have hw0 := HB.size
  go_region_held3 (fun w' => Old W0 w') (first | with_reducible exact Old.start _ | with_reducible exact Old.calld (Old.refl _) (by assumption) | with_reducible exact Old.call (by assumption) (by assumption)) (first | (go_at_call 58; refine (HC.out _ hR0).mono ?_; rintro e w1 ⟨v1, rfl, ho1, hb1⟩; obtain ⟨ad1, cap1, rfl⟩ := own_slice ho1) | (go_at_call 64; refine (rhits_any _ _ _ (gi C) K (by omega) _ (rowI_of_ints (by assumption))).mono ?_; rintro e w2 ⟨v2, rfl, ho2, hb2⟩))
  go_wp2
  go_ret
  refine ⟨_, rfl, own_le ho2 (Nat.le_trans hw0 hb1.size), HB.trans ((show Old W0 _ by assumption).2.2.2.mono hw0)⟩

/-- The first one from a bound on. -/
def fge (l : List Int) (b : Int) : Option Int := l.find? fun x => decide (b ≤ x)
theorem fge_hit (l : List Int) (b : Int) (k : Nat) (hk : k < l.length) (hno : ∀ j, j < k → gi l j < b) (h : b ≤ gi l k) : fge l b = some (gi l k) := by
  have e : ∀ j (hj : j < l.length), gi l j = l[j] := fun j hj => by unfold gi; rw [List.getElem?_eq_getElem hj]; rfl
  unfold fge
  rw [e k hk, List.find?_eq_some_iff_getElem]
  refine ⟨by rw [e k hk] at h; simpa using h, k, hk, rfl, fun j hj => ?_⟩
  have := hno j hj
  rw [e j (by omega)] at this
  simpa using this
theorem fge_none (l : List Int) (b : Int) (hno : ∀ j, j < l.length → gi l j < b) : fge l b = none := by
  unfold fge
  rw [List.find?_eq_none]
  intro x hx
  obtain ⟨j, hj, rfl⟩ := List.getElem_of_mem hx
  have := hno j hj
  unfold gi at this
  rw [List.getElem?_eq_getElem hj] at this
  simpa using this

set_option maxRecDepth 100000 in
set_option maxHeartbeats 4000000 in
theorem rfirst_any (ad : Option Addr) (n cap : Nat) (K : Int) (L : Nat → Nat → Bool) (hn : (n : Int) ≤ 1000) (t : ByteArray) (ht : t.size ≤ 1000) (b : Int) (w : World) (hR : RowC w ad n L w.heap.size) :
    Calls Try.prog 60 #[lv ad n cap K, .string t, .int .i64 b] w fun e w' => e = .returned (.tuple #[.int .i64 ((fge (findL t n L K) b).getD 0), .bool (fge (findL t n L K) b).isSome]) ∧ Below w.heap.size w w' := by
  have hl := HoldsL.new w ad n cap K
  have HB : Below w.heap.size w (w.alloc (.cells #[.slice ad n cap, .int .i64 K] 43)) := (Below.refl _ _).alloc (Nat.le_refl _) _
  have hR0 := (hR.below HB (Nat.le_refl _)).mono HB.size
  have hlen := findL_length t n L K
  have hcc := rfind_any ad n cap K L hn t ht _ hR0
  generalize findL t n L K = C at hlen hcc
  have HC := Lib.hid hcc
  clear hcc
  go_enter Try.func60, Try.ntmps60
  go_wp2_with (go_at_call 62; refine HC.out.mono ?_; rintro e w1 ⟨v1, rfl, ho1, hb1⟩; obtain ⟨ad1, cap1, rfl⟩ := own_slice ho1)
  have hr1 := rowI_of_ints ho1
  have HB1 := HB.trans (hb1.mono HB.size)
  clear hl HB hR0 hR HC ho1 hb1
  go_loopw [9] (fun i wr => ∃ k : Nat, k ≤ C.length ∧ i = .int .i64 k ∧ Hid (∀ j, j < k → gi C j < b) ∧ Old w1 wr) (fun i _ => C.length - (intOf i).toNat)
  case atStart => exact ⟨0, by omega, rfl, fun j hj => by omega, Old.refl _⟩
  case round =>
    obtain ⟨k, hk, rfl, hno, hO⟩ := hrel
    have hr2 := hr1.below hO.2.2.2 (Nat.le_refl _)
    have HB2 := HB1.trans (hO.2.2.2.mono HB1.size)
    have HO := Lib.hid hO
    clear hO hr1
    by_cases hlt : k < C.length
    · obtain ⟨bb, o, rfl, hbm, e0⟩ := hr2.at hlt
      clear hr2
      have hlti : (k : Int) < C.length := by omega
      by_cases hq : b ≤ gi C k
      · have hh := Lib.hid (fge_hit C b k hlt hno.out hq)
        go_wp2
        go_ret2
        exact ⟨by rw [hh.out]; rfl, HB2⟩
      · go_wp2
        refine ⟨⟨k + 1, by omega, by go_num, fun j hj => ?_, HO.out⟩, by simp [intOf]; omega⟩
        by_cases he : j = k
        · subst he; omega
        · exact hno.out j (by omega)
    · obtain rfl : k = C.length := by omega
      have hh := Lib.hid (fge_none C b hno.out)
      go_wp2
      go_ret2
      exact ⟨by rw [hh.out]; rfl, HB2⟩
end Go.Proofs.Ytkhcjjdamphbfaa
