/- Walks of zed.Find and of beagleref09.Find. -/
import Derived.Test.YtkhcjjdamphbfaaZ5
import Derived.Test.YtkhcjjdamphbfaaZq
namespace Go.Proofs.Ytkhcjjdamphbfaa
open Go.RowKit Go.Shelf

set_option maxRecDepth 100000 in
set_option maxHeartbeats 4000000 in
theorem zfind_any (p t : ByteArray) (hp : p.size ≤ 1000) (ht : t.size ≤ 1000) (w : World) :
    Calls Try.prog 87 #[.string p, .string t] w fun e w' => ∃ v, e = .returned v ∧ w'.ownsRow w.heap.size 3 1 v (zf p t).length (ints (zf p t)) ∧ Below w.heap.size w w' := by
  by_cases hp0 : p.size = 0
  · have he := empty_of_size p hp0
    have hz : zf p t = [] := by unfold zf; rw [if_pos hp0]
    rw [hz]
    clear hz hp0
    go_enter Try.func87, Try.ntmps87
    go_wp2_with fail
    go_ret
    exact ⟨_, rfl, World.ownsRow_nil _ _ _ _, Below.refl _ _⟩
  · have he := full_of_size p (by omega)
    have hz : zf p t = zfTo p t t.size := by unfold zf; rw [if_neg hp0]
    rw [hz]
    clear hz
    go_enter Try.func87, Try.ntmps87
    go_wp2_with fail
    refine (zrows_any p hp _).mono ?_
    rintro e w1 ⟨v1, rfl, ho1, hb1⟩
    obtain ⟨g1, cp1, rfl, _, _⟩ := own_form ho1 (by omega)
    have hlen : (rowsL p p).length = p.size := rowsL_length p p
    have hR1 := rowI_of_ints (l := rowsL p p) (by rw [hlen]; exact ho1)
    rw [hlen] at hR1
    clear he hlen ho1
    go_wp2_with fail
    refine (rows_own p t hp ht g1 0 cp1 w1 hR1).mono ?_
    rintro e w2 ⟨v2, rfl, ho2, hb2⟩
    obtain ⟨ad2, cp2, rfl⟩ := own_slice ho2
    have hlen : (rowsL p t).length = t.size := rowsL_length p t
    have hR2 := rowI_of_ints (l := rowsL p t) (by rw [hlen]; exact ho2)
    rw [hlen] at hR2
    have hB2 := hb1.trans (hb2.mono hb1.size)
    have HGI := Lib.hid (rowsL_gi p t)
    clear hlen ho2 hb1 hb2 hR1
    go_wp2_with fail
    go_loopw [5, 16] (fun v i wr => ∃ k : Nat, k ≤ t.size ∧ i = .int .i64 k ∧ wr.ownsRow w2.heap.size 3 1 v (zfTo p t k).length (ints (zfTo p t k)) ∧ Below w2.heap.size w2 wr) (fun _ i _ => t.size - (intOf i).toNat)
    case atStart => exact ⟨0, by omega, rfl, World.ownsRow_nil _ _ _ _, Below.refl _ _⟩
    case round =>
      obtain ⟨k, hk, rfl, hown, hb⟩ := hrel
      have hR3 := hR2.below hb (Nat.le_refl _)
      have hz := hb.size
      have hlen := zfTo_length p t k
      by_cases hlt : k < t.size
      · obtain ⟨b, o, rfl, hbm, e0⟩ := hR3.at hlt
        rw [HGI.out k hlt] at e0
        have hlti : (k : Int) < t.size := by omega
        by_cases hq : lc p t k = p.size
        · have hs : zfTo p t (k + 1) = zfTo p t k ++ [(k : Int)] := by simp only [zfTo]; rw [if_pos hq]
          rw [hq] at e0
          have HS := Lib.hid hs
          clear hs hR2 hR3 hq
          go_wp2_with (first | (at_builtin; refine wpList_app elem48 rfl _ _ rfl rfl hown [.int .i64 (k : Nat)] rfl rfl (by simp [Value.oneCell']) (by unfold maxLen; omega) (by omega) (by omega) ?_; intro v3 w3 hown3 hb3))
          exact ⟨⟨k + 1, by omega, by go_num, by rw [HS.out, ints_snoc, List.length_append]; exact hown3, hb.trans hb3⟩, by simp [intOf]; omega⟩
        · have hs : zfTo p t (k + 1) = zfTo p t k := by simp only [zfTo]; rw [if_neg hq]
          have HS := Lib.hid hs
          obtain ⟨x, hx⟩ : ∃ x, x = lc p t k := ⟨_, rfl⟩
          rw [← hx] at e0 hq
          have hqi : ¬ ((x : Int) = p.size) := by omega
          clear hs hR2 hR3 hx
          go_wp2
          exact ⟨⟨k + 1, by omega, by go_num, by rw [HS.out]; exact hown, hb⟩, by simp [intOf]; omega⟩
      · obtain rfl : k = t.size := by omega
        go_wp2
        go_ret
        exact ⟨_, rfl, own_le hown hB2.size, hB2.trans (hb.mono hB2.size)⟩

set_option maxRecDepth 100000 in
set_option maxHeartbeats 4000000 in
theorem rzfind_any (p t : ByteArray) (hp : p.size ≤ 1000) (ht : t.size ≤ 1000) (w : World) :
    Calls Try.prog 88 #[.string p, .string t] w fun e w' => ∃ v, e = .returned v ∧ w'.ownsRow w.heap.size 3 1 v (zf p t).length (ints (zf p t)) ∧ Below w.heap.size w w' := by
  by_cases hp0 : p.size = 0
  · have he := empty_of_size p hp0
    have hz : zf p t = [] := by unfold zf; rw [if_pos hp0]
    rw [hz]
    clear hz hp0
    go_enter Try.func88, Try.ntmps88
    go_wp2_with fail
    go_ret
    exact ⟨_, rfl, World.ownsRow_nil _ _ _ _, Below.refl _ _⟩
  · have he := full_of_size p (by omega)
    have hz : zf p t = zfTo p t t.size := by unfold zf; rw [if_neg hp0]
    rw [hz]
    clear hz
    go_enter Try.func88, Try.ntmps88
    go_wp2_with fail
    go_loopw [5, 6] (fun v i wr => ∃ k : Nat, k ≤ t.size ∧ i = .int .i64 k ∧ wr.ownsRow w.heap.size 3 1 v (zfTo p t k).length (ints (zfTo p t k)) ∧ Below w.heap.size w wr) (fun _ i _ => t.size - (intOf i).toNat)
    case atStart => exact ⟨0, by omega, rfl, World.ownsRow_nil _ _ _ _, Below.refl _ _⟩
    case round =>
      obtain ⟨k, hk, rfl, hown, hb⟩ := hrel
      have hz := hb.size
      have hlen := zfTo_length p t k
      have hw : IntKind.i64.wrap ((k : Int) + p.size) = (k : Int) + p.size := by rw [IntKind.wrap_i64]; omega
      by_cases hlt : k + p.size ≤ t.size
      · have hlti : (k : Int) + p.size ≤ t.size := by omega
        have hk0 : (0 : Int) ≤ k := by omega
        have hkp : (k : Int) ≤ (k : Int) + p.size := by omega
        have htn : ((k : Int) + p.size).toNat = k + p.size := by omega
        have hse := sub_eq p t k hlt
        by_cases hq : lc p t k = p.size
        · have hs : zfTo p t (k + 1) = zfTo p t k ++ [(k : Int)] := by simp only [zfTo]; rw [if_pos hq]
          have HS := Lib.hid hs
          have hx : ((t.extract k (k + p.size)).toList == p.toList) = true := by rw [hse.2 hq]; simp
          clear hs hq hse
          go_wp2_with (first | (at_builtin; refine wpList_app elem48 rfl _ _ rfl rfl hown [.int .i64 (k : Nat)] rfl rfl (by simp [Value.oneCell']) (by unfold maxLen; omega) (by omega) (by omega) ?_; intro v3 w3 hown3 hb3))
          exact ⟨⟨k + 1, by omega, by go_num, by rw [HS.out, ints_snoc, List.length_append]; exact hown3, hb.trans hb3⟩, by simp [intOf]; omega⟩
        · have hs : zfTo p t (k + 1) = zfTo p t k := by simp only [zfTo]; rw [if_neg hq]
          have HS := Lib.hid hs
          have hx : ((t.extract k (k + p.size)).toList == p.toList) = false := by
            rw [beq_eq_false_iff_ne, ByteArray.toList_eq, ByteArray.toList_eq]
            exact fun h => hq (hse.1 (ByteArray.ext (Array.toList_inj.1 h)))
          clear hs hq hse
          go_wp2
          exact ⟨⟨k + 1, by omega, by go_num, by rw [HS.out]; exact hown, hb⟩, by simp [intOf]; omega⟩
      · have hgt : ¬ ((k : Int) + p.size ≤ t.size) := by omega
        have hst := zfTo_stop p t k t.size (Nat.le_refl _) hk (by omega)
        go_wp2
        go_ret
        exact ⟨_, rfl, hown, hb⟩
end Go.Proofs.Ytkhcjjdamphbfaa
