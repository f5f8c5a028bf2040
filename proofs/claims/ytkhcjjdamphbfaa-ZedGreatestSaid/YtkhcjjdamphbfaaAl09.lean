/- Walk of beaglelaw09.alive: it returns true. -/
import Derived.Test.YtkhcjjdamphbfaaZ8
import Derived.Test.YtkhcjjdamphbfaaAl08
namespace Go.Proofs.Ytkhcjjdamphbfaa
open Go.RowKit

def t_aa : ByteArray := ⟨#[97, 97]⟩
def t_aaab : ByteArray := ⟨#[97, 97, 97, 98]⟩
def t_aabaa : ByteArray := ⟨#[97, 97, 98, 97, 97]⟩
def t_a : ByteArray := ⟨#[97]⟩
def t_no : ByteArray := ⟨#[]⟩
theorem text_aa (K : Int) (w : World) : Calls Try.prog 73 #[.string ⟨#[97, 97]⟩, .int .i64 K] w fun e w' => ∃ ad cap, e = .returned (lv ad 2 cap K) ∧ w'.ownsRow w.heap.size 26 4 (.slice ad 2 cap) 2 (clsCells (byteS t_aa) 2) ∧ Below w.heap.size w w' := text_any t_aa (by decide) K w
theorem a9_ok : zok (byteS t_aa) 2 0 = true := by decide +kernel
theorem a9_ok1 : zok (byteS t_aa) 2 1 = false := by decide +kernel
theorem a9_zf : zf t_aa t_aaab = [0, 1] := by decide +kernel
theorem a9_zl : zl (byteS t_aa) 2 0 t_aaab = [0, 1] := by
  unfold zl
  rw [a9_ok, if_pos rfl]
  have : txt (byteS t_aa) 2 = t_aa := byteS_txt t_aa
  rw [this, a9_zf]
theorem a9_zl1 : zl (byteS t_aa) 2 1 t_aaab = [] := by
  unfold zl
  rw [a9_ok1]
  rfl
theorem a9_rows : rowsL t_aabaa t_aabaa = [5, 1, 0, 2, 1] := by decide +kernel
theorem a9_zf0 : zf t_no t_a = [] := by decide +kernel
theorem a9_p1 : per t_abab = 2 := by decide +kernel
theorem a9_p2 : per t_ab = 2 := by decide +kernel
theorem a9_p3 : per t_no = 0 := by decide +kernel

set_option maxRecDepth 100000 in
set_option maxHeartbeats 4000000 in
theorem alive09 (w : World) : Calls Try.prog 84 #[] w fun e w' => e = .returned (.bool true) ∧ Below w.heap.size w w' := by
  go_enter Try.func84, Try.ntmps84
  go_wp2_with fail
  refine (text_aa 0 _).mono ?_
  rintro e w1 ⟨ad, cap, rfl, ho1, HB⟩
  have hR := rowC_of_own ho1
  clear ho1
  go_wp2_with fail
  refine (zleaf_any ad 2 cap 0 (byteS t_aa) (by omega) t_aaab (by decide) _ hR).mono ?_
  rw [a9_ok, a9_zl]
  rintro e w2 ⟨v2, rfl, hof, hb2⟩
  obtain ⟨adf, capf, rfl⟩ := own_slice hof
  replace HB := HB.trans (hb2.mono HB.size)
  clear hR hb2
  go_wp2_with fail
  refine (text_aa 1 _).mono ?_
  rintro e w3 ⟨ad3, cap3, rfl, ho3, hb2⟩
  replace HB := HB.trans (hb2.mono HB.size)
  replace hof := own_below hof hb2
  have hR := rowC_of_own ho3
  clear ho3 hb2
  go_wp2_with fail
  refine (zleaf_any ad3 2 cap3 1 (byteS t_aa) (by omega) t_aaab (by decide) _ hR).mono ?_
  rw [a9_ok1, a9_zl1]
  rintro e w4 ⟨v4, rfl, ho4, hb2⟩
  obtain ⟨adg, capg, rfl⟩ := own_slice ho4
  replace HB := HB.trans (hb2.mono HB.size)
  replace hof := own_below hof hb2
  clear hR hb2 ho4
  go_wp2_with fail
  refine (zrows_any t_aabaa (by decide) _).mono ?_
  rw [a9_rows]
  rintro e w5 ⟨v5, rfl, ho5, hb2⟩
  obtain ⟨ad5, cap5, rfl⟩ := own_slice ho5
  replace HB := HB.trans (hb2.mono HB.size)
  replace hof := own_below hof hb2
  clear hb2
  go_wp2_with fail
  refine (places_new [5, 1, 0, 2, 1] [5, 1, 0, 2, 1] (by decide) (by decide) w5 ho5).mono ?_
  rw [decide_eq_true rfl]
  rintro e w6 ⟨rfl, hb2⟩
  replace HB := HB.trans (hb2.mono HB.size)
  replace hof := own_below hof hb2
  clear hb2 ho5
  go_wp2_with fail
  refine (zfind_any t_aa t_aaab (by decide) (by decide) _).mono ?_
  rw [a9_zf]
  rintro e w7 ⟨v7, rfl, ho7, hb2⟩
  obtain ⟨ad7, cap7, rfl⟩ := own_slice ho7
  replace HB := HB.trans (hb2.mono HB.size)
  replace hof := own_below hof hb2
  clear hb2
  go_wp2_with fail
  refine (places_new [0, 1] [0, 1] (by decide) (by decide) w7 ho7).mono ?_
  rw [decide_eq_true rfl]
  rintro e w8 ⟨rfl, hb2⟩
  replace HB := HB.trans (hb2.mono HB.size)
  replace hof := own_below hof hb2
  clear hb2 ho7
  go_wp2_with fail
  refine (zfind_any t_no t_a (by decide) (by decide) _).mono ?_
  rw [a9_zf0]
  rintro e w9 ⟨v9, rfl, ho9, hb2⟩
  obtain ⟨ad9, cap9, rfl⟩ := own_slice ho9
  replace HB := HB.trans (hb2.mono HB.size)
  replace hof := own_below hof hb2
  clear hb2 ho9
  go_wp2_with fail
  refine (zper_any t_abab (by decide) _).mono ?_
  rw [a9_p1]
  rintro e w10 ⟨rfl, hb2⟩
  replace HB := HB.trans (hb2.mono HB.size)
  replace hof := own_below hof hb2
  clear hb2
  go_wp2_with fail
  refine (zper_any t_ab (by decide) _).mono ?_
  rw [a9_p2]
  rintro e w11 ⟨rfl, hb2⟩
  replace HB := HB.trans (hb2.mono HB.size)
  replace hof := own_below hof hb2
  clear hb2
  go_wp2_with fail
  refine (zper_any t_no (by decide) _).mono ?_
  rw [a9_p3]
  rintro e w12 ⟨rfl, hb2⟩
  replace HB := HB.trans (hb2.mono HB.size)
  replace hof := own_below hof hb2
  clear hb2
  go_wp2_with fail
  refine (places_new [0, 1] [0, 1] (by decide) (by decide) w12 hof).mono ?_
  rw [decide_eq_true rfl]
  rintro e w13 ⟨rfl, hb2⟩
  replace HB := HB.trans (hb2.mono HB.size)
  clear hb2 hof
  go_wp2
  go_ret
  exact ⟨rfl, HB⟩
end Go.Proofs.Ytkhcjjdamphbfaa
