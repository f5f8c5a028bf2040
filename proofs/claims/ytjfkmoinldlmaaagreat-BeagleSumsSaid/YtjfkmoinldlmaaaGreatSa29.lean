/- strings.IndexByte, off the shelf, in plain words. -/
import Derived.Test.YtjfkmoinldlmaaaGreatSa28
import Derived.Shelf.Small.Strs
namespace Go.Proofs.YtjfkmoinldlmaaaGreat
open Go.RowKit Go.Shelf
def lay137r : Go.Shelf.Ren := ⟨fun | 137 => 205 | 217 => 229 | 266 => 241 | n => n, fun | 9 => 9 | 5 => 5 | 3 => 3 | n => n, fun | n => n⟩
theorem lay137 : Go.Proofs.Lays.n137 Tryz.prog lay137r := {
  mixed := by kernel_rfl
  f137 := Tryz.func205.trans (congrArg some (by kernel_rfl))
  f217 := Tryz.func229.trans (congrArg some (by kernel_rfl))
  f266 := Tryz.func241.trans (congrArg some (by kernel_rfl))
  t3 := Tryz.underlying3
  a3 := Tryz.isAgg3
  z3 := Tryz.sizeOf3
  v3 := Tryz.zeroValue3
  t5 := Tryz.underlying5
  a5 := Tryz.isAgg5
  z5 := Tryz.sizeOf5
  v5 := Tryz.zeroValue5
  t9 := Tryz.underlying9
  a9 := Tryz.isAgg9
  z9 := Tryz.sizeOf9
  v9 := Tryz.zeroValue9 }
theorem index_byte (s : ByteArray) (c : Int) (w : World) :
    Calls Tryz.prog 205 #[.string s, .int .u8 c] w fun e w' => e = .returned (.int .i64 (Lib.indexByte s.data.toList c.toNat.toUInt8)) ∧ w' = w := Any.strings_IndexByte lay137 s c w
end Go.Proofs.YtjfkmoinldlmaaaGreat

/- Walks of the scanner: a byte, a pattern, a token. -/
namespace Go.Proofs.YtjfkmoinldlmaaaGreat
open Go.RowKit Go.Shelf

set_option maxRecDepth 100000 in
set_option maxHeartbeats 4000000 in
theorem sign_any (b : Nat) (h1 : 32 ≤ b) (h2 : b ≤ 126) (w : World) : Calls Tryz.prog 240 #[.int .u8 (b : Nat)] w fun e w' => e = .returned (.bool true) ∧ w' = w := by
  have h1' : (32 : Int) ≤ b := by omega
  have h2' : (b : Int) ≤ 126 := by omega
  go_enter Tryz.func240, Tryz.ntmps240
  go_wp2_with fail
  go_ret
  exact ⟨rfl, rfl⟩

set_option maxRecDepth 100000 in
set_option maxHeartbeats 4000000 in
theorem one_at (C : Nat) (k : Nat) (hk : k < 4) (b : Nat) (hb : ∀ h : k < qs.size, (qs[k].toNat : Int) = (b : Int)) (h1 : 32 ≤ b) (h2 : b ≤ 126) (h9 : b ≠ 92) (w : World) (hC : At w C (scC k)) :
    Calls Tryz.prog 228 #[.pointer (some ⟨C, 0, none⟩), .string ⟨#[]⟩, .int .i64 130] w fun e w' => e = .returned (.int .u8 (b : Nat)) ∧ Ex [C] w w' ∧ At w' C (scC ((k : Int) + 1)) := by
  have g1 := Lib.hid fun w' => sign_any b h1 h2 w'
  have g2 := Lib.hid fun w' => index_byte ⟨#[]⟩ b w'
  have HC := Lib.hid hC
  have c0 := hC.cell 0
  have c1 := hC.cell 1
  have fz := hC.free 1
  have cl := hC.lt
  simp only [List.getElem?_toArray, List.getElem?_cons_zero, List.getElem?_cons_succ] at c0 c1
  have hbb := hb hk
  have h92 : ((b : Int) == 92) = false := by simp; omega
  have hki : (k : Int) < 4 := by omega
  clear hC hb
  go_enter Tryz.func228, Tryz.ntmps228
  go_wp2_with fail
  go_quiet (fail)
  go_wp2_with (first | (go_at_call 240; refine (g1.out _).mono ?_; rintro e w1 ⟨rfl, rfl⟩) | (go_at_call 205; refine (g2.out _).mono ?_; rintro e w1 ⟨rfl, rfl⟩))
  go_ret
  exact ⟨rfl, Ex.set (b := w.drewN nq) (Ex.of (below_drewN (Below.refl _ _) _)) C 1 _ (by simp), At.set (w := w.drewN nq) HC.out 1 _⟩

/-- So many jumps. -/
def jmp (P : Program) (rest : Code) (l : Nat) (Q : Exit → Act → World → Prop) : Nat → Act → World → Prop
  | 0, _, _ => False
  | n + 1, a, w => rest.wp P (Exit.jump l (jmp P rest l Q n) Q) a w
theorem wp_scope_n {P : Program} {a : Act} {w : World} {Q : Exit → Act → World → Prop} {c rest : Code} (n l : Nat) (hf : findLabel c l = some rest)
    (first : c.wp P (Exit.jump l (jmp P rest l Q n) Q) a w) : (Code.scope c).wp P Q a w := by
  intro b k cs
  have hg : gotoIn l (.inScope c :: k) = some (.code rest :: .inScope c :: k) := by simp [gotoIn, hf]
  have key : ∀ n a w, jmp P rest l Q n a w → ∃ e a' w', Q e a' w' ∧ Arrives P (lone (b.at a (.code rest :: .inScope c :: k)) cs w) b k cs e a' w' := by
    intro n
    induction n with
    | zero => intro a w h; exact h.elim
    | succ n ih =>
      intro a w hJ
      obtain ⟨e, a₁, w₁, hq, harr⟩ := hJ b (.inScope c :: k) cs
      cases e with
      | normal => exact ⟨.normal, a₁, w₁, hq, Steps.trans harr (.one step_inScope)⟩
      | exit id => exact ⟨.exit id, a₁, w₁, hq, fun k' hk => harr k' (by simp [exitTo, hk])⟩
      | goto l' =>
        obtain ⟨rfl, hJ'⟩ := hq
        obtain ⟨e₂, a₂, w₂, hq₂, harr₂⟩ := ih a₁ w₁ hJ'
        exact ⟨e₂, a₂, w₂, hq₂, .of_steps (harr _ hg) harr₂⟩
      | ret => exact ⟨_, a₁, w₁, hq, harr⟩
      | panic ch => exact ⟨_, a₁, w₁, hq, harr⟩
      | outgrown => exact ⟨_, a₁, w₁, hq, harr⟩
  obtain ⟨e, a₁, w₁, hq, harr⟩ := first b (.inScope c :: k) cs
  cases e with
  | normal => exact ⟨.normal, a₁, w₁, hq, .head step_scope (Steps.trans harr (.one step_inScope))⟩
  | exit id => exact ⟨.exit id, a₁, w₁, hq, fun k' hk => .head step_scope (harr k' (by simp [exitTo, hk]))⟩
  | goto l' =>
    obtain ⟨rfl, hJ'⟩ := hq
    obtain ⟨e₂, a₂, w₂, hq₂, harr₂⟩ := key n a₁ w₁ hJ'
    exact ⟨e₂, a₂, w₂, hq₂, .of_steps (.head step_scope (harr _ hg)) harr₂⟩
  | ret => exact ⟨_, a₁, w₁, hq, .of_steps (.one step_scope) harr⟩
  | panic ch => exact ⟨_, a₁, w₁, hq, .of_steps (.one step_scope) harr⟩
  | outgrown => exact ⟨_, a₁, w₁, hq, .of_steps (.one step_scope) harr⟩

theorem own_ex {w w' : World} {base : Nat} {e : TypeId} {size n C : Nat} {v : Value} {xs : List Value} (h : w.ownsRow base e size v n xs) (hb : Ex [C] w w') (hC : C < base) : w'.ownsRow base e size v n xs := by
  have hg : w.grownBy w' (some C) := ⟨hb.os, hb.tape, hb.output, hb.size, fun i hi hn => hb.block i hi (fun e => hn (by rw [List.mem_singleton.1 e]))⟩
  refine h.kept hg ?_
  rcases h.2 with ⟨rfl, _⟩ | ⟨g, cap, cur, rfl, hbb, _⟩
  · exact .inl rfl
  · refine .inr fun e' => ?_
    have : g = C := by simpa [Value.ownBlock, eq_comm] using e'
    omega
theorem conv_byte (b : Int) (W : World) : (convert 118 9 (.slice (some ⟨W.heap.size, 0, none⟩) 1 1)).run Tryz.prog (W.alloc (.cells #[.int .u8 b] 5)) = .ok (.string (strOfNums [b])) (W.alloc (.cells #[.int .u8 b] 5)) := by
  refine run_convert_bytes_arg _ 118 5 Tryz.underlying118 Tryz.underlying5 W.heap.size 0 1 1 [b] rfl (fun i hi => ?_) 9 Tryz.underlying9
  obtain rfl : i = 0 := by omega
  simp

def sb (b : Int) : Nat → Bool := strSet (strOfNums [b]) (strOfNums [b]).size
def cls4 (S : Nat → Bool) : List Value := [.int .u64 (wd S 0 : Nat), .int .u64 (wd S 1 : Nat), .int .u64 (wd S 2 : Nat), .int .u64 (wd S 3 : Nat)]

set_option maxRecDepth 100000 in
set_option maxHeartbeats 4000000 in
theorem pattern_at (C : Nat) (w : World) (hC : At w C (scC 1)) :
    Calls Tryz.prog 204 #[.pointer (some ⟨C, 0, none⟩)] w fun e w' => ∃ v, e = .returned v ∧ w'.ownsRow w.heap.size 100 4 v 2 (cls4 (sb 97) ++ cls4 (sb 98)) ∧ Ex [C] w w' ∧ At w' C (scC 4) := by
  have e1 := Lib.hid fun (k : Nat) w' (h : At w' C (scC k)) => end_at C k w' h
  have q3 : Hid (∀ (k : Nat) (_ : k < 4) (_ : ∀ h : k < qs.size, ((qs[k].toNat : Int) != 63) = true) (w' : World) (_ : At w' C (scC k)), Calls Tryz.prog 155 #[.pointer (some ⟨C, 0, none⟩), .int .u8 63] w' fun e w2 => e = .returned (.bool false) ∧ Below w'.heap.size w' w2) := Lib.hid fun k hk hb w' h => has_no C k hk 63 hb w' h
  have q4 : Hid (∀ (k : Nat) (_ : k < 4) (_ : ∀ h : k < qs.size, ((qs[k].toNat : Int) != 91) = true) (w' : World) (_ : At w' C (scC k)), Calls Tryz.prog 155 #[.pointer (some ⟨C, 0, none⟩), .int .u8 91] w' fun e w2 => e = .returned (.bool false) ∧ Below w'.heap.size w' w2) := Lib.hid fun k hk hb w' h => has_no C k hk 91 hb w' h
  have q5 := Lib.hid fun (k : Nat) (hk : k < 4) b (hb) h1 h2 h9 w' (h : At w' C (scC k)) => one_at C k hk b hb h1 h2 h9 w' h
  have q6 := Lib.hid fun (b : Int) w' => of_any (strOfNums [b]) (by rw [strOfNums_size]; show 1 ≤ _; decide) w'
  have c0 := hC.cell 0
  have c1 := hC.cell 1
  have c2 := hC.cell 2
  have fz := hC.free 1
  have cl := hC.lt
  simp only [List.getElem?_toArray, List.getElem?_cons_zero, List.getElem?_cons_succ] at c0 c1 c2
  have HC0 := Lib.hid hC
  have cl0 := cl
  have y1 : (qs[1].toNat : Int) = 97 := by decide
  have y2 : (qs[2].toNat : Int) = 98 := by decide
  have y3 : (qs[3].toNat : Int) = 34 := by decide
  have Hw0 : Hid (w.ownsRow w.heap.size 100 4 (.slice none 0 0) 0 []) := Lib.hid (World.ownsRow_nil _ _ _ _)
  have He0 := Lib.hid (Ex.refl [C] w)
  clear hC c0 c1
  go_enter Tryz.func204, Tryz.ntmps204
  go_wp2_with fail
  refine wp_scope_n 2 0 rfl ?_
  go_wp2_with fail
  go_step3
  go_wp2_with (go_at_call 154; refine (e1.out 1 _ HC0.out).mono ?_; rintro e w1 ⟨rfl, hb1⟩; have C1 := Lib.hid (HC0.out.below hb1 cl0); have d0 := C1.out.cell 0; have d1 : w1.cell? ⟨C, 1, none⟩ = some (.int .i64 1) := C1.out.cell 1; have d2 := C1.out.cell 2; have dz := C1.out.free 1; have dl := C1.out.lt; have hw1 := Lib.hid (own_below Hw0.out hb1); have hE1 := Lib.hid (He0.out.then hb1); clear hb1; simp only [List.getElem?_toArray, List.getElem?_cons_zero, List.getElem?_cons_succ] at d0 d2)
  go_quiet (fail)
  go_wp2_with fail
  go_quiet (fail)
  have hcv := conv_byte 97
  have q3k : Hid (∀ (w' : World), At w' C (scC 1) → Calls Tryz.prog 155 #[.pointer (some ⟨C, 0, none⟩), .int .u8 63] w' fun e w2 => e = .returned (.bool false) ∧ Below w'.heap.size w' w2) := Lib.hid fun w' h => q3.out 1 (by omega) (fun _ => rfl) w' h
  have q4k : Hid (∀ (w' : World), At w' C (scC 1) → Calls Tryz.prog 155 #[.pointer (some ⟨C, 0, none⟩), .int .u8 91] w' fun e w2 => e = .returned (.bool false) ∧ Below w'.heap.size w' w2) := Lib.hid fun w' h => q4.out 1 (by omega) (fun _ => rfl) w' h
  have q5k : Hid (∀ (w' : World), At w' C (scC 1) → Calls Tryz.prog 228 #[.pointer (some ⟨C, 0, none⟩), .string ⟨#[]⟩, .int .i64 130] w' fun e w2 => e = .returned (.int .u8 97) ∧ Ex [C] w' w2 ∧ At w2 C (scC 2)) := Lib.hid fun w' h => q5.out 1 (by omega) 97 (fun _ => rfl) (by omega) (by omega) (by omega) w' h
  go_wp2_with (first | (go_at_call 155; (with_reducible refine (q3k.out _ ?_).mono ?_); exact C1.out; rintro e w2 ⟨rfl, hb2'⟩; have hb2 : Below w1.heap.size w1 w2 := ⟨hb2'.os, hb2'.tape, hb2'.output, hb2'.size, hb2'.block⟩; clear hb2'; have C2 : Hid (At w2 C (scC 1)) := Lib.hid ((hb2.block C dl).trans C1.out); have hw2 := Lib.hid (own_below (hb := hb2) hw1.out); have hE2 := Lib.hid (Ex.then (k := hb2) hE1.out); have dl2 := Lib.hid C2.out.lt; clear hb2) | (go_at_call 155; (with_reducible refine (q4k.out _ ?_).mono ?_); exact C2.out; rintro e w3 ⟨rfl, hb3⟩; have C3 : Hid (At w3 C (scC 1)) := Lib.hid ((hb3.block C dl2.out).trans C2.out); have hw3 := Lib.hid (own_below (hb := hb3) hw2.out); have hE3 := Lib.hid (Ex.then (k := hb3) hE2.out); clear hb3) | (go_at_call 228; (with_reducible refine (q5k.out _ ?_).mono ?_); exact C3.out; rintro e w4 ⟨rfl, he4, C4'⟩; have C4 : Hid (At w4 C (scC 2)) := Lib.hid C4'; have hw4 := Lib.hid (own_ex hw3.out he4 cl0); have hE4 : Hid (Ex [C] w w4) := Lib.hid ((hE3.out.trans he4).mono (by intro x hx; left; simpa using hx)); clear he4 C4') | (go_at_call 43; refine (q6.out 97 _).mono ?_; rintro e w5 ⟨rfl, hb5⟩; have C5 : Hid (At w5 C (scC 2)) := Lib.hid ((hb5.block C (by have := C4.out.lt; simp; omega)).trans (C4.out.alloc _)); have hw5 := Lib.hid (own_below (hb := hb5) (hw4.out.alloc _)); have hE5 := Lib.hid (Ex.then (k := hb5) (hE4.out.alloc _)); have hz5 := hE5.out.size; clear hb5) | (at_builtin; refine wpList_app elem50 rfl _ _ rfl rfl hw5.out (cls4 (sb 97)) (by simp [go_sem]) rfl (by simp [Value.oneCell', cls4]) (by unfold maxLen; omega) (by omega) hz5 ?_; intro v6 wA hown6 hb6; obtain ⟨adA, capA, rfl⟩ := own_slice hown6; have HC1 : Hid (At wA C (scC 2)) := Lib.hid (C5.out.below hb6 cl0); have Hw1 : Hid (wA.ownsRow w.heap.size 100 4 (.slice adA 1 capA) 1 (cls4 (sb 97))) := Lib.hid hown6; have He1 : Hid (Ex [C] w wA) := Lib.hid (hE5.out.far hb6 (Nat.le_refl _)); have cl1 := HC1.out.lt))
  clear C1 d0 d1 d2 dz dl hw1 hE1 C2 hw2 hE2 dl2 C3 hw3 hE3 C4 hw4 hE4 C5 hw5 hE5 hz5 q3k q4k q5k hcv
  go_step3
  refine ⟨rfl, ?_⟩
  unfold jmp
  have u1 := HC1.out.cell 2
  simp only [List.getElem?_toArray, List.getElem?_cons_zero, List.getElem?_cons_succ] at u1
  go_wp2_with (go_at_call 154; refine (e1.out 2 _ HC1.out).mono ?_; rintro e w1 ⟨rfl, hb1⟩; have C1 := Lib.hid (HC1.out.below hb1 cl1); have d0 := C1.out.cell 0; have d1 : w1.cell? ⟨C, 1, none⟩ = some (.int .i64 2) := C1.out.cell 1; have d2 := C1.out.cell 2; have dz := C1.out.free 1; have dl := C1.out.lt; have hw1 := Lib.hid (own_below Hw1.out hb1); have hE1 := Lib.hid (He1.out.then hb1); clear hb1; simp only [List.getElem?_toArray, List.getElem?_cons_zero, List.getElem?_cons_succ] at d0 d2)
  go_quiet (fail)
  go_wp2_with fail
  go_quiet (fail)
  have hcv := conv_byte 98
  have q3k : Hid (∀ (w' : World), At w' C (scC 2) → Calls Tryz.prog 155 #[.pointer (some ⟨C, 0, none⟩), .int .u8 63] w' fun e w2 => e = .returned (.bool false) ∧ Below w'.heap.size w' w2) := Lib.hid fun w' h => q3.out 2 (by omega) (fun _ => rfl) w' h
  have q4k : Hid (∀ (w' : World), At w' C (scC 2) → Calls Tryz.prog 155 #[.pointer (some ⟨C, 0, none⟩), .int .u8 91] w' fun e w2 => e = .returned (.bool false) ∧ Below w'.heap.size w' w2) := Lib.hid fun w' h => q4.out 2 (by omega) (fun _ => rfl) w' h
  have q5k : Hid (∀ (w' : World), At w' C (scC 2) → Calls Tryz.prog 228 #[.pointer (some ⟨C, 0, none⟩), .string ⟨#[]⟩, .int .i64 130] w' fun e w2 => e = .returned (.int .u8 98) ∧ Ex [C] w' w2 ∧ At w2 C (scC 3)) := Lib.hid fun w' h => q5.out 2 (by omega) 98 (fun _ => rfl) (by omega) (by omega) (by omega) w' h
  go_wp2_with (first | (go_at_call 155; (with_reducible refine (q3k.out _ ?_).mono ?_); exact C1.out; rintro e w2 ⟨rfl, hb2'⟩; have hb2 : Below w1.heap.size w1 w2 := ⟨hb2'.os, hb2'.tape, hb2'.output, hb2'.size, hb2'.block⟩; clear hb2'; have C2 : Hid (At w2 C (scC 2)) := Lib.hid ((hb2.block C dl).trans C1.out); have hw2 := Lib.hid (own_below (hb := hb2) hw1.out); have hE2 := Lib.hid (Ex.then (k := hb2) hE1.out); have dl2 := Lib.hid C2.out.lt; clear hb2) | (go_at_call 155; (with_reducible refine (q4k.out _ ?_).mono ?_); exact C2.out; rintro e w3 ⟨rfl, hb3⟩; have C3 : Hid (At w3 C (scC 2)) := Lib.hid ((hb3.block C dl2.out).trans C2.out); have hw3 := Lib.hid (own_below (hb := hb3) hw2.out); have hE3 := Lib.hid (Ex.then (k := hb3) hE2.out); clear hb3) | (go_at_call 228; (with_reducible refine (q5k.out _ ?_).mono ?_); exact C3.out; rintro e w4 ⟨rfl, he4, C4'⟩; have C4 : Hid (At w4 C (scC 3)) := Lib.hid C4'; have hw4 := Lib.hid (own_ex hw3.out he4 cl0); have hE4 : Hid (Ex [C] w w4) := Lib.hid ((hE3.out.trans he4).mono (by intro x hx; left; simpa using hx)); clear he4 C4') | (go_at_call 43; refine (q6.out 98 _).mono ?_; rintro e w5 ⟨rfl, hb5⟩; have C5 : Hid (At w5 C (scC 3)) := Lib.hid ((hb5.block C (by have := C4.out.lt; simp; omega)).trans (C4.out.alloc _)); have hw5 := Lib.hid (own_below (hb := hb5) (hw4.out.alloc _)); have hE5 := Lib.hid (Ex.then (k := hb5) (hE4.out.alloc _)); have hz5 := hE5.out.size; clear hb5) | (at_builtin; refine wpList_app elem50 rfl _ _ rfl rfl hw5.out (cls4 (sb 98)) (by simp [go_sem]) rfl (by simp [Value.oneCell', cls4]) (by unfold maxLen; omega) (by omega) hz5 ?_; intro v6 wB hown6 hb6; obtain ⟨adB, capB, rfl⟩ := own_slice hown6; have HC2 : Hid (At wB C (scC 3)) := Lib.hid (C5.out.below hb6 cl0); have Hw2 : Hid (wB.ownsRow w.heap.size 100 4 (.slice adB 2 capB) 2 (cls4 (sb 97) ++ cls4 (sb 98))) := Lib.hid hown6; have He2 : Hid (Ex [C] w wB) := Lib.hid (hE5.out.far hb6 (Nat.le_refl _)); have cl2 := HC2.out.lt))
  clear C1 d0 d1 d2 dz dl hw1 hE1 C2 hw2 hE2 dl2 C3 hw3 hE3 C4 hw4 hE4 C5 hw5 hE5 hz5 q3k q4k q5k hcv
  go_step3
  refine ⟨rfl, ?_⟩
  unfold jmp
  have u2 := HC2.out.cell 2
  simp only [List.getElem?_toArray, List.getElem?_cons_zero, List.getElem?_cons_succ] at u2
  go_wp2_with (go_at_call 154; refine (e1.out 3 _ HC2.out).mono ?_; rintro e w1 ⟨rfl, hb1⟩; have C1 := Lib.hid (HC2.out.below hb1 cl2); have d0 := C1.out.cell 0; have d1 : w1.cell? ⟨C, 1, none⟩ = some (.int .i64 3) := C1.out.cell 1; have d2 := C1.out.cell 2; have dz := C1.out.free 1; have dl := C1.out.lt; have hw1 := Lib.hid (own_below Hw2.out hb1); have hE1 := Lib.hid (He2.out.then hb1); clear hb1; simp only [List.getElem?_toArray, List.getElem?_cons_zero, List.getElem?_cons_succ] at d0 d2)
  go_quiet (fail)
  go_wp2_with fail
  simp only [Exit.jump]
  have eF : Ex [C] w1 ((w1.drewN nq).setCell ⟨C, 1, none⟩ (.int .i64 4)) := Ex.set (show Ex [C] w1 (w1.drewN nq) from ⟨rfl, rfl, rfl, Nat.le_refl _, fun _ _ _ => rfl⟩) C 1 _ (List.mem_singleton.2 rfl)
  go_ret
  exact ⟨_, rfl, own_ex hw1.out eF cl0, (hE1.out.trans eF).mono (by intro x hx; left; simpa using hx), At.set (w := w1.drewN nq) C1.out 1 _⟩
end Go.Proofs.YtjfkmoinldlmaaaGreat

/- Walks of scanner.token and token.Lex at one text. -/
namespace Go.Proofs.YtjfkmoinldlmaaaGreat
open Go.RowKit Go.Shelf

abbrev tkC (k a n : Int) (v : Value) : Obj := .cells #[.int .i64 k, .int .i64 a, .int .i64 n, v] 217

set_option maxRecDepth 100000 in
set_option maxHeartbeats 4000000 in
theorem token_at (C : Nat) (w : World) (hC : At w C (scC 0)) :
    Calls Tryz.prog 156 #[.pointer (some ⟨C, 0, none⟩)] w fun e w' => ∃ v, e = .returned (.agg #[.int .i64 8, .int .i64 0, .int .i64 0, v]) ∧ w'.ownsRow w.heap.size 100 4 v 2 (cls4 (sb 97) ++ cls4 (sb 98)) ∧ Ex [C] w w' ∧ At w' C (scC 4) := by
  have q1 : Hid (∀ (w' : World), At w' C (scC 0) → Calls Tryz.prog 155 #[.pointer (some ⟨C, 0, none⟩), .int .u8 34] w' fun e w2 => e = .returned (.bool true) ∧ Ex [C] w' w2 ∧ At w2 C (scC 1)) := Lib.hid fun w' h => has_yes C 0 (by omega) 34 (fun _ => rfl) w' h
  have q2 := Lib.hid fun w' (h : At w' C (scC 1)) => pattern_at C w' h
  have cl := hC.lt
  have c1 := hC.cell 1
  simp only [List.getElem?_toArray, List.getElem?_cons_zero, List.getElem?_cons_succ] at c1
  have HC2 := Lib.hid ((hC.alloc (tkC 0 0 0 (.slice none 0 0))).alloc (tkC 0 0 0 (.slice none 0 0)))
  have A1 := At.new w (tkC 0 0 0 (.slice none 0 0)) |>.alloc (tkC 0 0 0 (.slice none 0 0))
  have A2 := At.new (w.alloc (tkC 0 0 0 (.slice none 0 0))) (tkC 0 0 0 (.slice none 0 0))
  rw [World.size_alloc] at A2
  have E2 : Ex [C] w ((w.alloc (tkC 0 0 0 (.slice none 0 0))).alloc (tkC 0 0 0 (.slice none 0 0))) := ((Ex.refl [C] w).alloc _).alloc _
  have z2 : ((w.alloc (tkC 0 0 0 (.slice none 0 0))).alloc (tkC 0 0 0 (.slice none 0 0))).heap.size = w.heap.size + 2 := by simp
  clear hC
  go_enter Tryz.func156, Tryz.ntmps156
  go_wp2_with fail
  generalize ((w.alloc (tkC 0 0 0 (.slice none 0 0))).alloc (tkC 0 0 0 (.slice none 0 0))) = W2 at *
  have HA1 := Lib.hid A1
  have HA2 := Lib.hid A2
  have HE2 := Lib.hid E2
  have hz2 := Lib.hid z2
  have hCn : Hid (w.heap.size ∉ [C] ∧ w.heap.size + 1 ∉ [C]) := Lib.hid (by simp; omega)
  clear A1 A2 E2 z2 c1
  go_wp2_with (first | (go_at_call 155; refine (q1.out W2 HC2.out).mono ?_; rintro e w3 ⟨rfl, he3, hC3⟩; have B1 := Lib.hid (HA1.out.ex he3 hCn.out.1); have B2 := Lib.hid (HA2.out.ex he3 hCn.out.2); have HE3 : Hid (Ex [C] w w3) := Lib.hid ((HE2.out.trans he3).mono (by intro x hx; left; simpa using hx)); have HC3 := Lib.hid hC3; have hz3 := Lib.hid he3.size; clear he3 hC3) | (go_at_call 204; refine (q2.out w3 HC3.out).mono ?_; rintro e w4 ⟨v, rfl, ho4, he4, hC4⟩; have D1 := B1.out.ex he4 hCn.out.1; have D2 := B2.out.ex he4 hCn.out.2; have x0 := D1.free 0; have x1 := D1.free 1; have x2 := D1.free 2; have x3 := D1.free 3; have y0 := D2.free 0; have y1 := D2.free 1; have y2 := D2.free 2; have y3 := D2.free 3; have k0 := D1.cell 0; have k1 := D1.cell 1; have k2 := D1.cell 2; have k3 := D1.cell 3; have m0 := D2.cell 0; have m1 := D2.cell 1; have m2 := D2.cell 2; have m3 := D2.cell 3; have l1 := D1.lt; have l2 := D2.lt; simp only [List.getElem?_toArray, List.getElem?_cons_zero, List.getElem?_cons_succ] at k0 k1 k2 k3 m0 m1 m2 m3; obtain ⟨g4, c4, rfl, hg4, hl4, -⟩ := own_at ho4 (Nat.succ_pos _) rfl; have HO4 := Lib.hid ho4; have HE4 : Hid (Ex [C] w w4) := Lib.hid ((HE3.out.trans he4).mono (by intro x hx; left; simpa using hx)); have HC4 := Lib.hid hC4; clear he4 ho4 hC4 D2))
  have hc3 : w.heap.size + 2 ≤ w3.heap.size := by have h1 := hz2.out; have h2 := hz3.out; omega
  have eF : Ex [w.heap.size, w.heap.size + 1] w4 ((((((w4.setCell ⟨w.heap.size + 1, 0, none⟩ (.int .i64 8)).setCell ⟨w.heap.size + 1, 3, none⟩ (.slice (some ⟨g4, 0, none⟩) 2 c4)).setCell ⟨w.heap.size, 0, none⟩ (.int .i64 8)).setCell ⟨w.heap.size, 1, none⟩ (.int .i64 0)).setCell ⟨w.heap.size, 2, none⟩ (.int .i64 0)).setCell ⟨w.heap.size, 3, none⟩ (.slice (some ⟨g4, 0, none⟩) 2 c4)) :=
    ((((((Ex.refl [w.heap.size, w.heap.size + 1] w4).set (w.heap.size + 1) 0 _ (by simp)).set (w.heap.size + 1) 3 _ (by simp)).set w.heap.size 0 _ (by simp)).set w.heap.size 1 _ (by simp)).set w.heap.size 2 _ (by simp)).set w.heap.size 3 _ (by simp)
  have o1 := ownsRow_setCell_below HO4.out (a := ⟨w.heap.size + 1, 0, none⟩) (by show w.heap.size + 1 < _; omega) (.int .i64 8)
  have o2 := ownsRow_setCell_below o1 (a := ⟨w.heap.size + 1, 3, none⟩) (by show w.heap.size + 1 < _; omega) (.slice (some ⟨g4, 0, none⟩) 2 c4)
  have o3 := ownsRow_setCell_below o2 (a := ⟨w.heap.size, 0, none⟩) (by show w.heap.size < _; omega) (.int .i64 8)
  have o4 := ownsRow_setCell_below o3 (a := ⟨w.heap.size, 1, none⟩) (by show w.heap.size < _; omega) (.int .i64 0)
  have o5 := ownsRow_setCell_below o4 (a := ⟨w.heap.size, 2, none⟩) (by show w.heap.size < _; omega) (.int .i64 0)
  have o6 := ownsRow_setCell_below o5 (a := ⟨w.heap.size, 3, none⟩) (by show w.heap.size < _; omega) (.slice (some ⟨g4, 0, none⟩) 2 c4)
  refine bodyPost_ret (v := .agg #[.int .i64 8, .int .i64 0, .int .i64 0, .slice (some ⟨g4, 0, none⟩) 2 c4]) ?_ rfl ⟨_, rfl, own_le o6 (by omega), (HE4.out.trans eF).mono (by intro x hx; simp at hx; rcases hx with rfl | rfl | rfl <;> simp), HC4.out.ex eF (by simp; omega)⟩
  have a1 : Hid (At w4 w.heap.size (tkC 0 0 0 (.slice none 0 0))) := Lib.hid (by assumption)
  clear o1 o2 o3 o4 o5 o6 eF
  simp [results, Tryz.results156, go_sem, *]

theorem elem166 : ElemT 166 217 4 48 := elem_of (z := .agg #[.int .i64 0, .int .i64 0, .int .i64 0, .slice none 0 0]) Tryz.underlying166 (by kernel_rfl) rfl (by decide)
def lab : List (Nat → Bool) := [sb 97, sb 98]
theorem lab_cells : clsL lab = cls4 (sb 97) ++ cls4 (sb 98) := by simp [clsL, lab, cls4]

set_option maxRecDepth 100000 in
set_option maxHeartbeats 4000000 in
theorem lex_at (w : World) :
    Calls Tryz.prog 102 #[.string qs] w fun e w' => ∃ T cT ad cap, e = .returned (.tuple #[.slice (some ⟨T, 0, none⟩) 1 cT, .int .i64 4, .int .i64 0]) ∧ w.heap.size ≤ T ∧ T < w'.heap.size ∧ (∀ (j : Nat) u, [Value.int .i64 8, .int .i64 0, .int .i64 0, .slice ad 2 cap][j]? = some u → w'.cell? ⟨T, j, none⟩ = some u) ∧ RowC w' ad 2 (gc lab) w'.heap.size ∧ Below w.heap.size w w' := by
  have q1 : Hid (∀ C (w' : World), At w' C (scC 0) → Calls Tryz.prog 154 #[.pointer (some ⟨C, 0, none⟩)] w' fun e w2 => e = .returned (.bool false) ∧ Below w'.heap.size w' w2) := Lib.hid fun C w' h => end_at C 0 w' h
  have q2 : Hid (∀ C (w' : World), At w' C (scC 4) → Calls Tryz.prog 154 #[.pointer (some ⟨C, 0, none⟩)] w' fun e w2 => e = .returned (.bool true) ∧ Below w'.heap.size w' w2) := Lib.hid fun C w' h => end_at C 4 w' h
  have q3 : Hid (∀ C (w' : World), At w' C (scC 0) → Calls Tryz.prog 155 #[.pointer (some ⟨C, 0, none⟩), .int .u8 32] w' fun e w2 => e = .returned (.bool false) ∧ Below w'.heap.size w' w2) := Lib.hid fun C w' h => has_no C 0 (by omega) 32 (fun _ => rfl) w' h
  have q4 := Lib.hid fun C w' (h : At w' C (scC 0)) => token_at C w' h
  have HC0 := Lib.hid (At.new w (scC 0))
  have cl : Hid (w.heap.size < (w.alloc (scC 0)).heap.size) := Lib.hid (by simp)
  have B0 := Lib.hid ((Below.refl w.heap.size w).alloc (Nat.le_refl _) (scC 0))
  go_enter Tryz.func102, Tryz.ntmps102
  go_wp2_with fail
  generalize w.alloc (scC 0) = W0 at *
  refine wp_loop_rounds 2 ?_
  rw [rounds_succ]
  go_wp2_with (first | (go_at_call 154; refine (q1.out _ W0 HC0.out).mono ?_; rintro e w1 ⟨rfl, hb1⟩; have C1 := Lib.hid (HC0.out.below hb1 cl.out); have B1 := Lib.hid (B0.out.trans (hb1.mono B0.out.size)); have d2 := C1.out.cell 2; have dl := C1.out.lt; simp only [List.getElem?_toArray, List.getElem?_cons_zero, List.getElem?_cons_succ] at d2; clear hb1) | (go_at_call 155; refine (q3.out _ w1 C1.out).mono ?_; rintro e w2 ⟨rfl, hb2⟩; have C2 := Lib.hid (C1.out.below hb2 dl); have B2 := Lib.hid (B1.out.trans (hb2.mono B1.out.size)); clear hb2) | (go_at_call 156; refine (q4.out _ w2 C2.out).mono ?_; rintro e w3 ⟨v3, rfl, ho3, he3, hC3⟩; obtain ⟨ad, cap, rfl⟩ := own_slice ho3; have HO3 := Lib.hid ho3; have HC3 := Lib.hid hC3; have B3 := Lib.hid (B2.out.trans (he3.below B2.out.size (by simp))); have hz3 := B3.out.size; clear ho3 hC3 he3) | (at_builtin; refine wpList_app elem166 rfl _ _ rfl rfl (show w3.ownsRow w3.heap.size 217 4 (.slice none 0 0) 0 [] from World.ownsRow_nil _ _ _ _) [.int .i64 8, .int .i64 0, .int .i64 0, .slice ad 2 cap] (by simp [go_sem]) rfl (by simp [Value.oneCell']) (by unfold maxLen; omega) (by omega) (Nat.le_refl _) ?_; intro v4 w4 hown4 hb4; obtain ⟨T, cT, rfl, hT, hTl, cc⟩ := own_at hown4 (Nat.succ_pos _) rfl; have CC := Lib.hid cc; have HC4 := Lib.hid (HC3.out.below hb4 HC3.out.lt); have B4 := Lib.hid (B3.out.trans (hb4.mono B3.out.size)); have HR4 : Hid (RowC w4 ad 2 (gc lab) w4.heap.size) := Lib.hid (rowC_of_list (l := lab) (by rw [lab_cells]; exact own_below HO3.out hb4)); clear hown4 cc hb4))
  rw [rounds_succ]
  have dl4 := HC4.out.lt
  go_wp2_with (go_at_call 154; refine (q2.out _ w4 HC4.out).mono ?_; rintro e w5 ⟨rfl, hb5⟩; have B5 := Lib.hid (B4.out.trans (hb5.mono B4.out.size)); have HR5 := Lib.hid ((HR4.out.below hb5 (Nat.le_refl _)).mono hb5.size); have C5 := Lib.hid (HC4.out.below hb5 dl4); have CC5 : Hid (∀ (j : Nat) u, [Value.int .i64 8, .int .i64 0, .int .i64 0, .slice ad 2 cap][j]? = some u → w5.cell? ⟨T, j, none⟩ = some u) := Lib.hid (fun j u hj => (hb5.cell (p := ⟨T, j, none⟩) hTl).trans (CC.out j u hj)); have x2 := C5.out.cell 2; simp only [List.getElem?_toArray, List.getElem?_cons_zero, List.getElem?_cons_succ] at x2; have zz := hb5.size; clear hb5)
  refine bodyPost_ret (results_tmp3 rfl _ _ _) rfl ?_
  exact ⟨T, cT, ad, cap, rfl, by omega, by omega, CC5.out, HR5.out, B5.out⟩
end Go.Proofs.YtjfkmoinldlmaaaGreat

/- Walks of the parser at one token. -/
namespace Go.Proofs.YtjfkmoinldlmaaaGreat
open Go.RowKit Go.Shelf

abbrev paC (l : Value) : Obj := .cells #[l, .int .i64 4, .int .i64 0, .int .i64 0] 171
/-- The token. -/
structure Tok (w : World) (T : Nat) (ad : Option Addr) (cap : Nat) : Prop where
  c0 : w.cell? ⟨T, 0, none⟩ = some (.int .i64 8)
  c1 : w.cell? ⟨T, 1, none⟩ = some (.int .i64 0)
  c2 : w.cell? ⟨T, 2, none⟩ = some (.int .i64 0)
  c3 : w.cell? ⟨T, 3, none⟩ = some (.slice ad 2 cap)
  lt : T < w.heap.size
theorem Tok.ex {w w' : World} {T : Nat} {ad : Option Addr} {cap : Nat} {S : List Nat} (h : Tok w T ad cap) (hb : Ex S w w') (hn : T ∉ S) : Tok w' T ad cap := by
  obtain ⟨h0, h1, h2, h3, h4⟩ := h
  exact ⟨(hb.cell h4 hn 0).trans h0, (hb.cell h4 hn 1).trans h1, (hb.cell h4 hn 2).trans h2, (hb.cell h4 hn 3).trans h3, Nat.lt_of_lt_of_le h4 hb.size⟩
abbrev tz : Value := .agg #[.int .i64 0, .int .i64 0, .int .i64 0, .slice none 0 0]

set_option maxRecDepth 100000 in
set_option maxHeartbeats 4000000 in
theorem next_no (P T cT : Nat) (ad : Option Addr) (cap : Nat) (k : Int) (hk : ((8 : Int) != k) = true) (w : World) (hP : At w P (paC (.slice (some ⟨T, 0, none⟩) 1 cT))) (hT : Tok w T ad cap) :
    Calls Tryz.prog 208 #[.pointer (some ⟨P, 0, none⟩), .int .i64 k] w fun e w' => e = .returned (.tuple #[tz, .bool false]) ∧ Below w.heap.size w w' := by
  have c0 := hP.cell 0
  have pl := hP.lt
  obtain ⟨t0, t1, t2, t3, tl⟩ := hT
  simp only [List.getElem?_toArray, List.getElem?_cons_zero] at c0
  have hA : Below w.heap.size w (w.alloc (tkC 0 0 0 (.slice none 0 0))) := (Below.refl _ _).alloc (Nat.le_refl _) _
  clear hP
  go_enter Tryz.func208, Tryz.ntmps208
  go_wp2_with fail
  refine bodyPost_ret (v := .tuple #[tz, .bool false]) ?_ rfl ⟨rfl, hA⟩
  simp [results, Tryz.results208, go_sem, *]

set_option maxRecDepth 100000 in
set_option maxHeartbeats 4000000 in
theorem next_none (P : Nat) (a : Option Addr) (cT : Nat) (k : Int) (w : World) (hP : At w P (paC (.slice a 0 cT))) :
    Calls Tryz.prog 208 #[.pointer (some ⟨P, 0, none⟩), .int .i64 k] w fun e w' => e = .returned (.tuple #[tz, .bool false]) ∧ Below w.heap.size w w' := by
  have c0 := hP.cell 0
  have pl := hP.lt
  simp only [List.getElem?_toArray, List.getElem?_cons_zero] at c0
  have hA : Below w.heap.size w (w.alloc (tkC 0 0 0 (.slice none 0 0))) := (Below.refl _ _).alloc (Nat.le_refl _) _
  clear hP
  go_enter Tryz.func208, Tryz.ntmps208
  go_wp2_with fail
  refine bodyPost_ret (v := .tuple #[tz, .bool false]) ?_ rfl ⟨rfl, hA⟩
  simp [results, Tryz.results208, go_sem, *]

set_option maxRecDepth 100000 in
set_option maxHeartbeats 4000000 in
theorem next_yes (P T cT : Nat) (ad : Option Addr) (cap : Nat) (w : World) (hP : At w P (paC (.slice (some ⟨T, 0, none⟩) 1 cT))) (hT : Tok w T ad cap) :
    Calls Tryz.prog 208 #[.pointer (some ⟨P, 0, none⟩), .int .i64 8] w fun e w' => e = .returned (.tuple #[.agg #[.int .i64 8, .int .i64 0, .int .i64 0, .slice ad 2 cap], .bool true]) ∧ Ex [P] w w' ∧ ∃ a c, At w' P (paC (.slice a 0 c)) := by
  have HP := Lib.hid hP
  have c0 := hP.cell 0
  have fz := hP.free 0
  have pl := hP.lt
  obtain ⟨t0, t1, t2, t3, tl⟩ := hT
  simp only [List.getElem?_toArray, List.getElem?_cons_zero] at c0
  clear hP
  go_enter Tryz.func208, Tryz.ntmps208
  go_wp2_with fail
  all_goals (refine bodyPost_ret (v := .tuple #[.agg #[.int .i64 8, .int .i64 0, .int .i64 0, .slice ad 2 cap], .bool true]) ?_ rfl ⟨rfl, (((Ex.refl [P] w).set P 0 _ (List.mem_singleton.2 rfl)).alloc _).alloc _, _, _, ((HP.out.set 0 _).alloc _).alloc _⟩)
  all_goals (simp [results, Tryz.results208, go_sem, *])

def PPost (P : Nat) (ad : Option Addr) (cap : Nat) (w : World) (e : Ending) (w' : World) : Prop :=
  ∃ Q cq, e = .returned (.slice (some ⟨Q, 0, none⟩) 1 cq) ∧ One w' Q ad 2 cap 0 ∧ w.heap.size ≤ Q ∧ Ex [P] w w' ∧ ∃ a c, At w' P (paC (.slice a 0 c))

set_option maxRecDepth 100000 in
set_option maxHeartbeats 4000000 in
theorem find_at (P : Nat) (a : Option Addr) (c : Nat) (ad : Option Addr) (cap : Nat) (w : World) (hP : At w P (paC (.slice a 0 c))) :
    Calls Tryz.prog 231 #[.pointer (some ⟨P, 0, none⟩), .agg #[.int .i64 8, .int .i64 0, .int .i64 0, .slice ad 2 cap]] w (PPost P ad cap w) := by
  have q1 := Lib.hid fun w' (h : At w' P (paC (.slice a 0 c))) => next_none P a c 7 w' h
  have c0 := hP.cell 0
  have pl := hP.lt
  simp only [List.getElem?_toArray, List.getElem?_cons_zero] at c0
  have HP1 := Lib.hid (hP.alloc (tkC 8 0 0 (.slice ad 2 cap)))
  have HA1 := Lib.hid (At.new w (tkC 8 0 0 (.slice ad 2 cap)))
  have HE1 := Lib.hid ((Ex.refl [P] w).alloc (tkC 8 0 0 (.slice ad 2 cap)))
  have ll : Hid (w.heap.size < (w.alloc (tkC 8 0 0 (.slice ad 2 cap))).heap.size) := Lib.hid (by simp)
  clear hP
  go_enter Tryz.func231, Tryz.ntmps231
  go_wp2_with (go_at_call 208; refine (q1.out (w.alloc (tkC 8 0 0 (.slice ad 2 cap))) HP1.out).mono ?_; rintro e w2 ⟨rfl, hb2⟩; have HP2 := Lib.hid (HP1.out.below hb2 HP1.out.lt); have k3 : w2.cell? ⟨w.heap.size, 3, none⟩ = some (.slice ad 2 cap) := (HA1.out.below hb2 ll.out).cell 3; have l2 := Lib.hid (Nat.lt_of_lt_of_le ll.out hb2.size); have HE2 : Hid (Ex [P] w w2) := Lib.hid (HE1.out.then hb2); have k3l : w.heap.size < w2.heap.size := l2.out; clear hb2)
  go_ret
  refine ⟨w2.heap.size + 1, 1, rfl, ?_, by have := HE2.out.size; omega, (HE2.out.alloc _).alloc _, a, c, (HP2.out.alloc _).alloc _⟩
  have h := One.new (w2.alloc (tkC 0 0 0 (.slice none 0 0))) ad 2 cap 0
  rwa [World.size_alloc] at h

set_option maxRecDepth 100000 in
set_option maxHeartbeats 4000000 in
theorem item_at (P T cT : Nat) (hne : T ≠ P) (ad : Option Addr) (cap : Nat) (w : World) (hP : At w P (paC (.slice (some ⟨T, 0, none⟩) 1 cT))) (hT : Tok w T ad cap) :
    Calls Tryz.prog 210 #[.pointer (some ⟨P, 0, none⟩)] w (PPost P ad cap w) := by
  have q5 : Hid (∀ w', At w' P (paC (.slice (some ⟨T, 0, none⟩) 1 cT)) → Tok w' T ad cap → Calls Tryz.prog 208 #[.pointer (some ⟨P, 0, none⟩), .int .i64 5] w' fun e w2 => e = .returned (.tuple #[tz, .bool false]) ∧ Below w'.heap.size w' w2) := Lib.hid fun w' h h2 => next_no P T cT ad cap 5 rfl w' h h2
  have q6 : Hid (∀ w', At w' P (paC (.slice (some ⟨T, 0, none⟩) 1 cT)) → Tok w' T ad cap → Calls Tryz.prog 208 #[.pointer (some ⟨P, 0, none⟩), .int .i64 6] w' fun e w2 => e = .returned (.tuple #[tz, .bool false]) ∧ Below w'.heap.size w' w2) := Lib.hid fun w' h h2 => next_no P T cT ad cap 6 rfl w' h h2
  have q8 := Lib.hid fun w' (h : At w' P (paC (.slice (some ⟨T, 0, none⟩) 1 cT))) h2 => next_yes P T cT ad cap w' h h2
  have qf := Lib.hid fun a c w' (h : At w' P (paC (.slice a 0 c))) => find_at P a c ad cap w' h
  have HP := Lib.hid hP
  have HT := Lib.hid hT
  have hn : Hid (T ∉ [P]) := Lib.hid (by simpa using hne)
  clear hP hT hne
  go_enter Tryz.func210, Tryz.ntmps210
  go_wp2_with (first | (go_at_call 208; (with_reducible refine (q5.out w HP.out HT.out).mono ?_); rintro e w1 ⟨rfl, hb1⟩; have E1 : Hid (Ex [P] w (w1.alloc (tkC 0 0 0 (.slice none 0 0)))) := Lib.hid ((Ex.of hb1).alloc _); have P1 := Lib.hid ((HP.out.below hb1 HP.out.lt).alloc (tkC 0 0 0 (.slice none 0 0))); have T1 := Lib.hid (HT.out.ex E1.out hn.out); clear hb1) | (go_at_call 208; (with_reducible refine (q6.out _ P1.out T1.out).mono ?_); rintro e w2 ⟨rfl, hb2⟩; have E2 : Hid (Ex [P] w (w2.alloc (tkC 0 0 0 (.slice none 0 0)))) := Lib.hid ((E1.out.then hb2).alloc _); have P2 := Lib.hid ((P1.out.below hb2 P1.out.lt).alloc (tkC 0 0 0 (.slice none 0 0))); have T2 := Lib.hid (HT.out.ex E2.out hn.out); clear hb2) | (go_at_call 208; (with_reducible refine (q8.out _ P2.out T2.out).mono ?_); rintro e w3 ⟨rfl, he3, a3, c3, hP3⟩; have E3 : Hid (Ex [P] w (w3.alloc (tkC 8 0 0 (.slice ad 2 cap)))) := Lib.hid (((E2.out.trans he3).mono (by intro x hx; left; simpa using hx)).alloc _); have P3 := Lib.hid (hP3.alloc (tkC 8 0 0 (.slice ad 2 cap))); clear he3 hP3) | (go_at_call 231; (with_reducible refine (qf.out a3 c3 _ P3.out).mono ?_); rintro e w4 ⟨Q, cq, rfl, h1, h2, h3, h4⟩; have K1 := Lib.hid h1; have K2 := Lib.hid h2; have K3 := Lib.hid h3; have K4 := Lib.hid h4; clear h1 h2 h3 h4))
  go_ret
  exact ⟨Q, cq, rfl, K1.out, Nat.le_trans E3.out.size K2.out, (E3.out.trans K3.out).mono (by intro x hx; left; simpa using hx), K4.out⟩
end Go.Proofs.YtjfkmoinldlmaaaGreat

/- Walks of the parser at one token: chains, query.Parse. -/
namespace Go.Proofs.YtjfkmoinldlmaaaGreat
open Go.RowKit Go.Shelf

set_option maxRecDepth 100000 in
set_option maxHeartbeats 4000000 in
theorem chain_item (P T cT : Nat) (hne : T ≠ P) (ad : Option Addr) (cap : Nat) (w : World) (hP : At w P (paC (.slice (some ⟨T, 0, none⟩) 1 cT))) (hT : Tok w T ad cap) :
    Calls Tryz.prog 157 #[.pointer (some ⟨P, 0, none⟩), .func (.func 210) #[.pointer (some ⟨P, 0, none⟩)] #[], .int .i64 3, .int .i64 2] w (PPost P ad cap w) := by
  have q1 := Lib.hid (item_at P T cT hne ad cap w hP hT)
  have q2 := Lib.hid fun a c w' (h : At w' P (paC (.slice a 0 c))) => next_none P a c 3 w' h
  clear hP hT hne
  go_enter Tryz.func157, Tryz.ntmps157
  go_wp2_with (go_at_call 210; (with_reducible refine q1.out.mono ?_); rintro e w1 ⟨Q, cq, rfl, h1, h2, h3, a1, c1, hP1⟩; have K1 := Lib.hid h1; have K2 := Lib.hid h2; have K3 := Lib.hid h3; have HP1 := Lib.hid hP1; have m0 := hP1.cell 0; have m3 := hP1.cell 3; have ml := hP1.lt; simp only [List.getElem?_toArray, List.getElem?_cons_zero, List.getElem?_cons_succ] at m0 m3; clear h1 h2 h3 hP1)
  refine wp_loop_rounds 1 ?_
  rw [rounds_succ]
  go_wp2_with (go_at_call 208; (with_reducible refine (q2.out a1 c1 w1 HP1.out).mono ?_); rintro e w2 ⟨rfl, hb2⟩; have J1 := Lib.hid ((K1.out.below hb2 K1.out.lt)); have J2 := Lib.hid ((K3.out.then hb2).alloc (tkC 0 0 0 (.slice none 0 0))); have J3 := Lib.hid ((HP1.out.below hb2 ml).alloc (tkC 0 0 0 (.slice none 0 0))); clear hb2)
  go_ret
  exact ⟨Q, cq, rfl, J1.out.below ((Below.refl _ w2).alloc (Nat.le_refl _) _) J1.out.lt, K2.out, J2.out, a1, c1, J3.out⟩

set_option maxRecDepth 100000 in
set_option maxHeartbeats 4000000 in
theorem part_at (P T cT : Nat) (hne : T ≠ P) (ad : Option Addr) (cap : Nat) (w : World) (hP : At w P (paC (.slice (some ⟨T, 0, none⟩) 1 cT))) (hT : Tok w T ad cap) :
    Calls Tryz.prog 158 #[.pointer (some ⟨P, 0, none⟩)] w (PPost P ad cap w) := by
  have q1 := Lib.hid (chain_item P T cT hne ad cap w hP hT)
  clear hP hT hne
  go_enter Tryz.func158, Tryz.ntmps158
  go_wp2_with (go_at_call 157; (with_reducible refine q1.out.mono ?_); rintro e w1 ⟨Q, cq, rfl, h1, h2, h3, h4⟩; have K1 := Lib.hid h1; have K2 := Lib.hid h2; have K3 := Lib.hid h3; have K4 := Lib.hid h4; clear h1 h2 h3 h4)
  go_ret
  exact ⟨Q, cq, rfl, K1.out, K2.out, K3.out, K4.out⟩

set_option maxRecDepth 100000 in
set_option maxHeartbeats 4000000 in
theorem chain_part (P T cT : Nat) (hne : T ≠ P) (ad : Option Addr) (cap : Nat) (w : World) (hP : At w P (paC (.slice (some ⟨T, 0, none⟩) 1 cT))) (hT : Tok w T ad cap) :
    Calls Tryz.prog 157 #[.pointer (some ⟨P, 0, none⟩), .func (.func 158) #[.pointer (some ⟨P, 0, none⟩)] #[], .int .i64 4, .int .i64 3] w (PPost P ad cap w) := by
  have q1 := Lib.hid (part_at P T cT hne ad cap w hP hT)
  have q2 := Lib.hid fun a c w' (h : At w' P (paC (.slice a 0 c))) => next_none P a c 4 w' h
  clear hP hT hne
  go_enter Tryz.func157, Tryz.ntmps157
  go_wp2_with (go_at_call 158; (with_reducible refine q1.out.mono ?_); rintro e w1 ⟨Q, cq, rfl, h1, h2, h3, a1, c1, hP1⟩; have K1 := Lib.hid h1; have K2 := Lib.hid h2; have K3 := Lib.hid h3; have HP1 := Lib.hid hP1; have m0 := hP1.cell 0; have m3 := hP1.cell 3; have ml := hP1.lt; simp only [List.getElem?_toArray, List.getElem?_cons_zero, List.getElem?_cons_succ] at m0 m3; clear h1 h2 h3 hP1)
  refine wp_loop_rounds 1 ?_
  rw [rounds_succ]
  go_wp2_with (go_at_call 208; (with_reducible refine (q2.out a1 c1 w1 HP1.out).mono ?_); rintro e w2 ⟨rfl, hb2⟩; have J1 := Lib.hid ((K1.out.below hb2 K1.out.lt)); have J2 := Lib.hid ((K3.out.then hb2).alloc (tkC 0 0 0 (.slice none 0 0))); have J3 := Lib.hid ((HP1.out.below hb2 ml).alloc (tkC 0 0 0 (.slice none 0 0))); clear hb2)
  go_ret
  exact ⟨Q, cq, rfl, J1.out.below ((Below.refl _ w2).alloc (Nat.le_refl _) _) J1.out.lt, K2.out, J2.out, a1, c1, J3.out⟩

set_option maxRecDepth 100000 in
set_option maxHeartbeats 4000000 in
theorem query_at (P T cT : Nat) (hne : T ≠ P) (ad : Option Addr) (cap : Nat) (w : World) (hP : At w P (paC (.slice (some ⟨T, 0, none⟩) 1 cT))) (hT : Tok w T ad cap) :
    Calls Tryz.prog 103 #[.pointer (some ⟨P, 0, none⟩)] w (PPost P ad cap w) := by
  have q1 := Lib.hid (chain_part P T cT hne ad cap w hP hT)
  clear hP hT hne
  go_enter Tryz.func103, Tryz.ntmps103
  go_wp2_with (go_at_call 157; (with_reducible refine q1.out.mono ?_); rintro e w1 ⟨Q, cq, rfl, h1, h2, h3, h4⟩; have K1 := Lib.hid h1; have K2 := Lib.hid h2; have K3 := Lib.hid h3; have K4 := Lib.hid h4; clear h1 h2 h3 h4)
  go_ret
  exact ⟨Q, cq, rfl, K1.out, K2.out, K3.out, K4.out⟩

set_option maxRecDepth 100000 in
set_option maxHeartbeats 4000000 in
theorem parse_at (w : World) :
    Calls Tryz.prog 57 #[.string qs] w fun e w' => ∃ Q cq ad cap, e = .returned (.tuple #[.slice (some ⟨Q, 0, none⟩) 1 cq, .int .i64 4, .int .i64 0]) ∧ One w' Q ad 2 cap 0 ∧ w.heap.size ≤ Q ∧ RowC w' ad 2 (gc lab) w'.heap.size ∧ Below w.heap.size w w' := by
  have q1 := Lib.hid (lex_at w)
  have q2 := Lib.hid fun P T cT hne ad cap w' h h2 => query_at P T cT hne ad cap w' h h2
  have q3 := Lib.hid fun Q cq ad cap w' h => depth_one Q cq ad 2 cap 0 w' h
  go_enter Tryz.func57, Tryz.ntmps57
  go_wp2_with (first | (go_at_call 102; (with_reducible refine q1.out.mono ?_); rintro e w1 ⟨T, cT, ad, cap, rfl, hT1, hT2, hT3, hR1, hb1⟩; have B1 := Lib.hid hb1; have R1 := Lib.hid hR1; have T1 : Hid (Tok w1 T ad cap) := Lib.hid ⟨hT3 0 _ rfl, hT3 1 _ rfl, hT3 2 _ rfl, hT3 3 _ rfl, hT2⟩; have P1 := Lib.hid (At.new w1 (paC (.slice (some ⟨T, 0, none⟩) 1 cT))); have hTl := Lib.hid hT2; clear hb1 hR1 hT1 hT2 hT3) | (go_at_call 103; refine (q2.out w1.heap.size T cT (by have := hTl.out; omega) ad cap (w1.alloc (paC (.slice (some ⟨T, 0, none⟩) 1 cT))) P1.out (T1.out.ex ((Ex.refl [] w1).alloc _) (by simp))).mono ?_; rintro e w2 ⟨Q, cq, rfl, h1, h2, h3, a2, c2, hP2⟩; have K1 := Lib.hid h1; have K2 := Lib.hid h2; have K3 := Lib.hid h3; have HP2 := Lib.hid hP2; have m0 := hP2.cell 0; have m3 := hP2.cell 3; have ml := hP2.lt; simp only [List.getElem?_toArray, List.getElem?_cons_zero, List.getElem?_cons_succ] at m0 m3; clear h1 h2 h3 hP2) | (go_at_call 105; refine (q3.out Q cq ad cap w2 K1.out).mono ?_; rintro e w3 ⟨rfl, hb3⟩; have J1 := Lib.hid (K1.out.below hb3 K1.out.lt); have hB3 := Lib.hid hb3; clear hb3))
  have z1 := B1.out.size
  have z2 := K2.out
  rw [World.size_alloc] at z2
  have E3 : Ex [w1.heap.size] w1 w3 := ((((Ex.refl [w1.heap.size] w1).alloc (paC (.slice (some ⟨T, 0, none⟩) 1 cT))).trans K3.out).mono (by intro x hx; left; simpa using hx)).then hB3.out
  have Bf : Below w1.heap.size w1 w3 := E3.below (Nat.le_refl _) (by simp)
  have hR := (R1.out.below Bf (Nat.le_refl _)).mono Bf.size
  refine bodyPost_ret (results_tmp3 rfl _ _ _) rfl ?_
  exact ⟨Q, cq, ad, cap, rfl, J1.out, by omega, hR, B1.out.trans (Bf.mono z1)⟩
end Go.Proofs.YtjfkmoinldlmaaaGreat

/- Walks of engine.open and of Line's digits at one text. -/
namespace Go.Proofs.YtjfkmoinldlmaaaGreat
open Go.RowKit Go.Shelf

abbrev cfv : Value := .agg #[.int .i64 0, .int .i64 0, .int .i64 9, .int .i64 9, .slice none 0 0, .int .i64 (-1)]
abbrev cfC : Obj := .cells #[.int .i64 0, .int .i64 0, .int .i64 9, .int .i64 9, .slice none 0 0, .int .i64 (-1)] 37
theorem lab_right : rightB 2 (gc lab) 0 = true := by decide +kernel

/-- A stream that has begun. -/
def SPost (base S : Nat) (w' : World) : Prop := ∃ Q2 cq2 FD cfd SR csr own sb nx kb ad cap ad' cap',
  At w' S (strC 0 0 (.slice (some ⟨Q2, 0, none⟩) 1 cq2) 9 2 ⟨#[]⟩ 0 (.slice (some ⟨SR, 0, none⟩) 1 csr) (.slice (some ⟨FD, 0, none⟩) 1 cfd)) ∧ One w' Q2 ad 2 cap 0 ∧ Row1 w' SR (srchV own sb nx kb) ∧ At w' FD (.cells #[.slice none 0 0] 24) ∧ SrchC w' S own sb nx kb ad' 2 cap' 0 ∧ RowC w' ad' 2 (gc lab) w'.heap.size ∧ (∀ a, ad' = some a → S < a.block ∧ FD < a.block) ∧ RowC w' ad 2 (gc lab) S ∧ (S < FD ∧ S < nx) ∧
      (own ≠ FD ∧ sb ≠ FD ∧ S ≠ FD ∧ nx ≠ FD ∧ kb ≠ FD) ∧ (S ≠ nx ∧ S ≠ own ∧ S ≠ sb ∧ S ≠ kb) ∧ (Q2 ≠ S ∧ Q2 ≠ FD ∧ Q2 ≠ nx) ∧ (SR ≠ S ∧ SR ≠ FD ∧ SR ≠ nx) ∧ base ≤ S

set_option maxRecDepth 100000 in
set_option maxHeartbeats 4000000 in
theorem open_at (w : World) :
    Calls Tryz.prog 26 #[.string qs, cfv] w fun e w' => ∃ q S, e = .returned (.tuple #[q, .pointer (some ⟨S, 0, none⟩), .int .i64 0, .int .i64 0]) ∧ SPost w.heap.size S w' ∧ Below w.heap.size w w' := by
  have q1 := Lib.hid fun w' => parse_at w'
  have q2 := Lib.hid fun Q cq ad cap w' h hR => stream_new Q cq ad cap 0 lab rfl lab_right w' h hR
  have HA := Lib.hid (At.new w cfC)
  have ll : Hid (w.heap.size < (w.alloc cfC).heap.size) := Lib.hid (by simp)
  have B0 := Lib.hid ((Below.refl w.heap.size w).alloc (Nat.le_refl _) cfC)
  go_enter Tryz.func26, Tryz.ntmps26
  go_wp2_with (first | (go_at_call 57; refine (q1.out (w.alloc cfC)).mono ?_; rintro e w1 ⟨Q, cq, ad, cap, rfl, hO, hQ, hR, hb1⟩; have O1 := Lib.hid hO; have R1 := Lib.hid hR; have B1 := Lib.hid (B0.out.trans (hb1.mono B0.out.size)); have A1 := HA.out.below hb1 ll.out; have a0 := A1.cell 0; have a1 := A1.cell 1; have a2 := A1.cell 2; have al := A1.lt; simp only [List.getElem?_toArray, List.getElem?_cons_zero, List.getElem?_cons_succ] at a0 a1 a2; clear A1 hO hR hQ hb1) | (go_at_call 58; refine (q2.out Q cq ad cap w1 O1.out R1.out).mono ?_; rintro e w2 ⟨S, Q2, cq2, FD, cfd, SR, csr, own, sb, nx, kb, ad', cap', rfl, g1, g2, g3, g4, g5, g6, g7, g8, g8b, g9, g10, g11, g12, g13, g14⟩; have SP : Hid (SPost w.heap.size S w2) := Lib.hid ⟨Q2, cq2, FD, cfd, SR, csr, own, sb, nx, kb, ad, cap, ad', cap', g1, g2, g3, g4, g5, g6, g7, g8, g8b, g9, g10, g11, g12, Nat.le_trans B1.out.size g13⟩; have B2 := Lib.hid (B1.out.trans (g14.mono B1.out.size)); clear g1 g2 g3 g4 g5 g6 g7 g8 g8b g9 g10 g11 g12 g13 g14))
  refine bodyPost_ret (v := .tuple #[.slice (some ⟨Q, 0, none⟩) 1 cq, .pointer (some ⟨S, 0, none⟩), .int .i64 0, .int .i64 0]) ?_ rfl ⟨_, S, rfl, SP.out, B2.out⟩
  simp [results, Tryz.results26, go_sem]
end Go.Proofs.YtjfkmoinldlmaaaGreat

/- Walk of engine.Run at one text. -/
namespace Go.Proofs.YtjfkmoinldlmaaaGreat
open Go.RowKit Go.Shelf

abbrev ts : ByteArray := ⟨#[97, 98, 97, 98]⟩
theorem ts_occ : occ ts 2 (gc lab) 0 = [0, 2] := by decide +kernel
theorem ts_list : ts.toList.isEmpty = false := by decide +kernel

set_option maxRecDepth 100000 in
set_option maxHeartbeats 4000000 in
theorem run_at (w : World) :
    Calls Tryz.prog 8 #[.string qs, .string ts, cfv] w fun e w' => ∃ v, e = .returned (.tuple #[v, .int .i64 0, .int .i64 0]) ∧ w'.ownsRow w.heap.size 3 1 v 2 [.int .i64 0, .int .i64 2] ∧ Below w.heap.size w w' := by
  have q1 := Lib.hid fun w' => open_at w'
  have q2 := Lib.hid fun w' => feed_new ts (by decide) w'
  have HA := Lib.hid (At.new w cfC)
  have ll : Hid (w.heap.size < (w.alloc cfC).heap.size) := Lib.hid (by simp)
  have B0 := Lib.hid ((Below.refl w.heap.size w).alloc (Nat.le_refl _) cfC)
  go_enter Tryz.func8, Tryz.ntmps8
  go_wp2_with fail
  go_step3
  go_wp2_with (first | (go_at_call 26; refine (q1.out (w.alloc cfC)).mono ?_; rintro e w1 ⟨q, S, rfl, hS, hb1⟩; have S1 := Lib.hid hS; have B1 := Lib.hid (B0.out.trans (hb1.mono B0.out.size)); have A1 := HA.out.below hb1 ll.out; have a4 := A1.cell 4; have a5 := A1.cell 5; have al := A1.lt; have AA1 := Lib.hid A1; simp only [List.getElem?_toArray, List.getElem?_cons_zero, List.getElem?_cons_succ] at a4 a5; clear A1 hS hb1) | (go_at_call 27; refine (q2.out w1).mono ?_; rintro e w2 ⟨fp, rfl, hfp, hF, hb2⟩; have F2 := Lib.hid hF; have HB2 := Lib.hid hb2; have B2 := Lib.hid (B1.out.trans (hb2.mono B1.out.size)); have A2 := Lib.hid (AA1.out.below hb2 al); have hfp2 := Lib.hid hfp; clear hF hb2 hfp))
  obtain ⟨Q2, cq2, FD, cfd, SR, csr, own, sb, nx, kb, ad, cap, ad', cap', g1, g2, g3, g4, g5, g6, g7, g8, ⟨n1, n2⟩, g9, g10, g11, g12, g13⟩ := S1.out
  have e2 := Ex.of (S := []) HB2.out
  have lS := g1.lt
  have lQ := g2.lt
  have lR := g3.lt
  have lF := g4.lt
  have lo := g5.own_.lt
  have lb := g5.sb_.lt
  have ln := g5.nx_.lt
  have lk := g5.kb_.lt
  have hf := hfp2.out
  have bA : ∀ a, ad' = some a → a.block < w1.heap.size := fun a ha => by
    rcases g6 with h | ⟨b, o, h, hl, -⟩
    · omega
    · rw [h] at ha; cases ha; exact hl
  have bB : ∀ a, ad = some a → a.block < S := fun a ha => by
    rcases g8 with h | ⟨b, o, h, hl, -⟩
    · omega
    · rw [h] at ha; cases ha; exact hl
  have P1 := Lib.hid (step_first S fp (.slice (some ⟨Q2, 0, none⟩) 1 cq2) (.slice (some ⟨SR, 0, none⟩) 1 csr) (.slice (some ⟨FD, 0, none⟩) 1 cfd) ts rfl w2 (g1.ex e2 (by simp)) F2.out (by omega))
  have M2 := Lib.hid (show One w2 Q2 ad 2 cap 0 ∧ Row1 w2 SR (srchV own sb nx kb) ∧ At w2 FD (.cells #[.slice none 0 0] 24) ∧ SrchC w2 S own sb nx kb ad' 2 cap' 0 ∧ RowC w2 ad' 2 (gc lab) w2.heap.size ∧ RowC w2 ad 2 (gc lab) w2.heap.size from ⟨g2.ex e2 (by simp), g3.ex e2 (by simp), g4.ex e2 (by simp), g5.ex e2 (by simp), g6.ex e2 (by simp), RowC.ex (g8.mono (Nat.le_of_lt lS)) e2 (by simp)⟩)
  have N1 : Hid (Q2 ∉ [S, fp] ∧ SR ∉ [S, fp] ∧ FD ∉ [S, fp] ∧ (own ∉ [S, fp] ∧ sb ∉ [S, fp] ∧ nx ∉ [S, fp] ∧ kb ∉ [S, fp]) ∧ (∀ a, ad' = some a → a.block ∉ [S, fp]) ∧ (∀ a, ad = some a → a.block ∉ [S, fp])) := Lib.hid ⟨by simp; omega, by simp; omega, by simp; omega, ⟨by simp; omega, by simp; omega, by simp; omega, by simp; omega⟩, fun a ha => by have h1 := bA a ha; have h2 := g7 a ha; simp; omega, fun a ha => by have h1 := bB a ha; simp; omega⟩
  have N2 : Hid (Q2 ∉ [S, FD, nx] ∧ (∀ a, ad = some a → a.block ∉ [S, FD, nx])) := Lib.hid ⟨by simp; omega, fun a ha => by have h1 := bB a ha; simp; omega⟩
  have N3 : Hid (∀ a, ad' = some a → a.block ≠ S) := Lib.hid fun a ha => by have h2 := g7 a ha; omega
  have G := Lib.hid (show (own ≠ FD ∧ sb ≠ FD ∧ S ≠ FD ∧ nx ≠ FD ∧ kb ≠ FD) ∧ (S ≠ nx ∧ S ≠ own ∧ S ≠ sb ∧ S ≠ kb) ∧ (SR ≠ S ∧ SR ≠ FD ∧ SR ≠ nx) from ⟨g9, g10, g12⟩)
  have NB : Hid (w.heap.size ≤ S ∧ w.heap.size < S ∧ w1.heap.size ≤ fp) := Lib.hid ⟨by have := HA.out.lt; have h := ll.out; simp at h g13; omega, by simp at g13; omega, hf⟩
  have N4 : Hid (w.heap.size ∉ [S, FD, nx]) := Lib.hid (by have h := NB.out; simp; omega)
  have N5 : Hid (w.heap.size ≤ S ∧ w.heap.size ≤ FD ∧ w.heap.size ≤ nx) := Lib.hid ⟨by have h := NB.out; omega, by have h := NB.out; omega, by have h := NB.out; omega⟩
  clear g1 g2 g3 g4 g5 g6 g7 g8 g9 g10 g11 g12 lS lQ lR lF lo lb ln lk bA bB e2 S1 n1 n2
  refine wp_loop_rounds 2 ?_
  rw [rounds_succ]
  go_wp2_with (go_at_call 28; (with_reducible refine P1.out.mono ?_); rintro e w3 ⟨rfl, hS3, hF3, he3⟩; have S3 := Lib.hid hS3; have F3 := Lib.hid hF3; have E3 := Lib.hid he3; clear hS3 hF3 he3)
  rw [rounds_succ]
  obtain ⟨m1, m2, m3, m4, m5, m6⟩ := M2.out
  have P2 := Lib.hid (step_last S fp FD cfd SR csr own sb nx kb (.slice (some ⟨Q2, 0, none⟩) 1 cq2) cap' ad' 0 (gc lab) ts rfl ts_list lab_right ts_occ w3 S3.out F3.out (m2.ex E3.out N1.out.2.1) (m3.ex E3.out N1.out.2.2.1) (m4.ex E3.out N1.out.2.2.2.1) (m5.ex E3.out N1.out.2.2.2.2.1) N3.out G.out.1 G.out.2.1 G.out.2.2)
  have O3 := Lib.hid (m1.ex E3.out N1.out.1)
  have R3 := Lib.hid (m6.ex E3.out N1.out.2.2.2.2.2)
  clear m1 m2 m3 m4 m5 m6
  have nA : Hid (w.heap.size ∉ [S, fp] ∧ w.heap.size ∉ [S, FD, nx]) := Lib.hid ⟨by have h := NB.out; have h2 := B1.out.size; have h3 := A2.out.lt; have h4 := AA1.out.lt; simp; omega, N4.out⟩
  go_wp2_with (first | (go_at_call 28; (with_reducible refine P2.out.mono ?_); rintro e w4 ⟨rfl, h4, g, c, hS4, he4, hF4, hT4⟩; have P3 := Lib.hid (result_one S Q2 cq2 FD cfd g c (.slice (some ⟨SR, 0, none⟩) 1 csr) h4 ad cap 0 (gc lab) lab_right w4 hS4 (O3.out.ex he4 N2.out.1) (R3.out.ex he4 N2.out.2) hF4 hT4); have A4 := (A2.out.ex E3.out nA.out.1).ex he4 nA.out.2; have B4 := Lib.hid ((B2.out.trans (E3.out.below B2.out.size (by have h := NB.out; have h2 := B1.out.size; simp; omega))).trans (he4.below (Nat.le_trans B2.out.size E3.out.size) (by have h := N5.out; simp; omega))); have A5 := Lib.hid A4; clear hS4 he4 hF4 hT4 A4) | (go_at_call 29; (with_reducible refine P3.out.mono ?_); rintro e w5 ⟨v, rfl, ho5, hb5⟩; obtain ⟨g5, c5, rfl, -, -, -⟩ := own_at ho5 (Nat.succ_pos _) rfl; have x3 := (A5.out.below hb5 A5.out.lt).cell 3; have xl := (A5.out.below hb5 A5.out.lt).lt; simp only [List.getElem?_toArray, List.getElem?_cons_zero, List.getElem?_cons_succ] at x3; have O5 := Lib.hid ho5; have B5 := Lib.hid hb5; clear ho5 hb5))
  rw [Exit.noGoto_ret]
  refine bodyPost_ret (results_tmp3 rfl _ _ _) rfl ?_
  exact ⟨_, rfl, own_le O5.out B4.out.size, B4.out.trans (B5.out.mono B4.out.size)⟩
end Go.Proofs.YtjfkmoinldlmaaaGreat

/- Walk of engine.Line at one text. -/
namespace Go.Proofs.YtjfkmoinldlmaaaGreat
open Go.RowKit Go.Shelf

set_option maxRecDepth 100000 in
set_option maxHeartbeats 4000000 in
theorem digit_at (n b : Int) (h1 : n < 10) (hb : IntKind.i64.wrap (48 + n) = b) (hc : IntKind.u8.wrap b = b) (bx : Nat) (w : World) :
    Calls Tryz.prog 52 #[.int .i64 n, .pointer (some ⟨bx, 0, none⟩)] w fun e w' => e = .returned (.string (strOfNums [b])) ∧ Below w.heap.size w w' := by
  have hcv := conv_byte b w
  have hA : Below w.heap.size w (w.alloc (.cells #[.int .u8 b] 5)) := (Below.refl _ _).alloc (Nat.le_refl _) _
  go_enter Tryz.func52, Tryz.ntmps52
  go_wp2_with fail
  go_ret
  exact ⟨rfl, hA⟩

set_option maxRecDepth 100000 in
set_option maxHeartbeats 4000000 in
theorem line_at (w : World) :
    Calls Tryz.prog 22 #[.string qs, .string ts, cfv] w fun e w' => e = .returned (.string ⟨#[111, 107, 32, 48, 32, 50]⟩) ∧ Below w.heap.size w w' := by
  have q1 := Lib.hid fun w' => run_at w'
  have d0 := Lib.hid fun bx w' => digit_at 0 48 (by decide) (by decide) (by decide) bx w'
  have d2 := Lib.hid fun bx w' => digit_at 2 50 (by decide) (by decide) (by decide) bx w'
  have B0 := Lib.hid ((Below.refl w.heap.size w).alloc (Nat.le_refl _) cfC)
  go_enter Tryz.func22, Tryz.ntmps22
  go_wp2_with (go_at_call 8; refine (q1.out (w.alloc cfC)).mono ?_; rintro e w1 ⟨v, rfl, ho1, hb1⟩; obtain ⟨g, c, rfl, hg, hgl, cc⟩ := own_at ho1 (Nat.succ_pos _) rfl; have f0 := cc 0 _ rfl; have f1 := cc 1 _ rfl; have B1 := Lib.hid (B0.out.trans (hb1.mono B0.out.size)); clear ho1 hb1 cc)
  refine wp_loop_rounds 3 ?_
  have hA := Lib.hid ((Below.refl w1.heap.size w1).alloc (Nat.le_refl _) (.cells #[.func (.func 52) #[] #[.pointer (some ⟨w1.heap.size, 0, none⟩)]] 117))
  have X1 := Lib.hid (At.new w1 (.cells #[.func (.func 52) #[] #[.pointer (some ⟨w1.heap.size, 0, none⟩)]] 117))
  have f1' := (hA.out.cell (p := ⟨g, 1, none⟩) hgl).trans f1
  have hgl' : g < (w1.alloc (.cells #[.func (.func 52) #[] #[.pointer (some ⟨w1.heap.size, 0, none⟩)]] 117)).heap.size := Nat.lt_of_lt_of_le hgl hA.out.size
  rw [rounds_succ]
  go_wp2_with (go_at_call 52; refine (d0.out w1.heap.size _).mono ?_; rintro e w2 ⟨rfl, hb2⟩; have X2 := X1.out.below hb2 (by simp); have b0 := X2.cell 0; have bl := X2.lt; have g1 := (hb2.cell (p := ⟨g, 1, none⟩) hgl').trans f1'; have gl := Nat.lt_of_lt_of_le hgl' hb2.size; simp only [List.getElem?_toArray, List.getElem?_cons_zero] at b0; have HB2 := Lib.hid hb2; clear hb2 X2)
  rw [rounds_succ]
  go_wp2_with (go_at_call 52; refine (d2.out w1.heap.size _).mono ?_; rintro e w3 ⟨rfl, hb3⟩; have HB3 := Lib.hid hb3; clear hb3)
  rw [rounds_succ]
  go_wp2_with fail
  go_ret
  have hz := B1.out.size
  exact ⟨by rfl, ((B1.out.trans (hA.out.mono hz)).trans (HB2.out.mono (Nat.le_trans hz hA.out.size))).trans (HB3.out.mono (Nat.le_trans (Nat.le_trans hz hA.out.size) HB2.out.size))⟩
end Go.Proofs.YtjfkmoinldlmaaaGreat

/- Walks of package grid at one field and one mask: which there are. -/
namespace Go.Proofs.YtjfkmoinldlmaaaGreat
open Go.RowKit Go.Shelf

set_option maxRecDepth 100000 in
set_option maxHeartbeats 4000000 in
theorem rows_field (w : World) : Calls Tryz.prog 91 #[.int .i64 2, .int .i64 4] w fun e w' => e = .returned (.bool true) ∧ w' = w := by
  go_enter Tryz.func91, Tryz.ntmps91
  go_wp2_with fail
  go_ret
  exact ⟨rfl, rfl⟩

set_option maxRecDepth 100000 in
set_option maxHeartbeats 4000000 in
theorem rows_mask (w : World) : Calls Tryz.prog 91 #[.int .i64 1, .int .i64 1] w fun e w' => e = .returned (.bool true) ∧ w' = w := by
  go_enter Tryz.func91, Tryz.ntmps91
  go_wp2_with fail
  go_ret
  exact ⟨rfl, rfl⟩

set_option maxRecDepth 100000 in
set_option maxHeartbeats 4000000 in
theorem right_field (w : World) : Calls Tryz.prog 46 #[.agg #[.int .i64 2, .string ts]] w fun e w' => e = .returned (.bool true) ∧ Below w.heap.size w w' := by
  have q1 := Lib.hid fun w' => rows_field w'
  have hA : Below w.heap.size w (w.alloc (.cells #[.int .i64 2, .string ts] 60)) := (Below.refl _ _).alloc (Nat.le_refl _) _
  go_enter Tryz.func46, Tryz.ntmps46
  go_wp2_with (go_at_call 91; refine (q1.out _).mono ?_; rintro e w1 ⟨rfl, rfl⟩)
  go_ret
  exact ⟨rfl, hA⟩
end Go.Proofs.YtjfkmoinldlmaaaGreat

/- Walk of grid.May at one mask. -/
namespace Go.Proofs.YtjfkmoinldlmaaaGreat
open Go.RowKit Go.Shelf

set_option maxRecDepth 100000 in
set_option maxHeartbeats 4000000 in
theorem may_mask (ad : Option Addr) (cap : Nat) (L : Nat → Nat → Bool) (hL : anyN (fun j => clsEq noByte (L j)) 1 = false) (w : World) (hR : RowC w ad 1 L w.heap.size) :
    Calls Tryz.prog 47 #[.agg #[.int .i64 1, .slice ad 1 cap]] w fun e w' => e = .returned (.bool true) ∧ Below w.heap.size w w' := by
  have q1 := Lib.hid fun w' => rows_mask w'
  have hA : Below w.heap.size w (w.alloc (.cells #[.int .i64 1, .slice ad 1 cap] 62)) := (Below.refl _ _).alloc (Nat.le_refl _) _
  have q2 := Lib.hid fun w' (h : RowC w' ad 1 L w'.heap.size) => contains0_any ad 1 cap L (by omega) w' h
  rw [hL] at q2
  have HR := Lib.hid ((hR.below hA (Nat.le_refl _)).mono hA.size)
  have HA := Lib.hid hA
  clear hR hA hL
  go_enter Tryz.func47, Tryz.ntmps47
  go_wp2_with (first | (go_at_call 91; refine (q1.out _).mono ?_; rintro e w1 ⟨rfl, rfl⟩) | (go_at_call 92; refine (q2.out _ HR.out).mono ?_; rintro e w1 ⟨rfl, hb1⟩))
  go_ret
  exact ⟨rfl, HA.out.trans (hb1.mono HA.out.size)⟩
end Go.Proofs.YtjfkmoinldlmaaaGreat

/- Walks of grid.kinds at a mask of one class that is not full, and of the function that makes the row of a class, at one field and one mask. -/
namespace Go.Proofs.YtjfkmoinldlmaaaGreat
open Go.RowKit Go.Shelf

set_option maxRecDepth 100000 in
set_option maxHeartbeats 4000000 in
theorem gkinds_one (b o cap : Nat) (S : Nat → Bool) (hS : clsEq S (fun _ => true) = false) (w : World) (hb : b < w.heap.size)
    (e0 : w.cell? ⟨b, o, none⟩ = some (.int .u64 (wd S 0 : Nat))) (e1 : w.cell? ⟨b, o + 1, none⟩ = some (.int .u64 (wd S 1 : Nat))) (e2 : w.cell? ⟨b, o + 2, none⟩ = some (.int .u64 (wd S 2 : Nat))) (e3 : w.cell? ⟨b, o + 3, none⟩ = some (.int .u64 (wd S 3 : Nat))) :
    Calls Tryz.prog 50 #[.agg #[.int .i64 1, .slice (some ⟨b, o, none⟩) 1 cap]] w fun e w' => ∃ v, e = .returned v ∧ w'.ownsRow w.heap.size 100 4 v 1 (cls4 S) ∧ Below w.heap.size w w' := by
  have hf := Lib.hid fun w' => full_any w'
  have hc := Lib.hid fun w' => contains_any none 0 0 (fun _ => S) S (by omega) w' (.inl rfl)
  have hA : Below w.heap.size w ((w.alloc (.cells #[.int .i64 1, .slice (some ⟨b, o, none⟩) 1 cap] 62)).alloc (.cells #[.int .u64 (wd S 0 : Nat), .int .u64 (wd S 1 : Nat), .int .u64 (wd S 2 : Nat), .int .u64 (wd S 3 : Nat)] 100)) := ((Below.refl _ _).alloc (Nat.le_refl _) _).alloc (by simp) _
  have hN := HoldsC.new (w.alloc (.cells #[.int .i64 1, .slice (some ⟨b, o, none⟩) 1 cap] 62)) S
  rw [World.size_alloc] at hN
  have HA := Lib.hid hA
  have hne : (!clsEq S (fun _ => true)) = true := by rw [hS]; rfl
  clear hA
  go_enter Tryz.func50, Tryz.ntmps50
  go_wp2_with fail
  refine wp_loop_rounds 2 ?_
  rw [rounds_succ]
  go_wp2_with fail
  generalize (w.alloc (.cells #[.int .i64 1, .slice (some ⟨b, o, none⟩) 1 cap] 62)).alloc (.cells #[.int .u64 (wd S 0 : Nat), .int .u64 (wd S 1 : Nat), .int .u64 (wd S 2 : Nat), .int .u64 (wd S 3 : Nat)] 100) = W2 at *
  obtain ⟨⟨d0, d1, d2, d3⟩, -, dl⟩ := hN
  clear e0 e1 e2 e3
  go_region_held3 (fun w' => Old W2 w') (first | with_reducible exact Old.start _ | with_reducible exact Old.calld (Old.refl _) (by with_reducible assumption) | with_reducible exact Old.call (by with_reducible assumption) (by with_reducible assumption)) (first | (go_at_call 93; refine (hf.out _).mono ?_; rintro e w' ⟨rfl, hb'⟩) | (go_at_call 92; refine (hc.out _).mono ?_; rintro e w' ⟨rfl, hb'⟩))
  have HO := Lib.hid (show Old W2 w' by with_reducible assumption)
  have hzw : w.heap.size ≤ w'.heap.size := by have := HO.out.2.2.1; omega
  clear hb'
  go_wp2_with (at_builtin; refine wpList_app elem50 rfl _ _ rfl rfl (World.ownsRow_nil w' w.heap.size 100 4) (cls4 S) rfl rfl (by simp [Value.oneCell', cls4]) (by unfold maxLen; omega) (by omega) hzw ?_; intro v4 w4 hown4 hb4)
  have HOWN := Lib.hid hown4
  have HB4 := Lib.hid hb4
  clear hown4 hb4 dl d0 d1 d2 d3
  rw [rounds_succ]
  go_wp2_with fail
  go_ret
  exact ⟨_, rfl, by simpa using HOWN.out, (HA.out.trans (HO.out.2.2.2.mono HA.out.size)).trans HB4.out⟩

set_option maxRecDepth 100000 in
set_option maxHeartbeats 4000000 in
theorem grow_one (b o cap lb mb fb : Nat) (S : Nat → Bool) (w : World) (hb : b < w.heap.size)
    (e0 : w.cell? ⟨b, o, none⟩ = some (.int .u64 (wd S 0 : Nat))) (e1 : w.cell? ⟨b, o + 1, none⟩ = some (.int .u64 (wd S 1 : Nat))) (e2 : w.cell? ⟨b, o + 2, none⟩ = some (.int .u64 (wd S 2 : Nat))) (e3 : w.cell? ⟨b, o + 3, none⟩ = some (.int .u64 (wd S 3 : Nat)))
    (k0 : w.cell? ⟨lb, 0, none⟩ = some (.int .i64 1)) (kl : lb < w.heap.size) (m0 : w.cell? ⟨mb, 0, none⟩ = some (.int .i64 1)) (m1 : w.cell? ⟨mb, 1, none⟩ = some (.slice (some ⟨b, o, none⟩) 1 cap)) (ml : mb < w.heap.size) (f0 : w.cell? ⟨fb, 0, none⟩ = some (.int .i64 2)) (fl : fb < w.heap.size) :
    Calls Tryz.prog 49 #[cv S, .pointer (some ⟨lb, 0, none⟩), .pointer (some ⟨mb, 0, none⟩), .pointer (some ⟨fb, 0, none⟩)] w fun e w' => ∃ g, e = .returned (.tuple #[.slice (some ⟨g, 0, none⟩) 1 1, .int .u64 1]) ∧ w.heap.size ≤ g ∧ BlkU w' g 1 (fun _ => 1) ∧ Below w.heap.size w w' := by
  have hmk : ∀ w, (Instr.makeSlice 42 (.int .i64 1) (.int .i64 1)).run Tryz.prog w = .ok (.slice (some ⟨w.heap.size, 0, none⟩) 1 1) (w.alloc (.cells (madeCells #[.int .u64 0] 1) 46)) := makeU 1 (by omega)
  have hq : clsEq S S = true := clsEq_refl S
  have hB3 : Below w.heap.size w (((w.alloc (.cells #[.int .u64 (wd S 0 : Nat), .int .u64 (wd S 1 : Nat), .int .u64 (wd S 2 : Nat), .int .u64 (wd S 3 : Nat)] 100)).alloc (.cells (madeCells #[.int .u64 0] 1) 46)).alloc (.cells #[.int .u64 (wd S 0 : Nat), .int .u64 (wd S 1 : Nat), .int .u64 (wd S 2 : Nat), .int .u64 (wd S 3 : Nat)] 100)) := (((Below.refl _ _).alloc (Nat.le_refl _) _).alloc (by simp) _).alloc (by simp; omega) _
  have hnew : BlkU (((w.alloc (.cells #[.int .u64 (wd S 0 : Nat), .int .u64 (wd S 1 : Nat), .int .u64 (wd S 2 : Nat), .int .u64 (wd S 3 : Nat)] 100)).alloc (.cells (madeCells #[.int .u64 0] 1) 46)).alloc (.cells #[.int .u64 (wd S 0 : Nat), .int .u64 (wd S 1 : Nat), .int .u64 (wd S 2 : Nat), .int .u64 (wd S 3 : Nat)] 100)) (w.heap.size + 1) 1 (fun _ => 0) := by
    have h := (BlkU.new (w.alloc (.cells #[.int .u64 (wd S 0 : Nat), .int .u64 (wd S 1 : Nat), .int .u64 (wd S 2 : Nat), .int .u64 (wd S 3 : Nat)] 100)) 1).below ((Below.refl ((w.alloc (.cells #[.int .u64 (wd S 0 : Nat), .int .u64 (wd S 1 : Nat), .int .u64 (wd S 2 : Nat), .int .u64 (wd S 3 : Nat)] 100)).alloc (.cells (madeCells #[.int .u64 0] 1) 46)).heap.size ((w.alloc (.cells #[.int .u64 (wd S 0 : Nat), .int .u64 (wd S 1 : Nat), .int .u64 (wd S 2 : Nat), .int .u64 (wd S 3 : Nat)] 100)).alloc (.cells (madeCells #[.int .u64 0] 1) 46))).alloc (Nat.le_refl _) (.cells #[.int .u64 (wd S 0 : Nat), .int .u64 (wd S 1 : Nat), .int .u64 (wd S 2 : Nat), .int .u64 (wd S 3 : Nat)] 100)) (by simp)
    rwa [World.size_alloc] at h
  have HB3 := Lib.hid hB3
  have HNEW := Lib.hid hnew
  clear hB3 hnew
  go_enter Tryz.func49, Tryz.ntmps49
  go_wp2_with fail
  refine wp_loop_rounds 2 ?_
  rw [rounds_succ]
  go_wp2_with fail
  generalize hW3 : (((w.alloc (.cells #[.int .u64 (wd S 0 : Nat), .int .u64 (wd S 1 : Nat), .int .u64 (wd S 2 : Nat), .int .u64 (wd S 3 : Nat)] 100)).alloc (.cells (madeCells #[.int .u64 0] 1) 46)).alloc (.cells #[.int .u64 (wd S 0 : Nat), .int .u64 (wd S 1 : Nat), .int .u64 (wd S 2 : Nat), .int .u64 (wd S 3 : Nat)] 100)) = W3 at *
  have m0' := (HB3.out.cell (p := ⟨mb, 0, none⟩) ml).trans m0
  have f0' := (HB3.out.cell (p := ⟨fb, 0, none⟩) fl).trans f0
  have ml' := Nat.lt_of_lt_of_le ml HB3.out.size
  have fl' := Nat.lt_of_lt_of_le fl HB3.out.size
  have n0 := HNEW.out.cells 0 (by omega)
  have n1 := HNEW.out.free 0 (by omega)
  have nl := HNEW.out.lt
  clear hW3 e0 e1 e2 e3 k0 m0 m1 f0 hmk hq
  go_region
  all_goals (go_wp2_with fail)
  all_goals (rw [rounds_succ])
  all_goals (go_wp2_with fail)
  all_goals (go_ret2)
  all_goals exact ⟨_, rfl, by omega, ((HNEW.out.below ((Below.refl W3.heap.size W3).drew) nl).set 0 (by omega) 1).congr (fun j hj => by rw [if_pos (by omega)]), (HB3.out.drew).setCell (by show _ ≤ _; simp) _⟩
end Go.Proofs.YtjfkmoinldlmaaaGreat
