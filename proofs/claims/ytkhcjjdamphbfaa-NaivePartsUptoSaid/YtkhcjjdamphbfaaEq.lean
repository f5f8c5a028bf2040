/- '==' on classes and on pairs of bytes: what the model's comparison answers. -/
import Derived.Test.YtkhcjjdamphbfaaBase
set_option linter.unusedSimpArgs false
namespace Go.Proofs.Ytkhcjjdamphbfaa
open Go.RowKit

theorem run_part26 (x0 x1 x2 x3 : Value) (w : World) : (part 24 #[x0, x1, x2, x3] 0).run Try.prog w = .ok x0 w ∧ (part 24 #[x0, x1, x2, x3] 1).run Try.prog w = .ok x1 w ∧ (part 24 #[x0, x1, x2, x3] 2).run Try.prog w = .ok x2 w ∧ (part 24 #[x0, x1, x2, x3] 3).run Try.prog w = .ok x3 w :=
  ⟨by kernel_rfl, by kernel_rfl, by kernel_rfl, by kernel_rfl⟩

theorem run_eq4' (d : Nat) (a0 a1 a2 a3 b0 b1 b2 b3 : Int) (w : World) :
    (Op.equalIn (d + 2) 26 (.agg #[.int .u64 a0, .int .u64 a1, .int .u64 a2, .int .u64 a3]) (.agg #[.int .u64 b0, .int .u64 b1, .int .u64 b2, .int .u64 b3])).run Try.prog w = .ok (a0 == b0 && (a1 == b1 && (a2 == b2 && a3 == b3))) w := by
  have hs : (sizeOf 24).run Try.prog w = .ok 1 w := by kernel_rfl
  obtain ⟨p0, p1, p2, p3⟩ := run_part26 (.int .u64 a0) (.int .u64 a1) (.int .u64 a2) (.int .u64 a3) w
  obtain ⟨q0, q1, q2, q3⟩ := run_part26 (.int .u64 b0) (.int .u64 b1) (.int .u64 b2) (.int .u64 b3) w
  have he : ∀ a b : Int, (Op.equalIn (d + 1) 24 (.int .u64 a) (.int .u64 b)).run Try.prog w = .ok (a == b) w := fun a b => run_equalIn_int w d 24 .u64 .u64 a b Try.underlying24
  rw [Op.equalIn]
  simp only [Sem.run_bind, run_underlying Try.underlying26, Result.andThen_ok, hs]
  have hr : ∀ {β : Type} (f : Nat → β → Sem (ForInStep β)) (x : β), forIn ([0:4] : Std.Legacy.Range) x f = forIn [0,1,2,3] x f := fun f x => by simp [Std.Legacy.Range.forIn_eq_forIn_range']; rfl
  simp only [hr, List.forIn_cons, List.forIn_nil, Sem.run_bind, p0, q0, he, Result.andThen_ok, Nat.mul_one, Sem.run_ite, Sem.run_pure]
  cases h0 : a0 == b0
  · simp
  · simp only [Bool.not_true, Bool.false_eq_true, if_false, Result.andThen_ok, Sem.run_bind, p1, q1, he, Sem.run_ite, Sem.run_pure, Bool.true_and]
    cases h1 : a1 == b1
    · simp
    · simp only [Bool.not_true, Bool.false_eq_true, if_false, Result.andThen_ok, Sem.run_bind, p2, q2, he, Sem.run_ite, Sem.run_pure, Bool.true_and]
      cases h2 : a2 == b2
      · simp
      · simp only [Bool.not_true, Bool.false_eq_true, if_false, Result.andThen_ok, Sem.run_bind, p3, q3, he, Sem.run_ite, Sem.run_pure, Bool.true_and]
        cases h3 : a3 == b3 <;> simp

theorem run_part22 (x0 x1 : Value) (w : World) : (part 5 #[x0, x1] 0).run Try.prog w = .ok x0 w ∧ (part 5 #[x0, x1] 1).run Try.prog w = .ok x1 w :=
  ⟨by kernel_rfl, by kernel_rfl⟩

theorem run_eq2' (d : Nat) (a0 a1 b0 b1 : Int) (w : World) :
    (Op.equalIn (d + 2) 22 (.agg #[.int .u8 a0, .int .u8 a1]) (.agg #[.int .u8 b0, .int .u8 b1])).run Try.prog w = .ok (a0 == b0 && a1 == b1) w := by
  have hs : (sizeOf 5).run Try.prog w = .ok 1 w := by kernel_rfl
  obtain ⟨p0, p1⟩ := run_part22 (.int .u8 a0) (.int .u8 a1) w
  obtain ⟨q0, q1⟩ := run_part22 (.int .u8 b0) (.int .u8 b1) w
  have he : ∀ a b : Int, (Op.equalIn (d + 1) 5 (.int .u8 a) (.int .u8 b)).run Try.prog w = .ok (a == b) w := fun a b => run_equalIn_int w d 5 .u8 .u8 a b Try.underlying5
  rw [Op.equalIn]
  simp only [Sem.run_bind, run_underlying Try.underlying22, Result.andThen_ok, hs]
  have hr : ∀ {β : Type} (f : Nat → β → Sem (ForInStep β)) (x : β), forIn ([0:2] : Std.Legacy.Range) x f = forIn [0,1] x f := fun f x => by simp [Std.Legacy.Range.forIn_eq_forIn_range']; rfl
  simp only [hr, List.forIn_cons, List.forIn_nil, Sem.run_bind, p0, q0, he, Result.andThen_ok, Nat.mul_one, Sem.run_ite, Sem.run_pure]
  cases h0 : a0 == b0
  · simp
  · simp only [Bool.not_true, Bool.false_eq_true, if_false, Result.andThen_ok, Sem.run_bind, p1, q1, he, Sem.run_ite, Sem.run_pure, Bool.true_and]
    cases h1 : a1 == b1 <;> simp

theorem words_eq (S T : Nat → Bool) : (((wd S 0 : Nat) : Int) == (wd T 0 : Nat) && (((wd S 1 : Nat) : Int) == (wd T 1 : Nat) && (((wd S 2 : Nat) : Int) == (wd T 2 : Nat) && ((wd S 3 : Nat) : Int) == (wd T 3 : Nat)))) = clsEq S T := by
  rw [Bool.eq_iff_iff, words_iff]
  simp only [Bool.and_eq_true, beq_iff_eq]
  omega

/-- Two classes are compared. -/
@[go_sem] theorem run_eq_cls (S T : Nat → Bool) (w : World) : (Op.equalIn 10000 26 (cv S) (cv T)).run Try.prog w = .ok (clsEq S T) w := by
  rw [← words_eq]
  exact run_eq4' 9998 _ _ _ _ _ _ _ _ w
/-- A class is compared with the empty one. -/
@[go_sem] theorem run_eq_cls0 (S : Nat → Bool) (w : World) : (Op.equalIn 10000 26 (cv S) (.agg #[.int .u64 0, .int .u64 0, .int .u64 0, .int .u64 0])).run Try.prog w = .ok (clsEq S noByte) w := by
  have h := run_eq_cls S noByte w
  simp only [cv, wd_noByte] at h
  exact h
/-- Two pairs of bytes are compared. -/
@[go_sem] theorem run_eq_pair (a0 a1 b0 b1 : Int) (w : World) : (Op.equalIn 10000 22 (.agg #[.int .u8 a0, .int .u8 a1]) (.agg #[.int .u8 b0, .int .u8 b1])).run Try.prog w = .ok (a0 == b0 && a1 == b1) w := run_eq2' 9998 _ _ _ _ w
end Go.Proofs.Ytkhcjjdamphbfaa
