/- The runs of a set of numbers: first and last of each row of numbers that follow one another; plain lists, no program. -/
import Derived.Test.YtkhcjjdamphbfaaCount
namespace Go.Proofs.Ytkhcjjdamphbfaa

/-- The last run goes on to n. -/
def setLast (l : List (Nat × Nat)) (n : Nat) : List (Nat × Nat) :=
  match l.getLast? with
  | some p => l.dropLast ++ [(p.1, n)]
  | none => l

/-- The runs of the numbers below n that are in a set. -/
def runsTo (S : Nat → Bool) : Nat → List (Nat × Nat)
  | 0 => []
  | n + 1 => if S n then (if n > 0 && S (n - 1) then setLast (runsTo S n) n else runsTo S n ++ [(n, n)]) else runsTo S n

theorem setLast_snoc (l : List (Nat × Nat)) (f t n : Nat) : setLast (l ++ [(f, t)]) n = l ++ [(f, n)] := by
  unfold setLast
  simp

theorem setLast_length (l : List (Nat × Nat)) (n : Nat) : (setLast l n).length = l.length := by
  unfold setLast
  cases h : l.getLast? with
  | none => rfl
  | some p =>
    have hne : l ≠ [] := by rintro rfl; simp at h
    have : 0 < l.length := List.length_pos_iff.2 hne
    simp
    omega

theorem runsTo_length (S : Nat → Bool) (n : Nat) : (runsTo S n).length ≤ n := by
  induction n with
  | zero => simp [runsTo]
  | succ n ih =>
    simp only [runsTo]
    split
    · split
      · rw [setLast_length]; omega
      · simp; omega
    · omega

theorem runsTo_out (S : Nat → Bool) (n : Nat) (h : S n = false) : runsTo S (n + 1) = runsTo S n := by
  simp [runsTo, h]
theorem runsTo_new (S : Nat → Bool) (n : Nat) (h : S n = true) (h0 : n = 0 ∨ S (n - 1) = false) : runsTo S (n + 1) = runsTo S n ++ [(n, n)] := by
  rcases h0 with rfl | h0
  · simp [runsTo, h]
  · simp [runsTo, h, h0]
theorem runsTo_on (S : Nat → Bool) (n : Nat) (h : S n = true) (hn : 0 < n) (h0 : S (n - 1) = true) : runsTo S (n + 1) = setLast (runsTo S n) n := by
  simp [runsTo, h, h0, hn]

/-- A run that began at f, with none ahead, and has come to t. -/
theorem runsTo_row (S : Nat → Bool) (f : Nat) (h0 : f = 0 ∨ S (f - 1) = false) (d : Nat) (h : ∀ i, f ≤ i → i ≤ f + d → S i = true) : runsTo S (f + d + 1) = runsTo S f ++ [(f, f + d)] := by
  induction d with
  | zero => exact runsTo_new S f (h f (Nat.le_refl _) (by omega)) h0
  | succ d ih =>
    have h1 := ih fun i hi hi2 => h i hi (by omega)
    have h2 := runsTo_on S (f + (d + 1)) (h _ (by omega) (by omega)) (by omega) (h _ (by omega) (by omega))
    rw [show f + (d + 1) + 1 = f + (d + 1) + 1 from rfl, h2, show f + (d + 1) = f + d + 1 by omega, h1, setLast_snoc]

/-- The numbers of the runs below n are those of the set below n. -/
def inRuns (l : List (Nat × Nat)) (n : Nat) : Bool := l.any fun p => decide (p.1 ≤ n) && decide (n ≤ p.2)

/-- What runs look like, as far as they have come: each begins ahead of its end; the last one ends where it must. -/
theorem runsTo_spec (S : Nat → Bool) (n : Nat) : (∀ p ∈ runsTo S n, p.1 ≤ p.2 ∧ p.2 < n) ∧ (0 < n → S (n - 1) = true → ∃ l f, runsTo S n = l ++ [(f, n - 1)]) ∧ ∀ i, inRuns (runsTo S n) i = (decide (i < n) && S i) := by
  induction n with
  | zero => exact ⟨by simp [runsTo], fun h => by omega, fun i => by simp [runsTo, inRuns]⟩
  | succ n ih =>
    obtain ⟨h1, h2, h3⟩ := ih
    by_cases hs : S n = true
    · by_cases h0 : n = 0 ∨ S (n - 1) = false
      · rw [runsTo_new S n hs h0]
        refine ⟨?_, fun _ _ => ⟨runsTo S n, n, by simp⟩, fun i => ?_⟩
        · intro p hp
          rcases List.mem_append.1 hp with hp | hp
          · have := h1 p hp; omega
          · simp at hp; subst hp; simp
        · have := h3 i
          unfold inRuns at this ⊢
          rw [List.any_append, this]
          simp only [List.any_cons, List.any_nil, Bool.or_false]
          rw [Bool.eq_iff_iff]
          simp only [Bool.or_eq_true, Bool.and_eq_true, decide_eq_true_eq]
          constructor
          · rintro (⟨a, b⟩ | ⟨a, b⟩)
            · exact ⟨by omega, b⟩
            · have : i = n := by omega
              subst this; exact ⟨by omega, hs⟩
          · rintro ⟨a, b⟩
            by_cases he : i = n
            · right; omega
            · left; exact ⟨by omega, b⟩
      · have hn : 0 < n := by
          rcases Nat.eq_zero_or_pos n with h | h
          · exact absurd (Or.inl h) h0
          · exact h
        have hp : S (n - 1) = true := by
          cases h : S (n - 1)
          · exact absurd (Or.inr h) h0
          · rfl
        obtain ⟨l, f, hl⟩ := h2 hn hp
        rw [runsTo_on S n hs hn hp, hl, setLast_snoc]
        have hf := h1 (f, n - 1) (by rw [hl]; simp)
        refine ⟨?_, fun _ _ => ⟨l, f, by simp⟩, fun i => ?_⟩
        · intro p hp
          rcases List.mem_append.1 hp with hp | hp
          · have := h1 p (by rw [hl]; exact List.mem_append_left _ hp); omega
          · simp at hp; subst hp; simp at hf ⊢; omega
        · have := h3 i
          rw [hl] at this
          unfold inRuns at this ⊢
          rw [List.any_append] at this ⊢
          simp only [List.any_cons, List.any_nil, Bool.or_false] at this ⊢
          rw [Bool.eq_iff_iff] at this ⊢
          simp only [Bool.or_eq_true, Bool.and_eq_true, decide_eq_true_eq] at this ⊢
          simp at hf
          constructor
          · rintro (a | ⟨a, b⟩)
            · have := this.1 (Or.inl a); exact ⟨by omega, this.2⟩
            · by_cases he : i = n
              · subst he; exact ⟨by omega, hs⟩
              · have := this.1 (Or.inr ⟨a, by omega⟩); exact ⟨by omega, this.2⟩
          · rintro ⟨a, b⟩
            by_cases he : i = n
            · right; omega
            · rcases this.2 ⟨by omega, b⟩ with c | ⟨c, d⟩
              · exact Or.inl c
              · right; omega
    · have hs' : S n = false := by simpa using hs
      rw [runsTo_out S n hs']
      refine ⟨fun p hp => by have := h1 p hp; omega, fun _ h => absurd h (by simp [hs']), fun i => ?_⟩
      rw [h3 i, Bool.eq_iff_iff]
      simp only [Bool.and_eq_true, decide_eq_true_eq]
      constructor
      · rintro ⟨a, b⟩; exact ⟨by omega, b⟩
      · rintro ⟨a, b⟩
        have : i ≠ n := by rintro rfl; rw [hs'] at b; cases b
        exact ⟨by omega, b⟩

/-- The runs of a class. -/
def runs (S : Nat → Bool) : List (Nat × Nat) := runsTo S 256
end Go.Proofs.Ytkhcjjdamphbfaa
