import Derived.Test.YtodejilhgpejnaaGreatP12
namespace Go.Proofs.YtodejilhgpejnaaGreat.Q
open Go.RowKit Go.Proofs.YtodejilhgpejnaaGreatW.PrintWords Go.Proofs.YtodejilhgpejnaaGreatW.PrintLast Go.Proofs.YtodejilhgpejnaaGreatW.PrintMore
attribute [local go_sem] max2_int min2_int max_two min_two max_three min_three max_four min_four
set_option linter.unusedVariables false
set_option linter.unusedSimpArgs false
theorem bs_inv (p : Nat → Bool) (n : Nat) : ∀ f lo hi, (lo = 0 ∨ p (lo - 1) = false) → (hi = n ∨ p hi = true) → lo ≤ hi → hi ≤ n → hi - lo ≤ f →
    bsF p f lo hi ≤ n ∧ (bsF p f lo hi = 0 ∨ p (bsF p f lo hi - 1) = false) ∧ (bsF p f lo hi = n ∨ p (bsF p f lo hi) = true) := by
  intro f
  induction f with
  | zero =>
    intro lo hi h1 h2 h3 h4 h5
    obtain rfl : lo = hi := by omega
    unfold bsF
    exact ⟨h4, h1, h2⟩
  | succ f ih =>
    intro lo hi h1 h2 h3 h4 h5
    unfold bsF
    by_cases hlt : lo < hi
    · rw [if_pos hlt]
      cases hp : p ((lo + hi) / 2) with
      | true =>
        simp only [if_true]
        exact ih lo _ h1 (.inr hp) (by omega) (by omega) (by omega)
      | false =>
        simp only [Bool.false_eq_true, if_false]
        exact ih _ hi (.inr (by simpa using hp)) h2 (by omega) h4 (by omega)
    · rw [if_neg hlt]
      obtain rfl : lo = hi := by omega
      exact ⟨h4, h1, h2⟩
theorem cells_spec (blocks : Nat) : cellsF blocks ≤ 2000 ∧ (0 < cellsF blocks → baseF (cellsF blocks) + cellsF blocks ≤ blocks) ∧ (cellsF blocks = 2000 ∨ blocks < baseF (cellsF blocks + 1) + cellsF blocks + 1) := by
  obtain ⟨h1, h2, h3⟩ := bs_inv (overB blocks) 2000 2000 0 2000 (.inl rfl) (.inl rfl) (by decide) (by decide) (by decide)
  refine ⟨h1, fun h => ?_, ?_⟩
  · rcases h2 with e | e
    · exact absurd h (by unfold cellsF; omega)
    · unfold overB at e
      have e2 := of_decide_eq_false e
      change ¬ blocks < baseF (cellsF blocks - 1 + 1) + (cellsF blocks - 1) + 1 at e2
      rw [show cellsF blocks - 1 + 1 = cellsF blocks by omega] at e2
      omega
  · rcases h3 with e | e
    · exact .inl e
    · exact .inr (of_decide_eq_true e)
end Go.Proofs.YtodejilhgpejnaaGreat.Q
