import Derived.Test.YtgjjcgemelafaaaPx19
import Derived.Test.YtgjjcgemelafaaaPx18
import Derived.Test.YtgjjcgemelafaaaPx17
import Derived.Test.YtgjjcgemelafaaaPx24
import Derived.Test.YtgjjcgemelafaaaRd
namespace Go.Proofs.Ytgjjcgemelafaaa.Pure
open Go.RowKit Go.Proofs.Ytgjjcgemelafaaa.P Go.Proofs.Ytgjjcgemelafaaa.Rd Go.Proofs.YtgjjcgemelafaaaW.PrintWords Go.Proofs.YtgjjcgemelafaaaW.PrintLast
set_option linter.unusedVariables false
set_option linter.unusedSimpArgs false
set_option linter.unusedVariables false
set_option linter.unusedSimpArgs false
theorem DiskTells : ∀ (l0_0_0 : List ByteArray) (l0_0_1 : List (S79)) (l0_1_0 : List ByteArray) (l0_1_1 : List (S79)) (a0_2 : Int) (a0_3 : Int), (l0_0_0.length ≤ 9223372036854775807) → (∀ x_ ∈ l0_0_0, x_.size ≤ maxLen) → (l0_0_1.length ≤ 9223372036854775807) → (∀ x_ ∈ l0_0_1, I79 x_) → (l0_1_0.length ≤ 9223372036854775807) → (∀ x_ ∈ l0_1_0, x_.size ≤ maxLen) → (l0_1_1.length ≤ 9223372036854775807) → (∀ x_ ∈ l0_1_1, I79 x_) → ((Lit.int .i64 a0_2).wf = true) → ((Lit.int .i64 a0_3).wf = true) → ∃ k, assartlaw02_DiskTells.f k l0_0_0 l0_0_1 l0_1_0 l0_1_1 a0_2 a0_3 = some true := by
  intro a b c d n at_ _ _ _ _ _ _ _ _ _ _
  refine Ev.rounds ?_
  simp only [assartlaw02_DiskTells.f]
  refine Ev.bind ev_shown ?_
  obtain ⟨s1, e1, q1⟩ := ev_small a b 60 (by decide)
  refine Ev.bind e1 ?_
  have hup : Ev (fun k => assartlaw02_DiskTells.j0 k n at_ true true a b c d) true := Ev.const fun k => by simp only [assartlaw02_DiskTells.j0]; rw [if_pos trivial]
  cases s1 with
  | false => simpa using hup
  | true =>
    simp only [if_true]
    obtain ⟨ha, hb⟩ := q1 rfl
    obtain ⟨s2, e2, q2⟩ := ev_small c d 60 (by decide)
    refine Ev.bind e2 ?_
    cases s2 with
    | false => exact hup
    | true =>
      obtain ⟨hc, hd⟩ := q2 rfl
      refine Ev.step (fun k => by simp only [assartlaw02_DiskTells.j0, Bool.not_true, Bool.false_eq_true, if_false]; rfl) ?_
      refine Ev.bind (ev_new n) (Ev.bind (ev_rnew n) (Ev.bind (ev_right a b (by omega)) ?_))
      have hn : (newF n).1.length ≤ 1000000 ∧ (newF n).2.1.length ≤ 1000000 := by unfold newF; split <;> simp; omega
      refine Ev.bind (ev_same_true hn.1 hn.2 rfl rfl) ?_
      simp only [if_true, dright_eq, Option.bind_some, bne_self_eq_false]
      refine Ev.step (fun k => by simp only [assartlaw02_DiskTells.j1, Bool.false_eq_true, if_false]; rfl) ?_
      cases hr : rightB a b with
      | false => simpa using Ev.now true
      | true =>
        simp only [if_true, dread_eq, Option.bind_some]
        refine Ev.bind (ev_read a b at_ (by omega)) (Ev.bind (ev_right c d (by omega)) ?_)
        cases hr2 : rightB c d with
        | false => simpa using Ev.now true
        | true =>
          simp only [if_true]
          obtain ⟨r1, e1, p1⟩ := ev_dsame a b c d (by omega) (by omega)
          obtain ⟨r2, e2, p2⟩ := ev_same a b c d (by omega) (by omega)
          have hrr : r1 = r2 := by rw [Bool.eq_iff_iff, p1, p2]
          subst hrr
          refine Ev.bind e1 (Ev.bind e2 ?_)
          simpa using Ev.now true
end Go.Proofs.Ytgjjcgemelafaaa.Pure
