import Derived.Test.YtgjjcgemelafaaaPx19
import Derived.Test.YtgjjcgemelafaaaPx18
import Derived.Test.YtgjjcgemelafaaaPx17
import Derived.Test.YtgjjcgemelafaaaPx14
import Derived.Test.YtgjjcgemelafaaaPx12
import Derived.Test.YtgjjcgemelafaaaPx28
import Derived.Test.YtgjjcgemelafaaaRd
namespace Go.Proofs.Ytgjjcgemelafaaa.Pure
open Go.RowKit Go.Proofs.Ytgjjcgemelafaaa.P Go.Proofs.Ytgjjcgemelafaaa.Rd Go.Proofs.YtgjjcgemelafaaaW.PrintWords Go.Proofs.YtgjjcgemelafaaaW.PrintLast
set_option linter.unusedVariables false
set_option linter.unusedSimpArgs false
set_option linter.unusedVariables false
set_option linter.unusedSimpArgs false
theorem DiskDoes : ∀ (l0_0_0 : List ByteArray) (l0_0_1 : List (S79)) (a0_1_0 : Int) (a0_1_1 : ByteArray) (l0_2 : List Bool) (l0_3 : List (S79)) (a0_4 : Int), (l0_0_0.length ≤ 9223372036854775807) → (∀ x_ ∈ l0_0_0, x_.size ≤ maxLen) → (l0_0_1.length ≤ 9223372036854775807) → (∀ x_ ∈ l0_0_1, I79 x_) → ((Lit.int .i64 a0_1_0).wf = true) → (a0_1_1.size ≤ maxLen) → (l0_2.length ≤ 9223372036854775807) → (∀ x_ ∈ l0_2, True) → (l0_3.length ≤ 9223372036854775807) → (∀ x_ ∈ l0_3, I79 x_) → ((Lit.int .i64 a0_4).wf = true) → ∃ k, assartlaw02_DiskDoes.f k l0_0_0 l0_0_1 a0_1_0 a0_1_1 l0_2 l0_3 a0_4 = some true := by
  intro a b at_ s keep w stop _ _ _ _ _ _ _ _ _ _ _
  refine Ev.rounds ?_
  simp only [assartlaw02_DiskDoes.f]
  refine Ev.bind ev_shown ?_
  obtain ⟨s1, e1, q1⟩ := ev_small a b 60 (by decide)
  refine Ev.bind e1 ?_
  have hup : Ev (fun k => assartlaw02_DiskDoes.j0 k keep w stop true true a b at_ s) true := Ev.const fun k => by simp only [assartlaw02_DiskDoes.j0]; rw [if_pos trivial]
  cases s1 with
  | false => simpa using hup
  | true =>
    simp only [if_true]
    obtain ⟨ha, hb⟩ := q1 rfl
    refine Ev.bind (ev_right a b (by omega)) ?_
    cases hr : rightB a b with
    | false => simpa using hup
    | true =>
      simp only [if_true]
      by_cases hk : (keep.length : Int) > 100
      · simp only [if_pos hk]; exact hup
      · simp only [if_neg hk]
        obtain ⟨s2, e2, q2⟩ := ev_short w 60 (by decide)
        refine Ev.bind e2 ?_
        cases s2 with
        | false => simpa using hup
        | true =>
          have hw := q2 rfl
          simp only [if_true]
          by_cases hs : (s.size : Int) > 100
          · rw [decide_eq_true hs]; exact hup
          · rw [decide_eq_false hs]
            refine Ev.step (fun k => by simp only [assartlaw02_DiskDoes.j0, Bool.false_eq_true, if_false]; rfl) ?_
            simp only [dput_eq a b (by omega), rput_eq a b (by omega), Option.bind_some]
            refine Ev.bind (ev_do w stop hr (by omega) (by omega)) (Ev.bind (ev_rdo w stop hr (by omega) (by omega)) ?_)
            have hp : (putF a b ⟨at_, s⟩).1.length ≤ 1000000 := by unfold putF; split <;> simp <;> omega
            simp only [if_true]
            refine Ev.bind (ev_same_true (by omega) hp rfl rfl) ?_
            simp only [if_true, dflush_eq hr, Option.bind_some]
            refine Ev.bind (ev_rflush hr (by omega)) ?_
            refine Ev.bind (ev_same_true (by rw [layF_length]; omega) (by simp) rfl rfl) ?_
            simp only [if_true, dcrash_eq hr, Option.bind_some]
            refine Ev.bind (ev_crash hr (by omega) keep) ?_
            refine Ev.bind (ev_same_true (by rw [layF_length]; omega) (by simp) rfl rfl) ?_
            simp only [if_true]
            have hd := doF_len stop w 0 a b
            refine Ev.bind (ev_same_true (by omega) (by omega) rfl rfl) ?_
            simpa using Ev.now true
end Go.Proofs.Ytgjjcgemelafaaa.Pure
