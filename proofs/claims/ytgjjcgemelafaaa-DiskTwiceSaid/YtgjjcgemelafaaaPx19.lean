-- By wip/tools/drive.py: the kit's print, with contracts of this session's own among the functions.
import Derived.Test.YtgjjcgemelafaaaPx0
import Derived.Test.YtgjjcgemelafaaaPx4
import Derived.Test.YtgjjcgemelafaaaPx10
import Derived.Test.YtgjjcgemelafaaaPx12
import Derived.Test.YtgjjcgemelafaaaPx14
import Derived.Test.YtgjjcgemelafaaaPx17
import Derived.Test.YtgjjcgemelafaaaPx18
import Derived.Test.YtgjjcgemelafaaaPx20
namespace Go.Proofs.Ytgjjcgemelafaaa.P
open Go.RowKit Go.Proofs.YtgjjcgemelafaaaW.PrintWords Go.Proofs.YtgjjcgemelafaaaW.PrintLast Go.Proofs.YtgjjcgemelafaaaW.PrintMore
attribute [local go_sem] max2_int min2_int max_two min_two max_three min_three max_four min_four   -- for this text's walks alone
set_option linter.unusedVariables false
set_option linter.unusedSimpArgs false
theorem ev_shown : Ev (fun k => assartlaw02_shown.f k) true := by
  have e1 := ev_new 2
  rw [show newF 2 = ([zero40, zero40], [], 0) from rfl] at e1
  have hr : rightB [zero40, zero40] [] = true := by decide
  have hr1 : rightB [zero40, zero40] [(⟨1, S40⟩ : S79)] = true := by decide
  have e2 := ev_do [(⟨1, S40⟩ : S79), ⟨-1, (⟨#[]⟩ : ByteArray)⟩] (-1) hr (by decide) (by decide)
  have hf1 : isFlush (⟨1, S40⟩ : S79) = false := by decide
  have hf2 : isFlush (⟨-1, (⟨#[]⟩ : ByteArray)⟩ : S79) = true := by
    unfold isFlush; rw [ByteArray.toList_eq]; rfl
  have hd : doF (-1) [(⟨1, S40⟩ : S79), ⟨-1, (⟨#[]⟩ : ByteArray)⟩] 0 [zero40, zero40] [] = ([zero40, S40], [], 2) := by
    simp only [doF]
    rw [hf1, hf2]
    rfl
  rw [hd] at e2
  have hp : disk_Put.f [zero40, zero40] [] 1 S40 = some ([zero40, zero40], [(⟨1, S40⟩ : S79)], 0) := by rw [dput_eq _ _ (by decide)]; rfl
  have hrd : disk_Read.f [zero40, zero40] [(⟨1, S40⟩ : S79)] 1 = some (S40, 0) := rfl
  have hc : disk_Crash.f [zero40, zero40] [(⟨1, S40⟩ : S79)] [] = some ([zero40, zero40], []) := by rw [dcrash_eq hr1]; rfl
  have hfl : disk_Flush.f [zero40, zero40] [(⟨1, S40⟩ : S79)] = some ([zero40, S40], []) := by rw [dflush_eq hr1]; rfl
  have hs : strings_Repeat.f (⟨#[48, 49, 50, 51, 52, 53, 54, 55, 56, 57, 48, 49, 50, 51, 52, 53, 54, 55, 56, 57, 48, 49, 50, 51, 52, 53, 54, 55, 56, 57, 48, 49, 50, 51, 52, 53, 54, 55, 56, 57]⟩ : ByteArray) 1 = some S40 := by
    unfold strings_Repeat.f; rw [if_pos (by decide)]; exact congrArg some (show _ = S40 by decide)
  simp only [assartlaw02_shown.f]
  refine Ev.bind e1 ?_
  simp only [hs, Option.bind_some, hp, hrd, hc]
  refine Ev.bind e2 ?_
  simp only [if_true]
  obtain ⟨r1, q1, p1⟩ := ev_dsame [zero40, zero40] [] [zero40, zero40] [] (by decide) (by decide)
  obtain rfl := p1.2 ⟨rfl, rfl⟩
  refine Ev.bind q1 ?_
  simp only [if_true, hfl, Option.bind_some]
  obtain ⟨r2, q2, p2⟩ := ev_dsame [zero40, S40] [] [zero40, S40] [] (by decide) (by decide)
  obtain rfl := p2.2 ⟨rfl, rfl⟩
  refine Ev.bind q2 ?_
  simp only [if_true, dright_eq, hr1, Option.bind_some]
  obtain ⟨r3, q3, p3⟩ := ev_dsame [zero40, zero40] [(⟨1, S40⟩ : S79)] [zero40, zero40] [] (by decide) (by decide)
  have hr3 : r3 = false := by
    cases r3 with
    | false => rfl
    | true => exact absurd (p3.1 rfl).2 (by simp)
  subst hr3
  exact Ev.bind (f := fun _ t => some (!t)) q3 (Ev.now true)
end Go.Proofs.Ytgjjcgemelafaaa.P
