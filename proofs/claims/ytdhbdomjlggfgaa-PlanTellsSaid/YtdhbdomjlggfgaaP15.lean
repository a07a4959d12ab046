import Derived.Test.YtdhbdomjlggfgaaP14
namespace Go.Proofs.Ytdhbdomjlggfgaa.Q
open Go.RowKit Go.Proofs.YtdhbdomjlggfgaaW.PrintWords Go.Proofs.YtdhbdomjlggfgaaW.PrintLast Go.Proofs.YtdhbdomjlggfgaaW.PrintMore
attribute [local go_sem] max2_int min2_int max_two min_two max_three min_three max_four min_four
set_option linter.unusedVariables false
set_option linter.unusedSimpArgs false
theorem repeatL_zero (m : Nat) : Lib.repeatL [0] m = List.replicate m 0 := by
  induction m with
  | zero => rfl
  | succ m ih => rw [Lib.repeatL, ih]; rfl
end Go.Proofs.Ytdhbdomjlggfgaa.Q
