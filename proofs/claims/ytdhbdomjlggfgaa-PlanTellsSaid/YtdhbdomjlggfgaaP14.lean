import Derived.Test.YtdhbdomjlggfgaaP13
namespace Go.Proofs.Ytdhbdomjlggfgaa.Q
open Go.RowKit Go.Proofs.YtdhbdomjlggfgaaW.PrintWords Go.Proofs.YtdhbdomjlggfgaaW.PrintLast Go.Proofs.YtdhbdomjlggfgaaW.PrintMore
attribute [local go_sem] max2_int min2_int max_two min_two max_three min_three max_four min_four
set_option linter.unusedVariables false
set_option linter.unusedSimpArgs false
theorem w64_one (k : Nat) (h : k < 2000) : wrap64 (1 + (k : Int)) = ((1 + k : Nat) : Int) := by unfold wrap64; omega
theorem i64_u16 (a : Nat) (h : a ≤ 65535) : IntKind.i64.wrap (a : Int) = (a : Int) := by rw [i64_w]; unfold wrap64; omega
end Go.Proofs.Ytdhbdomjlggfgaa.Q
