import Derived.Test.YtdhbdomjlggfgaaP12
namespace Go.Proofs.Ytdhbdomjlggfgaa.Q
open Go.RowKit Go.Proofs.YtdhbdomjlggfgaaW.PrintWords Go.Proofs.YtdhbdomjlggfgaaW.PrintLast Go.Proofs.YtdhbdomjlggfgaaW.PrintMore
attribute [local go_sem] max2_int min2_int max_two min_two max_three min_three max_four min_four
set_option linter.unusedVariables false
set_option linter.unusedSimpArgs false
end Go.Proofs.Ytdhbdomjlggfgaa.Q
