import Derived.Test.YtdhbdomjlggfgaaWInv
import Derived.Test.YtdhbdomjlggfgaaWFootNe
namespace Go.Proofs.YtdhbdomjlggfgaaW.PrintWords
open Go.RowKit
end Go.Proofs.YtdhbdomjlggfgaaW.PrintWords
namespace Go.Proofs.YtdhbdomjlggfgaaW.PrintLast
end Go.Proofs.YtdhbdomjlggfgaaW.PrintLast
