import Derived.Test.YtdhbdomjlggfgaaWLast
import Derived.Test.YtdhbdomjlggfgaaWWords
namespace Go.Proofs.YtdhbdomjlggfgaaW.PrintLast
open Go.Proofs.YtdhbdomjlggfgaaW.PrintWords (Aside0)
end Go.Proofs.YtdhbdomjlggfgaaW.PrintLast
