import Derived.Test.YtdhbdomjlggfgaaWTab
namespace Go.Proofs.YtdhbdomjlggfgaaW.PrintLast
end Go.Proofs.YtdhbdomjlggfgaaW.PrintLast
