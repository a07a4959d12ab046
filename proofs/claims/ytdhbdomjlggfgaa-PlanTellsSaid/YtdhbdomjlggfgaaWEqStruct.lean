import Derived.Test.YtdhbdomjlggfgaaWWords
import Derived.Laws.StructEq
namespace Go.Proofs.YtdhbdomjlggfgaaW.PrintWords
open Go.RowKit
end Go.Proofs.YtdhbdomjlggfgaaW.PrintWords
