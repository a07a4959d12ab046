import Derived.Test.YtdhbdomjlggfgaaWWords
namespace Go.Proofs.YtdhbdomjlggfgaaW.PrintWords
open Go.RowKit
end Go.Proofs.YtdhbdomjlggfgaaW.PrintWords
