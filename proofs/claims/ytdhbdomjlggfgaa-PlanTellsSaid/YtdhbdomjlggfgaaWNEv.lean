import Derived.Test.YtdhbdomjlggfgaaWN
namespace Go.Proofs.YtdhbdomjlggfgaaW.PrintWords
open Go.RowKit
namespace Kd
end Kd
end Go.Proofs.YtdhbdomjlggfgaaW.PrintWords
