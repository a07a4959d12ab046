import Derived.Test.YtopkoganfnabgaaWWords
namespace Go.Proofs.YtopkoganfnabgaaW.PrintWords
open Go.RowKit
namespace Kd
end Kd
end Go.Proofs.YtopkoganfnabgaaW.PrintWords
