import Derived.Test.YtopkoganfnabgaaWWords
import Derived.Test.YtopkoganfnabgaaWLast
namespace Go.Proofs.YtopkoganfnabgaaW.PrintWords
open Go.RowKit
namespace Kd
end Kd
end Go.Proofs.YtopkoganfnabgaaW.PrintWords
