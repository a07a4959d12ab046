import Derived.Test.YtopkoganfnabgaaWInv
import Derived.Test.YtopkoganfnabgaaWFootNe
namespace Go.Proofs.YtopkoganfnabgaaW.PrintWords
open Go.RowKit
end Go.Proofs.YtopkoganfnabgaaW.PrintWords
namespace Go.Proofs.YtopkoganfnabgaaW.PrintLast
end Go.Proofs.YtopkoganfnabgaaW.PrintLast
