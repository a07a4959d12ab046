import Derived.Test.YtopkoganfnabgaaWTab
namespace Go.Proofs.YtopkoganfnabgaaW.PrintLast
end Go.Proofs.YtopkoganfnabgaaW.PrintLast
