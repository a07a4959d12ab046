import Derived.Test.YtopkoganfnabgaaWWords
namespace Go.Proofs.YtopkoganfnabgaaW.PrintWords
open Go.RowKit
end Go.Proofs.YtopkoganfnabgaaW.PrintWords
