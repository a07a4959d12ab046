import Derived.Test.YtopkoganfnabgaaWApart
import Derived.Test.YtopkoganfnabgaaWArr
namespace Go.Proofs.YtopkoganfnabgaaW.PrintWords
open Go.RowKit
namespace Kd
end Kd
end Go.Proofs.YtopkoganfnabgaaW.PrintWords
