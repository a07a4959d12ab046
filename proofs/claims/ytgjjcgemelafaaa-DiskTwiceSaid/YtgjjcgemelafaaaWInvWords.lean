import Derived.Test.YtgjjcgemelafaaaWInv
import Derived.Test.YtgjjcgemelafaaaWFootNe
namespace Go.Proofs.YtgjjcgemelafaaaW.PrintWords
open Go.RowKit
end Go.Proofs.YtgjjcgemelafaaaW.PrintWords
namespace Go.Proofs.YtgjjcgemelafaaaW.PrintLast
end Go.Proofs.YtgjjcgemelafaaaW.PrintLast
