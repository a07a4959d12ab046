import Derived.Test.YtgjjcgemelafaaaWWords
import Derived.Test.YtgjjcgemelafaaaWLast
namespace Go.Proofs.YtgjjcgemelafaaaW.PrintWords
open Go.RowKit
namespace Kd
end Kd
end Go.Proofs.YtgjjcgemelafaaaW.PrintWords
