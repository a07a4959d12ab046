import Derived.Test.YtgjjcgemelafaaaWApart
import Derived.Test.YtgjjcgemelafaaaWArr
namespace Go.Proofs.YtgjjcgemelafaaaW.PrintWords
open Go.RowKit
namespace Kd
end Kd
end Go.Proofs.YtgjjcgemelafaaaW.PrintWords
