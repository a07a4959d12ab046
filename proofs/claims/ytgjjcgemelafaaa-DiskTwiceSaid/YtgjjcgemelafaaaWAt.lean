import Derived.Test.YtgjjcgemelafaaaWFootNe
namespace Go.Proofs.YtgjjcgemelafaaaW.PrintWords
open Go.RowKit
namespace Kd
end Kd
end Go.Proofs.YtgjjcgemelafaaaW.PrintWords
