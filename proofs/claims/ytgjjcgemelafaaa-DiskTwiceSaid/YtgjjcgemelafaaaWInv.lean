import Derived.Test.YtgjjcgemelafaaaWTab
namespace Go.Proofs.YtgjjcgemelafaaaW.PrintLast
end Go.Proofs.YtgjjcgemelafaaaW.PrintLast
