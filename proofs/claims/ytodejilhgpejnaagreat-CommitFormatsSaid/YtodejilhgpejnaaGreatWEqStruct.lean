import Derived.Test.YtodejilhgpejnaaGreatWWords
import Derived.Laws.StructEq
namespace Go.Proofs.YtodejilhgpejnaaGreatW.PrintWords
open Go.RowKit
end Go.Proofs.YtodejilhgpejnaaGreatW.PrintWords
