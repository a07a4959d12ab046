import Derived.Test.YtodejilhgpejnaaGreatWWords
import Derived.Test.YtodejilhgpejnaaGreatWLast
namespace Go.Proofs.YtodejilhgpejnaaGreatW.PrintWords
open Go.RowKit
namespace Kd
end Kd
end Go.Proofs.YtodejilhgpejnaaGreatW.PrintWords
