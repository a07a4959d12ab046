import Derived.Test.YtodejilhgpejnaaGreatWApart
import Derived.Test.YtodejilhgpejnaaGreatWArr
namespace Go.Proofs.YtodejilhgpejnaaGreatW.PrintWords
open Go.RowKit
namespace Kd
end Kd
end Go.Proofs.YtodejilhgpejnaaGreatW.PrintWords
