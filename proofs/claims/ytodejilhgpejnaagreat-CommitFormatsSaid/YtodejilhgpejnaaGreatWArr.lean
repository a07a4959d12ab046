import Derived.Test.YtodejilhgpejnaaGreatWWords
namespace Go.Proofs.YtodejilhgpejnaaGreatW.PrintWords
open Go.RowKit
namespace Kd
end Kd
end Go.Proofs.YtodejilhgpejnaaGreatW.PrintWords
