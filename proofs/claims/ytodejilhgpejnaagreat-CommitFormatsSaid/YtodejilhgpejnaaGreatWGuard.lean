import Derived.Test.YtodejilhgpejnaaGreatWWords
namespace Go.Proofs.YtodejilhgpejnaaGreatW.PrintWords
open Go.RowKit
end Go.Proofs.YtodejilhgpejnaaGreatW.PrintWords
