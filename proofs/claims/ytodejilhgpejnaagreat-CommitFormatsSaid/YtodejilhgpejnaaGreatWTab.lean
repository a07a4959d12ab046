import Derived.Test.YtodejilhgpejnaaGreatWLast
import Derived.Test.YtodejilhgpejnaaGreatWWords
namespace Go.Proofs.YtodejilhgpejnaaGreatW.PrintLast
open Go.Proofs.YtodejilhgpejnaaGreatW.PrintWords (Aside0)
end Go.Proofs.YtodejilhgpejnaaGreatW.PrintLast
