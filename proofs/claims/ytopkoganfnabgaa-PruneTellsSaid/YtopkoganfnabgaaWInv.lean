import Derived.Test.YtopkoganfnabgaaWTab
namespace Go.Proofs.YtopkoganfnabgaaW.PrintLast
/-- Number i is listed too. -/
def up (b : Nat → Bool) (i : Nat) : Nat → Bool := fun j => if j = i then true else b j
end Go.Proofs.YtopkoganfnabgaaW.PrintLast
