import Derived.Test.YtcdgbpojcdecbaaDoorPx18
import Derived.Test.YtcdgbpojcdecbaaDoorRd
namespace Go.Proofs.YtcdgbpojcdecbaaDoor.Pure
open Go.RowKit Go.Proofs.YtcdgbpojcdecbaaDoor.P Go.Proofs.YtcdgbpojcdecbaaDoor.Rd Go.Proofs.YtcdgbpojcdecbaaDoorW.PrintWords Go.Proofs.YtcdgbpojcdecbaaDoorW.PrintLast
set_option linter.unusedVariables false
set_option linter.unusedSimpArgs false

theorem NameOrder : ∀ (a0 : ByteArray) (a1 : ByteArray), (a0.size ≤ maxLen) → (a1.size ≤ maxLen) → assartlaw17_NameOrder.f a0 a1 = some true := by
  intro a0 a1 _ _; rfl

end Go.Proofs.YtcdgbpojcdecbaaDoor.Pure
