import Derived.Test.YtcdgbpojcdecbaaDoorPx21
import Derived.Test.YtcdgbpojcdecbaaDoorRd
namespace Go.Proofs.YtcdgbpojcdecbaaDoor.Pure
open Go.RowKit Go.Proofs.YtcdgbpojcdecbaaDoor.P Go.Proofs.YtcdgbpojcdecbaaDoor.Rd Go.Proofs.YtcdgbpojcdecbaaDoorW.PrintWords Go.Proofs.YtcdgbpojcdecbaaDoorW.PrintLast
set_option linter.unusedVariables false
set_option linter.unusedSimpArgs false

theorem NameDigits : ∀ (a0 : Int), ((Lit.int .u32 a0).wf = true) → assartlaw17_NameDigits.f a0 = some true := by
  intro a0 h
  unfold assartlaw17_NameDigits.f
  have : 0 ≤ a0 ∧ a0 ≤ 4294967295 := by
    simp [Lit.wf, IntKind.min, IntKind.max, IntKind.signed, IntKind.bits] at h
    omega
  rw [if_pos this]

end Go.Proofs.YtcdgbpojcdecbaaDoor.Pure
