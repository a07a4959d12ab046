import Derived.Test.YtcdgbpojcdecbaaDoorPx19
import Derived.Test.YtcdgbpojcdecbaaDoorRd
namespace Go.Proofs.YtcdgbpojcdecbaaDoor.Pure
open Go.RowKit Go.Proofs.YtcdgbpojcdecbaaDoor.P Go.Proofs.YtcdgbpojcdecbaaDoor.Rd Go.Proofs.YtcdgbpojcdecbaaDoorW.PrintWords Go.Proofs.YtcdgbpojcdecbaaDoorW.PrintLast
set_option linter.unusedVariables false
set_option linter.unusedSimpArgs false

theorem NameWithin : ∀ (l0 : List Int) (l1 : List Int) (a2 : Int), (l0.length ≤ 9223372036854775807) → (∀ x_ ∈ l0, (Lit.int .i64 x_).wf = true) → (l1.length ≤ 9223372036854775807) → (∀ x_ ∈ l1, (Lit.int .i64 x_).wf = true) → ((Lit.int .u8 a2).wf = true) → assartlaw17_NameWithin.f l0 l1 a2 = some true := by
  intro l0 l1 a2 _ _ _ _ h
  unfold assartlaw17_NameWithin.f
  have : 0 ≤ a2 ∧ a2 ≤ 255 := by
    simp [Lit.wf, IntKind.min, IntKind.max, IntKind.signed, IntKind.bits] at h
    omega
  rw [if_pos this]

end Go.Proofs.YtcdgbpojcdecbaaDoor.Pure
