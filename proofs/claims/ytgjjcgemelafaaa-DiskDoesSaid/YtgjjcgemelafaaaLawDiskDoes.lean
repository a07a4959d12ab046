/-
  The law assartlaw02_DiskDoes: for every input that can be read it returns true, and every argument reads behind the call as it read before.
-/
import Derived.Test.YtgjjcgemelafaaaRows
import Derived.Test.YtgjjcgemelafaaaRd
import Derived.Test.YtgjjcgemelafaaaPx28
import Derived.Test.YtgjjcgemelafaaaPureDiskDoes
import Derived.WalkKit
import Derived.ProofKit
import Derived.OpenShut
import Derived.ShutString
import Derived.ChangeOld
import Derived.Below
import Derived.SizedLaws
import Derived.LaidMore
import Derived.Lay
import Derived.SevenTiedAt
import Derived.Stop.Joined
namespace Go.Proofs.Ytgjjcgemelafaaa.diskDoes
open Go.ChangeShapes Go.WideShapes Go.ChangeAt Go.RowKit Go.Proofs.Ytgjjcgemelafaaa.Rd Go.Proofs.YtgjjcgemelafaaaW.PrintWords Go.Proofs.Ytgjjcgemelafaaa.P
open Go.ChangeMaps (open_string shut_string)
set_option linter.unusedVariables false
theorem own : ownKnob Try.prog.godebug = none := by kernel_rfl
theorem laidOut : laidOutB Try.prog = true := by kernel_rfl
set_option maxRecDepth 100000 in
theorem lifted (os : Os) (started : os.Started) (H : Type) (enc : TypeId × Value → H) :
    ReturnsInHanded {} Try.checked os 8 .any (Rows.diskDoesSpec.pre6 enc Try.prog Try.f8 Rows.diskDoesRow.domain false) (Rows.diskDoesSpec.post enc Try.prog Try.f8 false true false false) := by
  refine returnsInHanded_of_change_sized (C := Try.checked) own started (by kernel_rfl) Try.func8
    (ChangeSpec.witness6 (enc := enc) (C := Try.checked) false ⟨#[], #[.agg #[.slice none 0 0, .slice none 0 0, .int .i64 0, .string ByteArray.empty, .slice none 0 0, .slice none 0 0, .int .i64 0]], []⟩ 8 (by kernel_rfl) (by kernel_rfl) (by kernel_rfl) (by kernel_rfl)) ?_
  intro W base args ds gs before hval0 hW hcnd hsz0 _
  have hval : ∀ (j : Nat) t v, Try.f8.params[j]? = some t → args[j]? = some v → Value.okWide Try.prog W .any base t v := hval0
  have hW' := hW
  obtain ⟨p, q, hA0, hV, rfl, hfz, hnd⟩ := hW
  have hA : DataW.TrodAll enc Try.prog W 0 (fun _ => true) true Try.f8.params.toList args.toList ds p := hA0
  rw [Try.params8] at hA hval
  obtain ⟨v0, vs0, d0, ds0, p0, q0, hargs, rfl, rfl, h0, r0⟩ := trodAll_cons hA
  obtain ⟨rfl, rfl, rfl⟩ := trodAll_nil r0
  obtain rfl : args = #[v0] := by cases args; simp_all
  obtain ⟨rfl, rfl⟩ := trodVars_none hV
  have k0 := h0
  have lt0 : ∀ x ∈ p0, x.block < W.heap.size := by obtain ⟨m, hm⟩ := k0; exact DataW.trod_lt m _ _ _ hm
  obtain ⟨fu0, hf0⟩ := h0
  obtain ⟨cs0, rfl, _⟩ := okWide_struct Try.underlying82 (hval 0 82 v0 rfl rfl)
  obtain ⟨A0_0_0, c0_0_0, l0_0_0, A0_0_1, c0_0_1, l0_0_1, a0_1_0, a0_1_1, A0_2, c0_2, l0_2, A0_3, c0_3, l0_3, a0_4, es0, hc0_0_0, hr0_0_0, hi0_0_0, hc0_0_1, hr0_0_1, hi0_0_1, hi0_1_0, hi0_1_1, hc0_2, hr0_2, hi0_2, hc0_3, hr0_3, hi0_3, hi0_4⟩ := rd_s82 hf0
  obtain rfl : cs0 = #[.slice A0_0_0 l0_0_0.length c0_0_0, .slice A0_0_1 l0_0_1.length c0_0_1, .int .i64 a0_1_0, .string a0_1_1, .slice A0_2 l0_2.length c0_2, .slice A0_3 l0_3.length c0_3, .int .i64 a0_4] := Array.toList_inj.1 es0
  have hp := Pure.DiskDoes l0_0_0 l0_0_1 a0_1_0 a0_1_1 l0_2 l0_3 a0_4 hr0_0_0.2.1 hi0_0_0 hr0_0_1.2.1 hi0_0_1 hi0_1_0 hi0_1_1 hr0_2.2.1 hi0_2 hr0_3.2.1 hi0_3 hi0_4
  obtain ⟨kr, hp⟩ := hp
  refine (P.assartlaw02_DiskDoes.calls kr A0_0_0 c0_0_0 l0_0_0 A0_0_1 c0_0_1 l0_0_1 a0_1_0 a0_1_1 A0_2 c0_2 l0_2 A0_3 c0_3 l0_3 a0_4 true W hr0_0_0 hc0_0_0 hr0_0_1 hc0_0_1 hr0_2 hc0_2 hr0_3 hc0_3 hp).mono fun e W' ⟨he, bel0⟩ => ?_
  have bel : Below W.heap.size W W' := bel0
  subst he
  exact ⟨_, rfl, _, _, _, [], _, [], hW', trodAll_mk1 (shut_bool Try.underlying4 _), (trodAll_cons_mk (Below.trod laidOut (by kernel_rfl) (of_decide_eq_true (by kernel_rfl)) k0 bel lt0) trodAll_mk0), rfl, bel.frame _, fun h => by cases h⟩
theorem over : Rows.diskDoesRow.holds Try.pinned (OpenSpec.ofChange Rows.diskDoesSpec) :=
  OpenClaim.holds_of_wide 8 Try.f8 rfl rfl rfl rfl rfl rfl rfl ⟨rfl, rfl, rfl, rfl, rfl⟩ rfl rfl rfl rfl rfl (by kernel_rfl) Try.func8 (by kernel_rfl)
    (of_decide_eq_true (by kernel_rfl)) (by unfold Func.isWrapper; first | (rw [if_pos (by decide +kernel)]; kernel_rfl) | (rw [if_neg (by decide +kernel)]; exact ⟨rfl, rfl⟩))
    (fun os started H enc _ => lifted os started H enc)
theorem proved : Rows.DiskDoesSaid := over
end Go.Proofs.Ytgjjcgemelafaaa.diskDoes
namespace Go.Proofs.Ytgjjcgemelafaaa
theorem diskDoes_holds : Rows.DiskDoesSaid := diskDoes.proved
#print axioms diskDoes_holds
end Go.Proofs.Ytgjjcgemelafaaa
