/-
  The law L2_DiskStays: for every input that can be read it returns true, and every argument reads behind the call as it read before.
-/
import Derived.Test.YtgjjcgemelafaaaRows
import Derived.Test.YtgjjcgemelafaaaRd
import Derived.Test.YtgjjcgemelafaaaPx29
import Derived.Test.YtgjjcgemelafaaaPureDiskStays
import Derived.WalkKit
import Derived.ProofKit
import Derived.OpenShut
import Derived.ShutString
import Derived.ChangeOld
import Derived.Below
import Derived.SizedLaws
import Derived.LaidMore
import Derived.Lay
import Derived.SevenTiedAt
import Derived.Stop.Joined
namespace Go.Proofs.Ytgjjcgemelafaaa.diskStays
open Go.ChangeShapes Go.WideShapes Go.ChangeAt Go.RowKit Go.Proofs.Ytgjjcgemelafaaa.Rd Go.Proofs.YtgjjcgemelafaaaW.PrintWords Go.Proofs.Ytgjjcgemelafaaa.P
open Go.ChangeMaps (open_string shut_string)
set_option linter.unusedVariables false
theorem own : ownKnob Try.prog.godebug = none := by kernel_rfl
theorem laidOut : laidOutB Try.prog = true := by kernel_rfl
set_option maxRecDepth 100000 in
theorem lifted (os : Os) (started : os.Started) (H : Type) (enc : TypeId × Value → H) :
    ReturnsInHanded {} Try.checked os 9 .any (Rows.diskStaysSpec.pre6 enc Try.prog Try.f9 Rows.diskStaysRow.domain false) (Rows.diskStaysSpec.post enc Try.prog Try.f9 false true false false) := by
  refine returnsInHanded_of_change_sized (C := Try.checked) own started (by kernel_rfl) Try.func9
    (ChangeSpec.witness6 (enc := enc) (C := Try.checked) false ⟨#[], #[.agg #[.slice none 0 0, .slice none 0 0], .slice none 0 0], []⟩ 8 (by kernel_rfl) (by kernel_rfl) (by kernel_rfl) (by kernel_rfl)) ?_
  intro W base args ds gs before hval0 hW hcnd hsz0 _
  have hval : ∀ (j : Nat) t v, Try.f9.params[j]? = some t → args[j]? = some v → Value.okWide Try.prog W .any base t v := hval0
  have hW' := hW
  obtain ⟨p, q, hA0, hV, rfl, hfz, hnd⟩ := hW
  have hA : DataW.TrodAll enc Try.prog W 0 (fun _ => true) true Try.f9.params.toList args.toList ds p := hA0
  rw [Try.params9] at hA hval
  obtain ⟨v0, vs0, d0, ds0, p0, q0, hargs, rfl, rfl, h0, r0⟩ := trodAll_cons hA
  obtain ⟨v1, vs1, d1, ds1, p1, q1, rfl, rfl, rfl, h1, r1⟩ := trodAll_cons r0
  obtain ⟨rfl, rfl, rfl⟩ := trodAll_nil r1
  obtain rfl : args = #[v0, v1] := by cases args; simp_all
  obtain ⟨rfl, rfl⟩ := trodVars_none hV
  have k0 := h0
  have lt0 : ∀ x ∈ p0, x.block < W.heap.size := by obtain ⟨m, hm⟩ := k0; exact DataW.trod_lt m _ _ _ hm
  obtain ⟨fu0, hf0⟩ := h0
  obtain ⟨cs0, rfl, _⟩ := okWide_struct Try.underlying63 (hval 0 63 v0 rfl rfl)
  obtain ⟨A0_0, c0_0, l0_0, A0_1, c0_1, l0_1, es0, hc0_0, hr0_0, hi0_0, hc0_1, hr0_1, hi0_1⟩ := rd_s63 hf0
  obtain rfl : cs0 = #[.slice A0_0 l0_0.length c0_0, .slice A0_1 l0_1.length c0_1] := Array.toList_inj.1 es0
  have k1 := h1
  have lt1 : ∀ x ∈ p1, x.block < W.heap.size := by obtain ⟨m, hm⟩ := k1; exact DataW.trod_lt m _ _ _ hm
  obtain ⟨fu1, hf1⟩ := h1
  obtain ⟨av1, len1, cap1, rfl⟩ := okWide_slice Try.underlying80 (hval 1 80 v1 rfl rfl)
  obtain ⟨l1, ⟨A1, c1, es1, hc1, hr1⟩, hi1⟩ := rd_t80 _ _ _ _ _ _ _ _ _ hf1
  obtain ⟨rfl, rfl, rfl⟩ := Value.slice.inj (List.cons.inj es1).1
  have hp := Pure.DiskStays l0_0 l0_1 l1 hr0_0.2.1 hi0_0 hr0_1.2.1 hi0_1 hr1.2.1 hi1
  obtain ⟨kr, hp⟩ := hp
  refine (P.L2_DiskStays.calls kr A0_0 c0_0 l0_0 A0_1 c0_1 l0_1 av1 cap1 l1 true W hr0_0 hc0_0 hr0_1 hc0_1 hr1 hc1 hp).mono fun e W' ⟨he, bel0⟩ => ?_
  have bel : Below W.heap.size W W' := bel0
  subst he
  exact ⟨_, rfl, _, _, _, [], _, [], hW', trodAll_mk1 (shut_bool Try.underlying4 _), (trodAll_cons_mk (Below.trod laidOut (by kernel_rfl) (of_decide_eq_true (by kernel_rfl)) k0 bel lt0) (trodAll_cons_mk (Below.trod laidOut (by kernel_rfl) (of_decide_eq_true (by kernel_rfl)) k1 bel lt1) trodAll_mk0)), rfl, bel.frame _, fun h => by cases h⟩
theorem over : Rows.diskStaysRow.holds Try.pinned (OpenSpec.ofChange Rows.diskStaysSpec) :=
  OpenClaim.holds_of_wide 9 Try.f9 rfl rfl rfl rfl rfl rfl rfl ⟨rfl, rfl, rfl, rfl, rfl⟩ rfl rfl rfl rfl rfl (by kernel_rfl) Try.func9 (by kernel_rfl)
    (of_decide_eq_true (by kernel_rfl)) (by unfold Func.isWrapper; first | (rw [if_pos (by decide +kernel)]; kernel_rfl) | (rw [if_neg (by decide +kernel)]; exact ⟨rfl, rfl⟩))
    (fun os started H enc _ => lifted os started H enc)
theorem proved : Rows.DiskStaysSaid := over
end Go.Proofs.Ytgjjcgemelafaaa.diskStays
namespace Go.Proofs.Ytgjjcgemelafaaa
theorem diskStays_holds : Rows.DiskStaysSaid := diskStays.proved
#print axioms diskStays_holds
end Go.Proofs.Ytgjjcgemelafaaa
