/-
  The law PlanChunks: for every input that can be read it returns true, and every argument reads behind the call as it read before.
-/
import Derived.Test.YtdhbdomjlggfgaaRows
import Derived.Test.YtdhbdomjlggfgaaP16
import Derived.WalkKit
import Derived.ProofKit
import Derived.OpenShut
import Derived.ShutString
import Derived.ChangeOld
import Derived.Below
import Derived.SizedLaws
import Derived.LaidMore
import Derived.Lay
import Derived.SevenTiedAt
import Derived.Stop.Joined
namespace Go.Proofs.Ytdhbdomjlggfgaa.planChunks
open Go.ChangeShapes Go.WideShapes Go.ChangeAt Go.RowKit Go.Proofs.YtdhbdomjlggfgaaW.PrintWords
open Go.ChangeMaps (open_string shut_string)
set_option linter.unusedVariables false
/-- A row of bytes that can be read. -/
theorem rd_bytes {H : Type} {enc : TypeId × Value → H} {w : World} {base : Nat} {spare : Nat → Bool} {held : Bool} {fuel : Nat} {cs : List Value} {x : DataW H × List MemPlace} (h : DataW.trod enc Try.prog w base spare held fuel 23 cs = some x) :
    ∃ (A : Option Addr) (l : List Int) (c : Nat), cs = [.slice A l.length c] ∧ Kd.C (Kd.int .u8) w A l.length l ∧ (∀ y ∈ l, 0 ≤ y ∧ y < 256) ∧ l.length ≤ c ∧ c ≤ 9223372036854775807 := by
  rcases open_ints Try.underlying23 Try.underlying5 (by kernel_rfl) h with ⟨rfl, _⟩ | ⟨a, len, cap, zs, rfl, _, hl, hm, hz, _, hc, hw⟩
  · exact ⟨none, [], 0, rfl, Kd.C_nil _ _, fun _ h => absurd h (by simp), Nat.le_refl _, by decide⟩
  · unfold maxLen at hm
    have hle : len ≤ zs.length := by rw [hz]; split <;> omega
    have e : (zs.take len).length = len := by rw [List.length_take]; omega
    refine ⟨some a, zs.take len, cap, by rw [e], ?_, fun y hy => ?_, by omega, by omega⟩
    · refine Kd.C_of_reads (d := 0) ⟨rfl, by omega, fun _ => ⟨a, rfl, fun j hj => ?_⟩⟩
      rw [hc j (by omega)]
      simp only [List.getD_eq_getElem?_getD]
      rw [List.getElem?_take_of_lt (by omega)]
    · have := hw y (List.mem_of_mem_take hy)
      simp only [Lit.wf, IntKind.min, IntKind.max, IntKind.signed, IntKind.bits, Bool.and_eq_true] at this
      simp at this
      omega
theorem own : ownKnob Try.prog.godebug = none := by kernel_rfl
theorem laidOut : laidOutB Try.prog = true := by kernel_rfl
set_option maxRecDepth 100000 in
theorem lifted (os : Os) (started : os.Started) (H : Type) (enc : TypeId × Value → H) :
    ReturnsInHanded {} Try.checked os 5 .any (Rows.planChunksSpec.pre6 enc Try.prog Try.f5 Rows.planChunksRow.domain false) (Rows.planChunksSpec.post enc Try.prog Try.f5 false true false false) := by
  refine returnsInHanded_of_change_sized (C := Try.checked) own started (by kernel_rfl) Try.func5
    (ChangeSpec.witness6 (enc := enc) (C := Try.checked) false ⟨#[], #[.slice none 0 0], []⟩ 8 (by kernel_rfl) (by kernel_rfl) (by kernel_rfl) (by kernel_rfl)) ?_
  intro W base args ds gs before hval0 hW hcnd hsz0 _
  have hval : ∀ (j : Nat) t v, Try.f5.params[j]? = some t → args[j]? = some v → Value.okWide Try.prog W .any base t v := hval0
  have hW' := hW
  obtain ⟨p, q, hA0, hV, rfl, hfz, hnd⟩ := hW
  have hA : DataW.TrodAll enc Try.prog W 0 (fun _ => true) true Try.f5.params.toList args.toList ds p := hA0
  rw [Try.params5] at hA hval
  obtain ⟨v0, vs0, d0, ds0, p0, q0, hargs, rfl, rfl, h0, r0⟩ := trodAll_cons hA
  obtain ⟨rfl, rfl, rfl⟩ := trodAll_nil r0
  obtain rfl : args = #[v0] := by cases args; simp_all
  obtain ⟨rfl, rfl⟩ := trodVars_none hV
  have k0 := h0
  have lt0 : ∀ x ∈ p0, x.block < W.heap.size := by obtain ⟨m, hm⟩ := k0; exact DataW.trod_lt m _ _ _ hm
  obtain ⟨fu0, hf0⟩ := h0
  obtain ⟨A, l, c, es0, hr, hb, hc, hcm⟩ := rd_bytes hf0
  have hv1 : v0.oneCell' = true ∨ True := .inr trivial
  obtain ⟨rfl⟩ : v0 = .slice A l.length c := by
    have hv_ := (hval 0 23 v0 rfl rfl)
    simp only [Value.okWide, Try.underlying23] at hv_
    cases v0 <;> simp_all [Value.cells, Cell.okWide, Cell.ok]
  refine (Q.planChunks_all A c l W hr hb hc hcm).mono fun e W' ⟨he, bel0⟩ => ?_
  have bel : Below W.heap.size W W' := bel0
  subst he
  exact ⟨_, rfl, _, _, _, [], _, [], hW', trodAll_mk1 (shut_bool Try.underlying4 _), (trodAll_cons_mk (Below.trod laidOut (by kernel_rfl) (of_decide_eq_true (by kernel_rfl)) k0 bel lt0) trodAll_mk0), rfl, bel.frame _, fun h => by cases h⟩
theorem over : Rows.planChunksRow.holds Try.pinned (OpenSpec.ofChange Rows.planChunksSpec) :=
  OpenClaim.holds_of_wide 5 Try.f5 rfl rfl rfl rfl rfl rfl rfl ⟨rfl, rfl, rfl, rfl, rfl⟩ rfl rfl rfl rfl rfl (by kernel_rfl) Try.func5 (by kernel_rfl)
    (of_decide_eq_true (by kernel_rfl)) (by unfold Func.isWrapper; first | (rw [if_pos (by decide +kernel)]; kernel_rfl) | (rw [if_neg (by decide +kernel)]; exact ⟨rfl, rfl⟩))
    (fun os started H enc _ => lifted os started H enc)
theorem proved : Rows.PlanChunksSaid := over
end Go.Proofs.Ytdhbdomjlggfgaa.planChunks
namespace Go.Proofs.Ytdhbdomjlggfgaa
theorem planChunks_holds : Rows.PlanChunksSaid := planChunks.proved
#print axioms planChunks_holds
end Go.Proofs.Ytdhbdomjlggfgaa
