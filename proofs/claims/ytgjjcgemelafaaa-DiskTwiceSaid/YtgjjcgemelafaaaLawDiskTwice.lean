/-
  The law assartlaw02.DiskTwice: for every input that can be read it returns true, and its argument reads behind the call as it read before.
-/
import Derived.Test.YtgjjcgemelafaaaRows
import Derived.Test.YtgjjcgemelafaaaRd
import Derived.Test.YtgjjcgemelafaaaDevV
import Derived.WalkKit
import Derived.ProofKit
import Derived.OpenShut
import Derived.ShutString
import Derived.ChangeOld
import Derived.Below
import Derived.SizedLaws
import Derived.LaidMore
import Derived.Lay
import Derived.SevenTiedAt
import Derived.Stop.Joined
namespace Go.Proofs.Ytgjjcgemelafaaa.diskTwice
open Go.ChangeShapes Go.WideShapes Go.ChangeAt Go.RowKit Go.Proofs.Ytgjjcgemelafaaa.Rd Go.Proofs.YtgjjcgemelafaaaW.PrintWords Go.Proofs.Ytgjjcgemelafaaa.P
open Go.ChangeMaps (open_string shut_string)
set_option linter.unusedVariables false
theorem rd_a93 {H : Type} {enc : TypeId × Value → H} {w : World} {base : Nat} {spare : Nat → Bool} {held : Bool} {fuel : Nat} {z0 z1 : Value} {x : DataW H × List MemPlace} (h : DataW.trod enc Try.prog w base spare held fuel 93 [z0, z1] = some x) : ∃ k0 k1 : Bool, z0 = .bool k0 ∧ z1 = .bool k1 := by
  obtain ⟨xs, m, rfl, rfl, hl, hx, hf⟩ := DataW.trod_array Try.underlying93 h
  rw [show Try.prog.cellsOf 4 = 1 by kernel_rfl] at hf
  have q0 := hf 0 (by omega)
  replace q0 : DataW.trod enc Try.prog w base spare held m 4 [z0] = xs[0]? := q0
  have g0 := field q0 (by omega)
  have q1 := hf 1 (by omega)
  replace q1 : DataW.trod enc Try.prog w base spare held m 4 [z1] = xs[1]? := q1
  have g1 := field q1 (by omega)
  obtain ⟨k0, e0, _⟩ := DataW.trod_bool Try.underlying4 g0
  obtain ⟨k1, e1, _⟩ := DataW.trod_bool Try.underlying4 g1
  exact ⟨k0, k1, (List.cons.inj e0).1, (List.cons.inj e1).1⟩
theorem rd_s95 {H : Type} {enc : TypeId × Value → H} {w : World} {base : Nat} {spare : Nat → Bool} {held : Bool} {fuel : Nat} {cs : List Value} {x : DataW H × List MemPlace} (h : DataW.trod enc Try.prog w base spare held fuel 95 cs = some x) : ∃ (A0 : Option Addr) (c0 : Nat) (l0 : List ByteArray) (A1 : Option Addr) (c1 : Nat) (l1 : List S79) (a : Int) (s t : ByteArray) (k0 k1 : Bool), cs = [.slice A0 l0.length c0, .slice A1 l1.length c1, .int .u8 a, .string s, .string t, .bool k0, .bool k1] ∧ l0.length ≤ c0 ∧ Kd.C Kd.string w A0 l0.length l0 ∧ l1.length ≤ c1 ∧ Kd.C k79 w A1 l1.length l1 ∧ (Lit.int .u8 a).wf = true := by
  obtain ⟨xs, n, rfl, rfl, hl, hx, hf⟩ := DataW.trod_struct Try.underlying95 h
  have hN : Try.prog.cellsOf 95 = 7 := by kernel_rfl
  rw [hN] at hl
  have hxl : xs.length = 5 := hx
  obtain ⟨z0_, y0_, rfl, hl0⟩ := cons_of hl
  obtain ⟨z1_, y1_, rfl, hl1⟩ := cons_of hl0
  obtain ⟨z2_, y2_, rfl, hl2⟩ := cons_of hl1
  obtain ⟨z3_, y3_, rfl, hl3⟩ := cons_of hl2
  obtain ⟨z4_, y4_, rfl, hl4⟩ := cons_of hl3
  obtain ⟨z5_, y5_, rfl, hl5⟩ := cons_of hl4
  obtain ⟨z6_, y6_, rfl, hl6⟩ := cons_of hl5
  obtain rfl := List.eq_nil_of_length_eq_zero hl6
  have g0 : DataW.trod enc Try.prog w base spare held n 63 (([z0_, z1_, z2_, z3_, z4_, z5_, z6_].drop 0).take (Try.prog.cellsOf 63)) = some xs[0] := field (hf 0 _ rfl) (by omega)
  rw [show Try.prog.cellsOf 63 = 2 by kernel_rfl] at g0
  replace g0 : DataW.trod enc Try.prog w base spare held n 63 [z0_, z1_] = some xs[0] := g0
  have g1 : DataW.trod enc Try.prog w base spare held n 5 (([z0_, z1_, z2_, z3_, z4_, z5_, z6_].drop 2).take (Try.prog.cellsOf 5)) = some xs[1] := field (hf 1 _ rfl) (by omega)
  rw [show Try.prog.cellsOf 5 = 1 by kernel_rfl] at g1
  replace g1 : DataW.trod enc Try.prog w base spare held n 5 [z2_] = some xs[1] := g1
  have g2 : DataW.trod enc Try.prog w base spare held n 9 (([z0_, z1_, z2_, z3_, z4_, z5_, z6_].drop 3).take (Try.prog.cellsOf 9)) = some xs[2] := field (hf 2 _ rfl) (by omega)
  rw [show Try.prog.cellsOf 9 = 1 by kernel_rfl] at g2
  replace g2 : DataW.trod enc Try.prog w base spare held n 9 [z3_] = some xs[2] := g2
  have g3 : DataW.trod enc Try.prog w base spare held n 9 (([z0_, z1_, z2_, z3_, z4_, z5_, z6_].drop 4).take (Try.prog.cellsOf 9)) = some xs[3] := field (hf 3 _ rfl) (by omega)
  rw [show Try.prog.cellsOf 9 = 1 by kernel_rfl] at g3
  replace g3 : DataW.trod enc Try.prog w base spare held n 9 [z4_] = some xs[3] := g3
  have g4 : DataW.trod enc Try.prog w base spare held n 93 (([z0_, z1_, z2_, z3_, z4_, z5_, z6_].drop 5).take (Try.prog.cellsOf 93)) = some xs[4] := field (hf 4 _ rfl) (by omega)
  rw [show Try.prog.cellsOf 93 = 2 by kernel_rfl] at g4
  replace g4 : DataW.trod enc Try.prog w base spare held n 93 [z5_, z6_] = some xs[4] := g4
  obtain ⟨A0, c0, l0, A1, c1, l1, e0, hc0, hr0, _, hc1, hr1, _⟩ := rd_s63 g0
  simp only [List.cons.injEq, and_true] at e0
  obtain ⟨rfl, rfl⟩ := e0
  obtain ⟨a, e1, _, hi⟩ := DataW.trod_int Try.underlying5 g1
  obtain rfl := (List.cons.inj e1).1
  obtain ⟨s, e2, _, _⟩ := DataW.trod_string Try.underlying9 g2
  obtain rfl := (List.cons.inj e2).1
  obtain ⟨t, e3, _, _⟩ := DataW.trod_string Try.underlying9 g3
  obtain rfl := (List.cons.inj e3).1
  obtain ⟨k0, k1, rfl, rfl⟩ := rd_a93 g4
  exact ⟨A0, c0, l0, A1, c1, l1, a, s, t, k0, k1, rfl, hc0, hr0, hc1, hr1, hi⟩
theorem own : ownKnob Try.prog.godebug = none := by kernel_rfl
theorem laidOut : laidOutB Try.prog = true := by kernel_rfl
set_option maxRecDepth 100000 in
theorem lifted (os : Os) (started : os.Started) (H : Type) (enc : TypeId × Value → H) :
    ReturnsInHanded {} Try.checked os 12 .any (Rows.diskTwiceSpec.pre6 enc Try.prog Try.f12 Rows.diskTwiceRow.domain false) (Rows.diskTwiceSpec.post enc Try.prog Try.f12 false true false false) := by
  refine returnsInHanded_of_change_sized (C := Try.checked) own started (by kernel_rfl) Try.func12
    (ChangeSpec.witness6 (enc := enc) (C := Try.checked) false ⟨#[], #[.agg #[.slice none 0 0, .slice none 0 0, .int .u8 0, .string ByteArray.empty, .string ByteArray.empty, .bool false, .bool false]], []⟩ 8 (by kernel_rfl) (by kernel_rfl) (by kernel_rfl) (by kernel_rfl)) ?_
  intro W base args ds gs before hval0 hW hcnd hsz0 _
  have hval : ∀ (j : Nat) t v, Try.f12.params[j]? = some t → args[j]? = some v → Value.okWide Try.prog W .any base t v := hval0
  have hW' := hW
  obtain ⟨p, q, hA0, hV, rfl, hfz, hnd⟩ := hW
  have hA : DataW.TrodAll enc Try.prog W 0 (fun _ => true) true Try.f12.params.toList args.toList ds p := hA0
  rw [Try.params12] at hA hval
  obtain ⟨v0, vs0, d0, ds0, p0, q0, hargs, rfl, rfl, h0, r0⟩ := trodAll_cons hA
  obtain ⟨rfl, rfl, rfl⟩ := trodAll_nil r0
  obtain rfl : args = #[v0] := by cases args; simp_all
  obtain ⟨rfl, rfl⟩ := trodVars_none hV
  have k0 := h0
  have lt0 : ∀ x ∈ p0, x.block < W.heap.size := by obtain ⟨m, hm⟩ := k0; exact DataW.trod_lt m _ _ _ hm
  obtain ⟨fu0, hf0⟩ := h0
  obtain ⟨cs0, rfl, _⟩ := okWide_struct Try.underlying95 (hval 0 95 v0 rfl rfl)
  obtain ⟨A0, c0, l0, A1, c1, l1, a, s, t, x0, x1, es0, hc0, hr0, hc1, hr1, hi⟩ := rd_s95 hf0
  obtain rfl : cs0 = #[.slice A0 l0.length c0, .slice A1 l1.length c1, .int .u8 a, .string s, .string t, .bool x0, .bool x1] := Array.toList_inj.1 es0
  refine (P.twice_all A0 c0 l0 A1 c1 l1 a s t x0 x1 W hr0 hc0 hr1 hc1 (by simp only [Lit.wf, IntKind.min, IntKind.max, IntKind.signed, IntKind.bits, Bool.and_eq_true] at hi; simp at hi; omega)).mono fun e W' ⟨he, bel0⟩ => ?_
  have bel : Below W.heap.size W W' := bel0
  subst he
  exact ⟨_, rfl, _, _, _, [], _, [], hW', trodAll_mk1 (shut_bool Try.underlying4 _), (trodAll_cons_mk (Below.trod laidOut (by kernel_rfl) (of_decide_eq_true (by kernel_rfl)) k0 bel lt0) trodAll_mk0), rfl, bel.frame _, fun h => by cases h⟩
theorem over : Rows.diskTwiceRow.holds Try.pinned (OpenSpec.ofChange Rows.diskTwiceSpec) :=
  OpenClaim.holds_of_wide 12 Try.f12 rfl rfl rfl rfl rfl rfl rfl ⟨rfl, rfl, rfl, rfl, rfl⟩ rfl rfl rfl rfl rfl (by kernel_rfl) Try.func12 (by kernel_rfl)
    (of_decide_eq_true (by kernel_rfl)) (by unfold Func.isWrapper; first | (rw [if_pos (by decide +kernel)]; kernel_rfl) | (rw [if_neg (by decide +kernel)]; exact ⟨rfl, rfl⟩))
    (fun os started H enc _ => lifted os started H enc)
theorem proved : Rows.DiskTwiceSaid := over
end Go.Proofs.Ytgjjcgemelafaaa.diskTwice
namespace Go.Proofs.Ytgjjcgemelafaaa
theorem diskTwice_holds : Rows.DiskTwiceSaid := diskTwice.proved
#print axioms diskTwice_holds
end Go.Proofs.Ytgjjcgemelafaaa
