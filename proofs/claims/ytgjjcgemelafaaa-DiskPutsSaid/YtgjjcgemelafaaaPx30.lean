-- By wip/tools/drive.py: the kit's print, with contracts of this session's own among the functions.
import Derived.Test.YtgjjcgemelafaaaPx0
import Derived.Test.YtgjjcgemelafaaaPx10
import Derived.Test.YtgjjcgemelafaaaPx12
import Derived.Test.YtgjjcgemelafaaaPx14
import Derived.Test.YtgjjcgemelafaaaPx20
import Derived.Test.YtgjjcgemelafaaaPx21
import Derived.Test.YtgjjcgemelafaaaPx22
import Derived.Test.YtgjjcgemelafaaaPx23
namespace Go.Proofs.Ytgjjcgemelafaaa.P
open Go.RowKit Go.Proofs.YtgjjcgemelafaaaW.PrintWords Go.Proofs.YtgjjcgemelafaaaW.PrintLast Go.Proofs.YtgjjcgemelafaaaW.PrintMore
attribute [local go_sem] max2_int min2_int max_two min_two max_three min_three max_four min_four   -- for this text's walks alone
set_option linter.unusedVariables false
set_option linter.unusedSimpArgs false
mutual
def assartlaw02_DiskPuts.j0 : Nat → Bool → Bool → List ByteArray → List (S79) → Int → ByteArray → Int → ByteArray → Option (Bool)
  | 0, _, _, _, _, _, _, _, _ => none
  | k + 1, x7, x41, x426000, x426001, x427000, x427001, x428000, x428001 => if x41 = true then (some x7) else ((disk_Put.f x426000 x426001 x427000 x427001).bind fun bt431 => (if bt431.2.2 = 0 then (assartlaw02_DiskPuts.l0 k x7 0 x426000 x426001 x427000 x427001 x428000 x428001 bt431.1 bt431.2.1) else (if x7 = true then (if bt431.2.2 = 1 then ((assartref02_Same.f k bt431.1 bt431.2.1 x426000 x426001).bind fun t439 => (some t439)) else (none)) else (none))))
def assartlaw02_DiskPuts.l0 : Nat → Bool → Int → List ByteArray → List (S79) → Int → ByteArray → Int → ByteArray → List ByteArray → List (S79) → Option (Bool)
  | 0, _, _, _, _, _, _, _, _, _, _ => none
  | k + 1, x7, x10, x426000, x426001, x427000, x427001, x428000, x428001, x439000, x439001 => if x10 < (x426000.length : Int) then ((disk_Read.f x426000 x426001 x10).bind fun bt440 => ((disk_Read.f x439000 x439001 x10).bind fun bt442 => (if bt440.2 = 0 then (if bt442.2 = 0 then (if x10 = x427000 then (if bt442.1.toList = x427001.toList then (assartlaw02_DiskPuts.l0 k x7 (wrap64 (x10 + 1)) x426000 x426001 x427000 x427001 x428000 x428001 x439000 x439001) else (none)) else (if bt440.1.toList = bt442.1.toList then (assartlaw02_DiskPuts.l0 k x7 (wrap64 (x10 + 1)) x426000 x426001 x427000 x427001 x428000 x428001 x439000 x439001) else (none))) else (none)) else (none)))) else ((disk_Put.f x426000 x426001 x428000 x428001).bind fun bt444 => (if bt444.2.2 = 0 then (assartlaw02_DiskPuts.j2 k x7 (x427000 == x428000) x427000 x427001 x428000 x428001 x439000 x439001 bt444.1 bt444.2.1) else (assartlaw02_DiskPuts.j2 k x7 true x427000 x427001 x428000 x428001 x439000 x439001 bt444.1 bt444.2.1)))
def assartlaw02_DiskPuts.j2 : Nat → Bool → Bool → Int → ByteArray → Int → ByteArray → List ByteArray → List (S79) → List ByteArray → List (S79) → Option (Bool)
  | 0, _, _, _, _, _, _, _, _, _, _ => none
  | k + 1, x7, x129, x427000, x427001, x428000, x428001, x439000, x439001, x452000, x452001 => if x129 = true then (if x7 = true then ((assartref02_Right.f k x439000 x439001).bind fun t452 => (some t452)) else (none)) else ((disk_Put.f x439000 x439001 x428000 x428001).bind fun bt453 => ((disk_Put.f x452000 x452001 x427000 x427001).bind fun bt461 => (if x7 = true then (if bt453.2.2 = 0 then (if bt461.2.2 = 0 then ((disk_Flush.f bt453.1 bt453.2.1).bind fun bt469 => ((disk_Flush.f bt461.1 bt461.2.1).bind fun bt475 => ((assartref02_Same.f k bt469.1 bt469.2 bt475.1 bt475.2).bind fun t481 => (some t481)))) else (none)) else (none)) else (none))))
end
def assartlaw02_DiskPuts.f (k : Nat) (l0_0 : List ByteArray) (l0_1 : List (S79)) (a1_0 : Int) (a1_1 : ByteArray) (a2_0 : Int) (a2_1 : ByteArray) : Option (Bool) := (assartlaw02_shown.f k).bind fun t428 => ((assartref02_Small.f k l0_0 l0_1 60).bind fun t429 => (if t429 = true then ((assartref02_Right.f k l0_0 l0_1).bind fun t430 => (if t430 = true then (if (a1_1.size : Int) > 100 then (assartlaw02_DiskPuts.j0 k t428 true l0_0 l0_1 a1_0 a1_1 a2_0 a2_1) else (assartlaw02_DiskPuts.j0 k t428 (decide ((a2_1.size : Int) > 100)) l0_0 l0_1 a1_0 a1_1 a2_0 a2_1)) else (assartlaw02_DiskPuts.j0 k t428 true l0_0 l0_1 a1_0 a1_1 a2_0 a2_1))) else (assartlaw02_DiskPuts.j0 k t428 true l0_0 l0_1 a1_0 a1_1 a2_0 a2_1)))
def assartlaw02_DiskPuts.T19 : Bool × List (List Nat × List Nat) := (true, [([], []), ([0], [0]), ([1], [1]), ([2, 1], [1, 2]), ([1, 3], [1, 3]), ([4, 1], [4]), ([5], [5]), ([6, 5], [5, 6]), ([5, 7], [5, 7]), ([8, 5], [8]), ([9], [9]), ([10, 9, 9], [9, 10]), ([9], [9]), ([12, 11, 9], [9, 12]), ([11, 13, 13, 9], [9, 11, 13]), ([9, 14], [9, 14]), ([15, 14, 0, 1, 2, 3, 4, 5, 6, 7, 8, 9, 10, 11, 12, 13, 14, 15], [15])])
def assartlaw02_DiskPuts.B19 : List Nat := [0, 1, 3, 7, 15, 31, 63, 127, 255, 511, 1023, 2047, 1023, 8191, 16383, 32767, 65535]
theorem assartlaw02_DiskPuts.tab19 : rtab .any (opsOf Try.f10 19) = assartlaw02_DiskPuts.T19 := by kernel_rfl
theorem assartlaw02_DiskPuts.bits19 : waitsOk assartlaw02_DiskPuts.T19.2 assartlaw02_DiskPuts.B19 = true := by kernel_rfl
set_option maxHeartbeats 8000000 in
set_option maxRecDepth 100000 in
theorem assartlaw02_DiskPuts.calls (k : Nat) (A0_0 : Option Addr) (c0_0 : Nat) (l0_0 : List ByteArray) (A0_1 : Option Addr) (c0_1 : Nat) (l0_1 : List (S79)) (a1_0 : Int) (a1_1 : ByteArray) (a2_0 : Int) (a2_1 : ByteArray) (r : Bool) (w : World) (hr0_0 : Kd.C Kd.string w A0_0 l0_0.length l0_0) (hc0_0 : l0_0.length ≤ c0_0) (hr0_1 : Kd.C k79 w A0_1 l0_1.length l0_1) (hc0_1 : l0_1.length ≤ c0_1) (h : assartlaw02_DiskPuts.f k l0_0 l0_1 a1_0 a1_1 a2_0 a2_1 = some r) :
    Calls Try.prog 10 #[.agg #[.slice A0_0 l0_0.length c0_0, .slice A0_1 l0_1.length c0_1], .agg #[.int .i64 a1_0, .string a1_1], .agg #[.int .i64 a2_0, .string a2_1]] w fun e w' => e = .returned (.bool r) ∧ Below w.heap.size w w' := by
  have hu63 := Try.underlying63
  have hu79 := Try.underlying79
  have HR0_0 := Aside0.mk hr0_0
  have HC0_0 := Aside0.mk hc0_0
  clear hr0_0 hc0_0
  have HR0_1 := Aside0.mk hr0_1
  have HC0_1 := Aside0.mk hc0_1
  clear hr0_1 hc0_1
  have HB := Aside0.mk (Below.refl w.heap.size w)
  have H : ((assartlaw02_shown.f k).bind fun t428 => ((assartref02_Small.f k l0_0 l0_1 60).bind fun t429 => (if t429 = true then ((assartref02_Right.f k l0_0 l0_1).bind fun t430 => (if t430 = true then (if (a1_1.size : Int) > 100 then (assartlaw02_DiskPuts.j0 k t428 true l0_0 l0_1 a1_0 a1_1 a2_0 a2_1) else (assartlaw02_DiskPuts.j0 k t428 (decide ((a2_1.size : Int) > 100)) l0_0 l0_1 a1_0 a1_1 a2_0 a2_1)) else (assartlaw02_DiskPuts.j0 k t428 true l0_0 l0_1 a1_0 a1_1 a2_0 a2_1))) else (assartlaw02_DiskPuts.j0 k t428 true l0_0 l0_1 a1_0 a1_1 a2_0 a2_1)))) = some r := h
  clear h
  replace H := Option.bind_eq_some_iff.mp H
  obtain ⟨t428, A40, H⟩ := H
  replace H : ((assartref02_Small.f k l0_0 l0_1 60).bind fun t429 => (if t429 = true then ((assartref02_Right.f k l0_0 l0_1).bind fun t430 => (if t430 = true then (if (a1_1.size : Int) > 100 then (assartlaw02_DiskPuts.j0 k t428 true l0_0 l0_1 a1_0 a1_1 a2_0 a2_1) else (assartlaw02_DiskPuts.j0 k t428 (decide ((a2_1.size : Int) > 100)) l0_0 l0_1 a1_0 a1_1 a2_0 a2_1)) else (assartlaw02_DiskPuts.j0 k t428 true l0_0 l0_1 a1_0 a1_1 a2_0 a2_1))) else (assartlaw02_DiskPuts.j0 k t428 true l0_0 l0_1 a1_0 a1_1 a2_0 a2_1))) = some r := H
  have A4 := Aside0.mk A40
  clear A40
  have HC5 := Aside0.mk H
  clear H
  go_enter Try.func10, Try.ntmps10
  go_upto_region 2 with (first | ((with_reducible refine gate_dst (N := 3) rfl ?_); (try (refine gate_guard (by rfl) ?_; dsimp only)); refine box_event ?hg (N := 3) ?hd (cs := #[.slice A0_0 l0_0.length c0_0, .slice A0_1 l0_1.length c0_1]) (t := 63) ?hr ?_; (case hd => rfl); (case hg => rfl); (case hr => first | (go_simp; done) | (go_simp; rfl)); intro gb425 hg w6 hbox hb; have n0_ := Aside0.mk (below_step (by repeat (first | (with_reducible first | exact HB.out | apply below_alloc | apply pw_below_drewN | apply below_drew1) | exact HB.out)) hb); have n1_ := Aside0.mk (hbox); have n2_ := Aside0.mk ((by rw [hg]; exact (below_size (by repeat (first | (with_reducible first | exact HB.out | apply below_alloc | apply pw_below_drewN | apply below_drew1) | exact HB.out))) : w.heap.size ≤ gb425)); have n3_ := Aside0.mk ((by rw [hg]; exact (below_size (by repeat (first | (with_reducible first | exact HB.out | apply below_alloc | apply pw_below_drewN | apply below_drew1) | exact HB.out))) : w.heap.size ≤ gb425)); clear HB; have HB := n0_; have BK425 := n1_; have GW425 := n2_; have GE425 := n3_; clear n0_ n1_ n2_ n3_; clear hb hbox hg) | ((with_reducible refine gate_dst (N := 4) rfl ?_); (try (refine gate_guard (by rfl) ?_; dsimp only)); refine box_event ?hg (N := 4) ?hd (cs := #[.int .i64 a1_0, .string a1_1]) (t := 79) ?hr ?_; (case hd => rfl); (case hg => rfl); (case hr => first | (go_simp; done) | (go_simp; rfl)); intro gb426 hg w7 hbox hb; have n0_ := Aside0.mk (blk_below (g := gb425) (o := .cells #[.slice A0_0 l0_0.length c0_0, .slice A0_1 l0_1.length c0_1] 63 (0, 0)) (by (with_reducible repeat (first | refine blk_drewN ?_ _ | refine blk_drew ?_ | refine blk_alloc ?_ _)); exact BK425.out) hb); have n1_ := Aside0.mk (below_step (by repeat (first | (with_reducible first | exact HB.out | apply below_alloc | apply pw_below_drewN | apply below_drew1 | refine below_set ?_ GE425.out) | exact HB.out)) hb); have n2_ := Aside0.mk (hbox); have n3_ := Aside0.mk ((by rw [hg]; exact (below_size (by repeat (first | (with_reducible first | exact HB.out | apply below_alloc | apply pw_below_drewN | apply below_drew1 | refine below_set ?_ GE425.out) | exact HB.out))) : w.heap.size ≤ gb426)); have n4_ := Aside0.mk ((by rw [hg]; exact (below_size (by repeat (first | (with_reducible first | exact HB.out | apply below_alloc | apply pw_below_drewN | apply below_drew1 | refine below_set ?_ GE425.out) | exact HB.out))) : w.heap.size ≤ gb426)); have n5_ := Aside0.mk ((by rw [hg]; exact Nat.ne_of_lt (blk_lt (g := gb425) (o := .cells #[.slice A0_0 l0_0.length c0_0, .slice A0_1 l0_1.length c0_1] 63 (0, 0)) (by (with_reducible repeat (first | refine blk_drewN ?_ _ | refine blk_drew ?_ | refine blk_alloc ?_ _)); exact BK425.out)) : gb425 ≠ gb426)); have n6_ := Aside0.mk ((by rw [hg]; exact Nat.ne_of_gt (blk_lt (g := gb425) (o := .cells #[.slice A0_0 l0_0.length c0_0, .slice A0_1 l0_1.length c0_1] 63 (0, 0)) (by (with_reducible repeat (first | refine blk_drewN ?_ _ | refine blk_drew ?_ | refine blk_alloc ?_ _)); exact BK425.out)) : gb426 ≠ gb425)); clear BK425; clear HB; have BK425 := n0_; have HB := n1_; have BK426 := n2_; have GW426 := n3_; have GE426 := n4_; have NB425_426 := n5_; have NB426_425 := n6_; clear n0_ n1_ n2_ n3_ n4_ n5_ n6_; clear hb hbox hg) | ((with_reducible refine gate_dst (N := 5) rfl ?_); (try (refine gate_guard (by rfl) ?_; dsimp only)); refine box_event ?hg (N := 5) ?hd (cs := #[.int .i64 a2_0, .string a2_1]) (t := 79) ?hr ?_; (case hd => rfl); (case hg => rfl); (case hr => first | (go_simp; done) | (go_simp; rfl)); intro gb427 hg w8 hbox hb; have n0_ := Aside0.mk (blk_below (g := gb425) (o := .cells #[.slice A0_0 l0_0.length c0_0, .slice A0_1 l0_1.length c0_1] 63 (0, 0)) (by (with_reducible repeat (first | refine blk_drewN ?_ _ | refine blk_drew ?_ | refine blk_alloc ?_ _)); exact BK425.out) hb); have n1_ := Aside0.mk (blk_below (g := gb426) (o := .cells #[.int .i64 a1_0, .string a1_1] 79 (0, 0)) (by (with_reducible repeat (first | refine blk_drewN ?_ _ | refine blk_drew ?_ | refine blk_alloc ?_ _)); exact BK426.out) hb); have n2_ := Aside0.mk (below_step (by repeat (first | (with_reducible first | exact HB.out | apply below_alloc | apply pw_below_drewN | apply below_drew1 | refine below_set ?_ GE425.out | refine below_set ?_ GE426.out) | exact HB.out)) hb); have n3_ := Aside0.mk (hbox); have n4_ := Aside0.mk ((by rw [hg]; exact (below_size (by repeat (first | (with_reducible first | exact HB.out | apply below_alloc | apply pw_below_drewN | apply below_drew1 | refine below_set ?_ GE425.out | refine below_set ?_ GE426.out) | exact HB.out))) : w.heap.size ≤ gb427)); have n5_ := Aside0.mk ((by rw [hg]; exact (below_size (by repeat (first | (with_reducible first | exact HB.out | apply below_alloc | apply pw_below_drewN | apply below_drew1 | refine below_set ?_ GE425.out | refine below_set ?_ GE426.out) | exact HB.out))) : w.heap.size ≤ gb427)); have n6_ := Aside0.mk ((by rw [hg]; exact Nat.ne_of_lt (blk_lt (g := gb425) (o := .cells #[.slice A0_0 l0_0.length c0_0, .slice A0_1 l0_1.length c0_1] 63 (0, 0)) (by (with_reducible repeat (first | refine blk_drewN ?_ _ | refine blk_drew ?_ | refine blk_alloc ?_ _)); exact BK425.out)) : gb425 ≠ gb427)); have n7_ := Aside0.mk ((by rw [hg]; exact Nat.ne_of_gt (blk_lt (g := gb425) (o := .cells #[.slice A0_0 l0_0.length c0_0, .slice A0_1 l0_1.length c0_1] 63 (0, 0)) (by (with_reducible repeat (first | refine blk_drewN ?_ _ | refine blk_drew ?_ | refine blk_alloc ?_ _)); exact BK425.out)) : gb427 ≠ gb425)); have n8_ := Aside0.mk ((by rw [hg]; exact Nat.ne_of_lt (blk_lt (g := gb426) (o := .cells #[.int .i64 a1_0, .string a1_1] 79 (0, 0)) (by (with_reducible repeat (first | refine blk_drewN ?_ _ | refine blk_drew ?_ | refine blk_alloc ?_ _)); exact BK426.out)) : gb426 ≠ gb427)); have n9_ := Aside0.mk ((by rw [hg]; exact Nat.ne_of_gt (blk_lt (g := gb426) (o := .cells #[.int .i64 a1_0, .string a1_1] 79 (0, 0)) (by (with_reducible repeat (first | refine blk_drewN ?_ _ | refine blk_drew ?_ | refine blk_alloc ?_ _)); exact BK426.out)) : gb427 ≠ gb426)); clear BK425; clear BK426; clear HB; have BK425 := n0_; have BK426 := n1_; have HB := n2_; have BK427 := n3_; have GW427 := n4_; have GE427 := n5_; have NB425_427 := n6_; have NB427_425 := n7_; have NB426_427 := n8_; have NB427_426 := n9_; clear n0_ n1_ n2_ n3_ n4_ n5_ n6_ n7_ n8_ n9_; clear hb hbox hg) | ((with_reducible refine gate_callee (f := 33) rfl ?_); refine goesL_ (some 21) rfl rfl Try.func33 (by kernel_rfl) rfl #[] rfl (by (try simp only [List.map_toArray, List.map_cons, List.map_nil]); first | done | rfl | (simp only [List.length_drop, List.length_take]; rfl)) ?_; (with_reducible refine (assartlaw02_shown.calls k  t428 _ A4.out).mono ?_); rintro e w9 ⟨rfl, hb⟩; refine ⟨_, rfl, ?_⟩; have n0_ := Aside0.mk (blk_below (g := gb425) (o := .cells #[.slice A0_0 l0_0.length c0_0, .slice A0_1 l0_1.length c0_1] 63 (0, 0)) (by (with_reducible repeat (first | refine blk_drewN ?_ _ | refine blk_drew ?_ | refine blk_alloc ?_ _)); exact BK425.out) hb); have n1_ := Aside0.mk (blk_below (g := gb426) (o := .cells #[.int .i64 a1_0, .string a1_1] 79 (0, 0)) (by (with_reducible repeat (first | refine blk_drewN ?_ _ | refine blk_drew ?_ | refine blk_alloc ?_ _)); exact BK426.out) hb); have n2_ := Aside0.mk (blk_below (g := gb427) (o := .cells #[.int .i64 a2_0, .string a2_1] 79 (0, 0)) (by (with_reducible repeat (first | refine blk_drewN ?_ _ | refine blk_drew ?_ | refine blk_alloc ?_ _)); exact BK427.out) hb); have n3_ := Aside0.mk (below_step (by repeat (first | (with_reducible first | exact HB.out | apply below_alloc | apply pw_below_drewN | apply below_drew1 | refine below_set ?_ GE425.out | refine below_set ?_ GE426.out | refine below_set ?_ GE427.out) | exact HB.out)) hb); clear BK425; clear BK426; clear BK427; clear HB; have BK425 := n0_; have BK426 := n1_; have BK427 := n2_; have HB := n3_; clear n0_ n1_ n2_ n3_; (try clear hb); (try clear hb2); (try clear hk); (try clear hi)))
  (try simp only [Act.put, List.setIfInBounds_toArray, List.set_cons_zero, List.set_cons_succ])
  go_cut [41] (fun v41 wc => ∃ (kq : Nat) (x41_4 : Bool), v41 = .bool x41_4 ∧ Aside0 (assartlaw02_DiskPuts.j0 kq t428 x41_4 l0_0 l0_1 a1_0 a1_1 a2_0 a2_1 = some r) ∧ Aside0 (kq ≤ k) ∧ Aside0 (wc.heap[gb425]? = some (.cells #[(.slice A0_0 l0_0.length c0_0), (.slice A0_1 l0_1.length c0_1)] 63 (0, 0))) ∧ Aside0 (wc.heap[gb426]? = some (.cells #[.int .i64 a1_0, .string a1_1] 79 (0, 0))) ∧ Aside0 (wc.heap[gb427]? = some (.cells #[.int .i64 a2_0, .string a2_1] 79 (0, 0))) ∧ Aside0 (Below w.heap.size w wc))
  case first =>
    have H := HC5.out
    clear HC5
    replace H := Option.bind_eq_some_iff.mp H
    obtain ⟨t429, A100, H⟩ := H
    replace H : (if t429 = true then ((assartref02_Right.f k l0_0 l0_1).bind fun t430 => (if t430 = true then (if (a1_1.size : Int) > 100 then (assartlaw02_DiskPuts.j0 k t428 true l0_0 l0_1 a1_0 a1_1 a2_0 a2_1) else (assartlaw02_DiskPuts.j0 k t428 (decide ((a2_1.size : Int) > 100)) l0_0 l0_1 a1_0 a1_1 a2_0 a2_1)) else (assartlaw02_DiskPuts.j0 k t428 true l0_0 l0_1 a1_0 a1_1 a2_0 a2_1))) else (assartlaw02_DiskPuts.j0 k t428 true l0_0 l0_1 a1_0 a1_1 a2_0 a2_1)) = some r := H
    have A10 := Aside0.mk A100
    clear A100
    by_cases c11 : t429 = true
    · subst c11
      have H1 : ((assartref02_Right.f k l0_0 l0_1).bind fun t430 => (if t430 = true then (if (a1_1.size : Int) > 100 then (assartlaw02_DiskPuts.j0 k t428 true l0_0 l0_1 a1_0 a1_1 a2_0 a2_1) else (assartlaw02_DiskPuts.j0 k t428 (decide ((a2_1.size : Int) > 100)) l0_0 l0_1 a1_0 a1_1 a2_0 a2_1)) else (assartlaw02_DiskPuts.j0 k t428 true l0_0 l0_1 a1_0 a1_1 a2_0 a2_1))) = some r := by rw [if_pos rfl] at H; exact H
      clear H
      have H := H1
      clear H1
      replace H := Option.bind_eq_some_iff.mp H
      obtain ⟨t430, A120, H⟩ := H
      replace H : (if t430 = true then (if (a1_1.size : Int) > 100 then (assartlaw02_DiskPuts.j0 k t428 true l0_0 l0_1 a1_0 a1_1 a2_0 a2_1) else (assartlaw02_DiskPuts.j0 k t428 (decide ((a2_1.size : Int) > 100)) l0_0 l0_1 a1_0 a1_1 a2_0 a2_1)) else (assartlaw02_DiskPuts.j0 k t428 true l0_0 l0_1 a1_0 a1_1 a2_0 a2_1)) = some r := H
      have A12 := Aside0.mk A120
      clear A120
      by_cases c13 : t430 = true
      · subst c13
        have H1 : (if (a1_1.size : Int) > 100 then (assartlaw02_DiskPuts.j0 k t428 true l0_0 l0_1 a1_0 a1_1 a2_0 a2_1) else (assartlaw02_DiskPuts.j0 k t428 (decide ((a2_1.size : Int) > 100)) l0_0 l0_1 a1_0 a1_1 a2_0 a2_1)) = some r := by rw [if_pos rfl] at H; exact H
        clear H
        have H := H1
        clear H1
        by_cases c14 : (a1_1.size : Int) > 100
        · rw [if_pos c14] at H
          have c14b0 : decide (100 < (a1_1.size : Int)) = true := decide_eq_true c14
          have c14b1 : decide (100 < a1_1.size) = true := decide_eq_true (by omega)
          clear c14
          (first | rw [c14b0] | (simp only [i64_w, i32_w]; rw [c14b0]) | skip)
          have H' := Aside0.mk H
          clear H
          have hnb15 := NB425_426.out
          have hnc15 := NB426_425.out
          have hnb16 := NB425_427.out
          have hnc16 := NB427_425.out
          have hcz17_0 : w9.cell? ⟨gb425, 0, none⟩ = some (.slice A0_0 l0_0.length c0_0) := (blk_cell BK425.out 0).trans rfl
          have hcz17_1 : w9.cell? ⟨gb425, 1, none⟩ = some (.slice A0_1 l0_1.length c0_1) := (blk_cell BK425.out 1).trans rfl
          have hfz17_0 := blk_frozen BK425.out 0
          have hfz17_1 := blk_frozen BK425.out 1
          go_wp2_with (first | ((with_reducible refine gate_callee (f := 34) rfl ?_); refine goesL_ (some 23) rfl rfl Try.func34 (by kernel_rfl) rfl #[.agg #[.slice A0_0 l0_0.length c0_0, .slice A0_1 l0_1.length c0_1], .int .i64 60] rfl (by (try simp only [List.map_toArray, List.map_cons, List.map_nil]); first | done | rfl | (simp only [List.length_drop, List.length_take]; rfl)) ?_; (with_reducible refine (assartref02_Small.calls k _ _ l0_0 _ _ l0_1 60 true _ ?side1 ?side2 ?side3 ?side4 A10.out).mono ?_); (case side1 => repeat (first | exact (Kd.C_below HR0_0.out HB.out) | (with_reducible refine Kd.C_alloc ?_ _) | (with_reducible refine Kd.C_drewN ?_ _) | (with_reducible refine Kd.C_drew ?_))); (case side2 => exact HC0_0.out); (case side3 => repeat (first | exact (Kd.C_below HR0_1.out HB.out) | (with_reducible refine Kd.C_alloc ?_ _) | (with_reducible refine Kd.C_drewN ?_ _) | (with_reducible refine Kd.C_drew ?_))); (case side4 => exact HC0_1.out); rintro e w18 ⟨rfl, hb⟩; refine ⟨_, rfl, ?_⟩; have n0_ := Aside0.mk (blk_below (g := gb425) (o := .cells #[.slice A0_0 l0_0.length c0_0, .slice A0_1 l0_1.length c0_1] 63 (0, 0)) (by (with_reducible repeat (first | refine blk_drewN ?_ _ | refine blk_drew ?_ | refine blk_alloc ?_ _)); exact BK425.out) hb); have n1_ := Aside0.mk (blk_below (g := gb426) (o := .cells #[.int .i64 a1_0, .string a1_1] 79 (0, 0)) (by (with_reducible repeat (first | refine blk_drewN ?_ _ | refine blk_drew ?_ | refine blk_alloc ?_ _)); exact BK426.out) hb); have n2_ := Aside0.mk (blk_below (g := gb427) (o := .cells #[.int .i64 a2_0, .string a2_1] 79 (0, 0)) (by (with_reducible repeat (first | refine blk_drewN ?_ _ | refine blk_drew ?_ | refine blk_alloc ?_ _)); exact BK427.out) hb); have n3_ := Aside0.mk (below_step (by repeat (first | (with_reducible first | exact HB.out | apply below_alloc | apply pw_below_drewN | apply below_drew1 | refine below_set ?_ GE425.out | refine below_set ?_ GE426.out | refine below_set ?_ GE427.out) | exact HB.out)) hb); clear BK425; clear BK426; clear BK427; clear HB; have BK425 := n0_; have BK426 := n1_; have BK427 := n2_; have HB := n3_; clear n0_ n1_ n2_ n3_; (try clear hb); (try clear hb2); (try clear hk); (try clear hi); have hcz19_0 : w18.cell? ⟨gb425, 0, none⟩ = some (.slice A0_0 l0_0.length c0_0) := (blk_cell BK425.out 0).trans rfl; have hcz19_1 : w18.cell? ⟨gb425, 1, none⟩ = some (.slice A0_1 l0_1.length c0_1) := (blk_cell BK425.out 1).trans rfl; have hfz19_0 := blk_frozen BK425.out 0; have hfz19_1 := blk_frozen BK425.out 1) | (go_at_call 37; (with_reducible refine (assartref02_Right.calls k _ _ l0_0 _ _ l0_1 true _ ?side1 ?side2 ?side3 ?side4 A12.out).mono ?_); (case side1 => repeat (first | exact (Kd.C_below HR0_0.out HB.out) | (with_reducible refine Kd.C_alloc ?_ _) | (with_reducible refine Kd.C_drewN ?_ _) | (with_reducible refine Kd.C_drew ?_))); (case side2 => exact HC0_0.out); (case side3 => repeat (first | exact (Kd.C_below HR0_1.out HB.out) | (with_reducible refine Kd.C_alloc ?_ _) | (with_reducible refine Kd.C_drewN ?_ _) | (with_reducible refine Kd.C_drew ?_))); (case side4 => exact HC0_1.out); rintro e w20 ⟨rfl, hb⟩; have n0_ := Aside0.mk (blk_below (g := gb425) (o := .cells #[.slice A0_0 l0_0.length c0_0, .slice A0_1 l0_1.length c0_1] 63 (0, 0)) (by (with_reducible repeat (first | refine blk_drewN ?_ _ | refine blk_drew ?_ | refine blk_alloc ?_ _)); exact BK425.out) hb); have n1_ := Aside0.mk (blk_below (g := gb426) (o := .cells #[.int .i64 a1_0, .string a1_1] 79 (0, 0)) (by (with_reducible repeat (first | refine blk_drewN ?_ _ | refine blk_drew ?_ | refine blk_alloc ?_ _)); exact BK426.out) hb); have n2_ := Aside0.mk (blk_below (g := gb427) (o := .cells #[.int .i64 a2_0, .string a2_1] 79 (0, 0)) (by (with_reducible repeat (first | refine blk_drewN ?_ _ | refine blk_drew ?_ | refine blk_alloc ?_ _)); exact BK427.out) hb); have n3_ := Aside0.mk (below_step (by repeat (first | (with_reducible first | exact HB.out | apply below_alloc | apply pw_below_drewN | apply below_drew1 | refine below_set ?_ GE425.out | refine below_set ?_ GE426.out | refine below_set ?_ GE427.out) | exact HB.out)) hb); clear BK425; clear BK426; clear BK427; clear HB; have BK425 := n0_; have BK426 := n1_; have BK427 := n2_; have HB := n3_; clear n0_ n1_ n2_ n3_; (try clear hb); (try clear hb2); (try clear hk); (try clear hi); have hnb21 := NB426_427.out; have hnc21 := NB427_426.out; have hcz22_0 : w20.cell? ⟨gb426, 0, none⟩ = some (.int .i64 a1_0) := (blk_cell BK426.out 0).trans rfl; have hcz22_1 : w20.cell? ⟨gb426, 1, none⟩ = some (.string a1_1) := (blk_cell BK426.out 1).trans rfl; have hfz22_0 := blk_frozen BK426.out 0; have hfz22_1 := blk_frozen BK426.out 1))
          go_meet
          case rel => exact ⟨_, (true), (by first | rfl | (simp; done) | (simp [*]; done)), H', ⟨by first | omega | exact Nat.le_refl _⟩, ⟨by (with_reducible repeat (first | refine blk_drewN ?_ _ | refine blk_drew ?_ | refine blk_alloc ?_ _)); exact BK425.out⟩, ⟨by (with_reducible repeat (first | refine blk_drewN ?_ _ | refine blk_drew ?_ | refine blk_alloc ?_ _)); exact BK426.out⟩, ⟨by (with_reducible repeat (first | refine blk_drewN ?_ _ | refine blk_drew ?_ | refine blk_alloc ?_ _)); exact BK427.out⟩, ⟨by repeat (first | (with_reducible first | exact HB.out | apply below_alloc | apply pw_below_drewN | apply below_drew1 | refine below_set ?_ GE425.out | refine below_set ?_ GE426.out | refine below_set ?_ GE427.out) | exact HB.out)⟩⟩
        · rw [if_neg c14] at H
          have c14b0 : decide (100 < (a1_1.size : Int)) = false := decide_eq_false c14
          have c14b1 : decide (100 < a1_1.size) = false := decide_eq_false (by omega)
          clear c14
          (first | rw [c14b0] | (simp only [i64_w, i32_w]; rw [c14b0]) | skip)
          have H' := Aside0.mk H
          clear H
          have hnb23 := NB425_426.out
          have hnc23 := NB426_425.out
          have hnb24 := NB425_427.out
          have hnc24 := NB427_425.out
          have hcz25_0 : w9.cell? ⟨gb425, 0, none⟩ = some (.slice A0_0 l0_0.length c0_0) := (blk_cell BK425.out 0).trans rfl
          have hcz25_1 : w9.cell? ⟨gb425, 1, none⟩ = some (.slice A0_1 l0_1.length c0_1) := (blk_cell BK425.out 1).trans rfl
          have hfz25_0 := blk_frozen BK425.out 0
          have hfz25_1 := blk_frozen BK425.out 1
          go_wp2_with (first | ((with_reducible refine gate_callee (f := 34) rfl ?_); refine goesL_ (some 23) rfl rfl Try.func34 (by kernel_rfl) rfl #[.agg #[.slice A0_0 l0_0.length c0_0, .slice A0_1 l0_1.length c0_1], .int .i64 60] rfl (by (try simp only [List.map_toArray, List.map_cons, List.map_nil]); first | done | rfl | (simp only [List.length_drop, List.length_take]; rfl)) ?_; (with_reducible refine (assartref02_Small.calls k _ _ l0_0 _ _ l0_1 60 true _ ?side1 ?side2 ?side3 ?side4 A10.out).mono ?_); (case side1 => repeat (first | exact (Kd.C_below HR0_0.out HB.out) | (with_reducible refine Kd.C_alloc ?_ _) | (with_reducible refine Kd.C_drewN ?_ _) | (with_reducible refine Kd.C_drew ?_))); (case side2 => exact HC0_0.out); (case side3 => repeat (first | exact (Kd.C_below HR0_1.out HB.out) | (with_reducible refine Kd.C_alloc ?_ _) | (with_reducible refine Kd.C_drewN ?_ _) | (with_reducible refine Kd.C_drew ?_))); (case side4 => exact HC0_1.out); rintro e w26 ⟨rfl, hb⟩; refine ⟨_, rfl, ?_⟩; have n0_ := Aside0.mk (blk_below (g := gb425) (o := .cells #[.slice A0_0 l0_0.length c0_0, .slice A0_1 l0_1.length c0_1] 63 (0, 0)) (by (with_reducible repeat (first | refine blk_drewN ?_ _ | refine blk_drew ?_ | refine blk_alloc ?_ _)); exact BK425.out) hb); have n1_ := Aside0.mk (blk_below (g := gb426) (o := .cells #[.int .i64 a1_0, .string a1_1] 79 (0, 0)) (by (with_reducible repeat (first | refine blk_drewN ?_ _ | refine blk_drew ?_ | refine blk_alloc ?_ _)); exact BK426.out) hb); have n2_ := Aside0.mk (blk_below (g := gb427) (o := .cells #[.int .i64 a2_0, .string a2_1] 79 (0, 0)) (by (with_reducible repeat (first | refine blk_drewN ?_ _ | refine blk_drew ?_ | refine blk_alloc ?_ _)); exact BK427.out) hb); have n3_ := Aside0.mk (below_step (by repeat (first | (with_reducible first | exact HB.out | apply below_alloc | apply pw_below_drewN | apply below_drew1 | refine below_set ?_ GE425.out | refine below_set ?_ GE426.out | refine below_set ?_ GE427.out) | exact HB.out)) hb); clear BK425; clear BK426; clear BK427; clear HB; have BK425 := n0_; have BK426 := n1_; have BK427 := n2_; have HB := n3_; clear n0_ n1_ n2_ n3_; (try clear hb); (try clear hb2); (try clear hk); (try clear hi); have hcz27_0 : w26.cell? ⟨gb425, 0, none⟩ = some (.slice A0_0 l0_0.length c0_0) := (blk_cell BK425.out 0).trans rfl; have hcz27_1 : w26.cell? ⟨gb425, 1, none⟩ = some (.slice A0_1 l0_1.length c0_1) := (blk_cell BK425.out 1).trans rfl; have hfz27_0 := blk_frozen BK425.out 0; have hfz27_1 := blk_frozen BK425.out 1) | (go_at_call 37; (with_reducible refine (assartref02_Right.calls k _ _ l0_0 _ _ l0_1 true _ ?side1 ?side2 ?side3 ?side4 A12.out).mono ?_); (case side1 => repeat (first | exact (Kd.C_below HR0_0.out HB.out) | (with_reducible refine Kd.C_alloc ?_ _) | (with_reducible refine Kd.C_drewN ?_ _) | (with_reducible refine Kd.C_drew ?_))); (case side2 => exact HC0_0.out); (case side3 => repeat (first | exact (Kd.C_below HR0_1.out HB.out) | (with_reducible refine Kd.C_alloc ?_ _) | (with_reducible refine Kd.C_drewN ?_ _) | (with_reducible refine Kd.C_drew ?_))); (case side4 => exact HC0_1.out); rintro e w28 ⟨rfl, hb⟩; have n0_ := Aside0.mk (blk_below (g := gb425) (o := .cells #[.slice A0_0 l0_0.length c0_0, .slice A0_1 l0_1.length c0_1] 63 (0, 0)) (by (with_reducible repeat (first | refine blk_drewN ?_ _ | refine blk_drew ?_ | refine blk_alloc ?_ _)); exact BK425.out) hb); have n1_ := Aside0.mk (blk_below (g := gb426) (o := .cells #[.int .i64 a1_0, .string a1_1] 79 (0, 0)) (by (with_reducible repeat (first | refine blk_drewN ?_ _ | refine blk_drew ?_ | refine blk_alloc ?_ _)); exact BK426.out) hb); have n2_ := Aside0.mk (blk_below (g := gb427) (o := .cells #[.int .i64 a2_0, .string a2_1] 79 (0, 0)) (by (with_reducible repeat (first | refine blk_drewN ?_ _ | refine blk_drew ?_ | refine blk_alloc ?_ _)); exact BK427.out) hb); have n3_ := Aside0.mk (below_step (by repeat (first | (with_reducible first | exact HB.out | apply below_alloc | apply pw_below_drewN | apply below_drew1 | refine below_set ?_ GE425.out | refine below_set ?_ GE426.out | refine below_set ?_ GE427.out) | exact HB.out)) hb); clear BK425; clear BK426; clear BK427; clear HB; have BK425 := n0_; have BK426 := n1_; have BK427 := n2_; have HB := n3_; clear n0_ n1_ n2_ n3_; (try clear hb); (try clear hb2); (try clear hk); (try clear hi); have hnb29 := NB426_427.out; have hnc29 := NB427_426.out; have hcz30_0 : w28.cell? ⟨gb426, 0, none⟩ = some (.int .i64 a1_0) := (blk_cell BK426.out 0).trans rfl; have hcz30_1 : w28.cell? ⟨gb426, 1, none⟩ = some (.string a1_1) := (blk_cell BK426.out 1).trans rfl; have hfz30_0 := blk_frozen BK426.out 0; have hfz30_1 := blk_frozen BK426.out 1; have hcz31_0 : w28.cell? ⟨gb427, 0, none⟩ = some (.int .i64 a2_0) := (blk_cell BK427.out 0).trans rfl; have hcz31_1 : w28.cell? ⟨gb427, 1, none⟩ = some (.string a2_1) := (blk_cell BK427.out 1).trans rfl; have hfz31_0 := blk_frozen BK427.out 0; have hfz31_1 := blk_frozen BK427.out 1))
          go_meet
          case rel => exact ⟨_, (decide ((a2_1.size : Int) > 100)), (by first | rfl | (simp; done) | (simp [*]; done)), H', ⟨by first | omega | exact Nat.le_refl _⟩, ⟨by (with_reducible repeat (first | refine blk_drewN ?_ _ | refine blk_drew ?_ | refine blk_alloc ?_ _)); exact BK425.out⟩, ⟨by (with_reducible repeat (first | refine blk_drewN ?_ _ | refine blk_drew ?_ | refine blk_alloc ?_ _)); exact BK426.out⟩, ⟨by (with_reducible repeat (first | refine blk_drewN ?_ _ | refine blk_drew ?_ | refine blk_alloc ?_ _)); exact BK427.out⟩, ⟨by repeat (first | (with_reducible first | exact HB.out | apply below_alloc | apply pw_below_drewN | apply below_drew1 | refine below_set ?_ GE425.out | refine below_set ?_ GE426.out | refine below_set ?_ GE427.out) | exact HB.out)⟩⟩
      · replace c13 := Bool.eq_false_iff.mpr c13
        subst c13
        have H1 : (assartlaw02_DiskPuts.j0 k t428 true l0_0 l0_1 a1_0 a1_1 a2_0 a2_1) = some r := by rw [if_neg (show ¬ (false = true) by decide)] at H; exact H
        clear H
        have H := H1
        clear H1
        have H' := Aside0.mk H
        clear H
        have hnb32 := NB425_426.out
        have hnc32 := NB426_425.out
        have hnb33 := NB425_427.out
        have hnc33 := NB427_425.out
        have hcz34_0 : w9.cell? ⟨gb425, 0, none⟩ = some (.slice A0_0 l0_0.length c0_0) := (blk_cell BK425.out 0).trans rfl
        have hcz34_1 : w9.cell? ⟨gb425, 1, none⟩ = some (.slice A0_1 l0_1.length c0_1) := (blk_cell BK425.out 1).trans rfl
        have hfz34_0 := blk_frozen BK425.out 0
        have hfz34_1 := blk_frozen BK425.out 1
        go_wp2_with (first | ((with_reducible refine gate_callee (f := 34) rfl ?_); refine goesL_ (some 23) rfl rfl Try.func34 (by kernel_rfl) rfl #[.agg #[.slice A0_0 l0_0.length c0_0, .slice A0_1 l0_1.length c0_1], .int .i64 60] rfl (by (try simp only [List.map_toArray, List.map_cons, List.map_nil]); first | done | rfl | (simp only [List.length_drop, List.length_take]; rfl)) ?_; (with_reducible refine (assartref02_Small.calls k _ _ l0_0 _ _ l0_1 60 true _ ?side1 ?side2 ?side3 ?side4 A10.out).mono ?_); (case side1 => repeat (first | exact (Kd.C_below HR0_0.out HB.out) | (with_reducible refine Kd.C_alloc ?_ _) | (with_reducible refine Kd.C_drewN ?_ _) | (with_reducible refine Kd.C_drew ?_))); (case side2 => exact HC0_0.out); (case side3 => repeat (first | exact (Kd.C_below HR0_1.out HB.out) | (with_reducible refine Kd.C_alloc ?_ _) | (with_reducible refine Kd.C_drewN ?_ _) | (with_reducible refine Kd.C_drew ?_))); (case side4 => exact HC0_1.out); rintro e w35 ⟨rfl, hb⟩; refine ⟨_, rfl, ?_⟩; have n0_ := Aside0.mk (blk_below (g := gb425) (o := .cells #[.slice A0_0 l0_0.length c0_0, .slice A0_1 l0_1.length c0_1] 63 (0, 0)) (by (with_reducible repeat (first | refine blk_drewN ?_ _ | refine blk_drew ?_ | refine blk_alloc ?_ _)); exact BK425.out) hb); have n1_ := Aside0.mk (blk_below (g := gb426) (o := .cells #[.int .i64 a1_0, .string a1_1] 79 (0, 0)) (by (with_reducible repeat (first | refine blk_drewN ?_ _ | refine blk_drew ?_ | refine blk_alloc ?_ _)); exact BK426.out) hb); have n2_ := Aside0.mk (blk_below (g := gb427) (o := .cells #[.int .i64 a2_0, .string a2_1] 79 (0, 0)) (by (with_reducible repeat (first | refine blk_drewN ?_ _ | refine blk_drew ?_ | refine blk_alloc ?_ _)); exact BK427.out) hb); have n3_ := Aside0.mk (below_step (by repeat (first | (with_reducible first | exact HB.out | apply below_alloc | apply pw_below_drewN | apply below_drew1 | refine below_set ?_ GE425.out | refine below_set ?_ GE426.out | refine below_set ?_ GE427.out) | exact HB.out)) hb); clear BK425; clear BK426; clear BK427; clear HB; have BK425 := n0_; have BK426 := n1_; have BK427 := n2_; have HB := n3_; clear n0_ n1_ n2_ n3_; (try clear hb); (try clear hb2); (try clear hk); (try clear hi); have hcz36_0 : w35.cell? ⟨gb425, 0, none⟩ = some (.slice A0_0 l0_0.length c0_0) := (blk_cell BK425.out 0).trans rfl; have hcz36_1 : w35.cell? ⟨gb425, 1, none⟩ = some (.slice A0_1 l0_1.length c0_1) := (blk_cell BK425.out 1).trans rfl; have hfz36_0 := blk_frozen BK425.out 0; have hfz36_1 := blk_frozen BK425.out 1) | (go_at_call 37; (with_reducible refine (assartref02_Right.calls k _ _ l0_0 _ _ l0_1 false _ ?side1 ?side2 ?side3 ?side4 A12.out).mono ?_); (case side1 => repeat (first | exact (Kd.C_below HR0_0.out HB.out) | (with_reducible refine Kd.C_alloc ?_ _) | (with_reducible refine Kd.C_drewN ?_ _) | (with_reducible refine Kd.C_drew ?_))); (case side2 => exact HC0_0.out); (case side3 => repeat (first | exact (Kd.C_below HR0_1.out HB.out) | (with_reducible refine Kd.C_alloc ?_ _) | (with_reducible refine Kd.C_drewN ?_ _) | (with_reducible refine Kd.C_drew ?_))); (case side4 => exact HC0_1.out); rintro e w37 ⟨rfl, hb⟩; have n0_ := Aside0.mk (blk_below (g := gb425) (o := .cells #[.slice A0_0 l0_0.length c0_0, .slice A0_1 l0_1.length c0_1] 63 (0, 0)) (by (with_reducible repeat (first | refine blk_drewN ?_ _ | refine blk_drew ?_ | refine blk_alloc ?_ _)); exact BK425.out) hb); have n1_ := Aside0.mk (blk_below (g := gb426) (o := .cells #[.int .i64 a1_0, .string a1_1] 79 (0, 0)) (by (with_reducible repeat (first | refine blk_drewN ?_ _ | refine blk_drew ?_ | refine blk_alloc ?_ _)); exact BK426.out) hb); have n2_ := Aside0.mk (blk_below (g := gb427) (o := .cells #[.int .i64 a2_0, .string a2_1] 79 (0, 0)) (by (with_reducible repeat (first | refine blk_drewN ?_ _ | refine blk_drew ?_ | refine blk_alloc ?_ _)); exact BK427.out) hb); have n3_ := Aside0.mk (below_step (by repeat (first | (with_reducible first | exact HB.out | apply below_alloc | apply pw_below_drewN | apply below_drew1 | refine below_set ?_ GE425.out | refine below_set ?_ GE426.out | refine below_set ?_ GE427.out) | exact HB.out)) hb); clear BK425; clear BK426; clear BK427; clear HB; have BK425 := n0_; have BK426 := n1_; have BK427 := n2_; have HB := n3_; clear n0_ n1_ n2_ n3_; (try clear hb); (try clear hb2); (try clear hk); (try clear hi)))
        go_meet
        case rel => exact ⟨_, (true), (by first | rfl | (simp; done) | (simp [*]; done)), H', ⟨by first | omega | exact Nat.le_refl _⟩, ⟨by (with_reducible repeat (first | refine blk_drewN ?_ _ | refine blk_drew ?_ | refine blk_alloc ?_ _)); exact BK425.out⟩, ⟨by (with_reducible repeat (first | refine blk_drewN ?_ _ | refine blk_drew ?_ | refine blk_alloc ?_ _)); exact BK426.out⟩, ⟨by (with_reducible repeat (first | refine blk_drewN ?_ _ | refine blk_drew ?_ | refine blk_alloc ?_ _)); exact BK427.out⟩, ⟨by repeat (first | (with_reducible first | exact HB.out | apply below_alloc | apply pw_below_drewN | apply below_drew1 | refine below_set ?_ GE425.out | refine below_set ?_ GE426.out | refine below_set ?_ GE427.out) | exact HB.out)⟩⟩
    · replace c11 := Bool.eq_false_iff.mpr c11
      subst c11
      have H1 : (assartlaw02_DiskPuts.j0 k t428 true l0_0 l0_1 a1_0 a1_1 a2_0 a2_1) = some r := by rw [if_neg (show ¬ (false = true) by decide)] at H; exact H
      clear H
      have H := H1
      clear H1
      have H' := Aside0.mk H
      clear H
      have hnb38 := NB425_426.out
      have hnc38 := NB426_425.out
      have hnb39 := NB425_427.out
      have hnc39 := NB427_425.out
      have hcz40_0 : w9.cell? ⟨gb425, 0, none⟩ = some (.slice A0_0 l0_0.length c0_0) := (blk_cell BK425.out 0).trans rfl
      have hcz40_1 : w9.cell? ⟨gb425, 1, none⟩ = some (.slice A0_1 l0_1.length c0_1) := (blk_cell BK425.out 1).trans rfl
      have hfz40_0 := blk_frozen BK425.out 0
      have hfz40_1 := blk_frozen BK425.out 1
      go_wp2_with (first | ((with_reducible refine gate_callee (f := 34) rfl ?_); refine goesL_ (some 23) rfl rfl Try.func34 (by kernel_rfl) rfl #[.agg #[.slice A0_0 l0_0.length c0_0, .slice A0_1 l0_1.length c0_1], .int .i64 60] rfl (by (try simp only [List.map_toArray, List.map_cons, List.map_nil]); first | done | rfl | (simp only [List.length_drop, List.length_take]; rfl)) ?_; (with_reducible refine (assartref02_Small.calls k _ _ l0_0 _ _ l0_1 60 false _ ?side1 ?side2 ?side3 ?side4 A10.out).mono ?_); (case side1 => repeat (first | exact (Kd.C_below HR0_0.out HB.out) | (with_reducible refine Kd.C_alloc ?_ _) | (with_reducible refine Kd.C_drewN ?_ _) | (with_reducible refine Kd.C_drew ?_))); (case side2 => exact HC0_0.out); (case side3 => repeat (first | exact (Kd.C_below HR0_1.out HB.out) | (with_reducible refine Kd.C_alloc ?_ _) | (with_reducible refine Kd.C_drewN ?_ _) | (with_reducible refine Kd.C_drew ?_))); (case side4 => exact HC0_1.out); rintro e w41 ⟨rfl, hb⟩; refine ⟨_, rfl, ?_⟩; have n0_ := Aside0.mk (blk_below (g := gb425) (o := .cells #[.slice A0_0 l0_0.length c0_0, .slice A0_1 l0_1.length c0_1] 63 (0, 0)) (by (with_reducible repeat (first | refine blk_drewN ?_ _ | refine blk_drew ?_ | refine blk_alloc ?_ _)); exact BK425.out) hb); have n1_ := Aside0.mk (blk_below (g := gb426) (o := .cells #[.int .i64 a1_0, .string a1_1] 79 (0, 0)) (by (with_reducible repeat (first | refine blk_drewN ?_ _ | refine blk_drew ?_ | refine blk_alloc ?_ _)); exact BK426.out) hb); have n2_ := Aside0.mk (blk_below (g := gb427) (o := .cells #[.int .i64 a2_0, .string a2_1] 79 (0, 0)) (by (with_reducible repeat (first | refine blk_drewN ?_ _ | refine blk_drew ?_ | refine blk_alloc ?_ _)); exact BK427.out) hb); have n3_ := Aside0.mk (below_step (by repeat (first | (with_reducible first | exact HB.out | apply below_alloc | apply pw_below_drewN | apply below_drew1 | refine below_set ?_ GE425.out | refine below_set ?_ GE426.out | refine below_set ?_ GE427.out) | exact HB.out)) hb); clear BK425; clear BK426; clear BK427; clear HB; have BK425 := n0_; have BK426 := n1_; have BK427 := n2_; have HB := n3_; clear n0_ n1_ n2_ n3_; (try clear hb); (try clear hb2); (try clear hk); (try clear hi)))
      go_meet
      case rel => exact ⟨_, (true), (by first | rfl | (simp; done) | (simp [*]; done)), H', ⟨by first | omega | exact Nat.le_refl _⟩, ⟨by (with_reducible repeat (first | refine blk_drewN ?_ _ | refine blk_drew ?_ | refine blk_alloc ?_ _)); exact BK425.out⟩, ⟨by (with_reducible repeat (first | refine blk_drewN ?_ _ | refine blk_drew ?_ | refine blk_alloc ?_ _)); exact BK426.out⟩, ⟨by (with_reducible repeat (first | refine blk_drewN ?_ _ | refine blk_drew ?_ | refine blk_alloc ?_ _)); exact BK427.out⟩, ⟨by repeat (first | (with_reducible first | exact HB.out | apply below_alloc | apply pw_below_drewN | apply below_drew1 | refine below_set ?_ GE425.out | refine below_set ?_ GE426.out | refine below_set ?_ GE427.out) | exact HB.out)⟩⟩
  case rest =>
    clear HC5
    try clear c1
    try clear c2
    try clear p2
    try clear c3
    try clear c10
    try clear c11
    try clear c13
    try clear c14
    try clear c14b0
    try clear c14b1
    try clear c15
    try clear c16
    try clear c21
    try clear c23
    try clear c24
    try clear c29
    try clear c32
    try clear c33
    try clear c34
    try clear c38
    try clear c39
    try clear hcz17_0
    try clear hcz17_1
    try clear hcz19_0
    try clear hcz19_1
    try clear hcz22_0
    try clear hcz22_1
    try clear hcz25_0
    try clear hcz25_1
    try clear hcz27_0
    try clear hcz27_1
    try clear hcz30_0
    try clear hcz30_1
    try clear hcz31_0
    try clear hcz31_1
    try clear hcz34_0
    try clear hcz34_1
    try clear hcz36_0
    try clear hcz36_1
    try clear hcz40_0
    try clear hcz40_1
    try clear hfz17_0
    try clear hfz17_1
    try clear hfz19_0
    try clear hfz19_1
    try clear hfz22_0
    try clear hfz22_1
    try clear hfz25_0
    try clear hfz25_1
    try clear hfz27_0
    try clear hfz27_1
    try clear hfz30_0
    try clear hfz30_1
    try clear hfz31_0
    try clear hfz31_1
    try clear hfz34_0
    try clear hfz34_1
    try clear hfz36_0
    try clear hfz36_1
    try clear hfz40_0
    try clear hfz40_1
    obtain ⟨kq, x41_4, rfl, HA, HJ4, BK425, BK426, BK427, HB⟩ := hcut
    cases kq with
    | zero => exact absurd HA.out (by simp [assartlaw02_DiskPuts.j0])
    | succ kj4 =>
      have H := HA.out
      clear HA
      simp only [assartlaw02_DiskPuts.j0] at H
      by_cases c42 : x41_4 = true
      · subst c42
        have H1 : (some t428) = some r := by rw [if_pos rfl] at H; exact H
        clear H
        have H := H1
        clear H1
        obtain rfl := Option.some.inj H
        go_wp2
        go_ret
        exact ⟨by first | rfl | (simp [errW_none, errW_some] <;> rfl) | (simp [*, errW_none, errW_some] <;> rfl), by repeat (first | (with_reducible first | exact HB.out | apply below_alloc | apply pw_below_drewN | apply below_drew1 | refine below_set ?_ GE425.out | refine below_set ?_ GE426.out | refine below_set ?_ GE427.out) | exact HB.out)⟩
      · replace c42 := Bool.eq_false_iff.mpr c42
        subst c42
        have H1 : ((disk_Put.f l0_0 l0_1 a1_0 a1_1).bind fun bt431 => (if bt431.2.2 = 0 then (assartlaw02_DiskPuts.l0 kj4 t428 0 l0_0 l0_1 a1_0 a1_1 a2_0 a2_1 bt431.1 bt431.2.1) else (if t428 = true then (if bt431.2.2 = 1 then ((assartref02_Same.f kj4 bt431.1 bt431.2.1 l0_0 l0_1).bind fun t439 => (some t439)) else (none)) else (none)))) = some r := by rw [if_neg (show ¬ (false = true) by decide)] at H; exact H
        clear H
        have H := H1
        clear H1
        replace H := Option.bind_eq_some_iff.mp H
        obtain ⟨⟨t431, t434, t437⟩, A430, H⟩ := H
        replace H : (if t437 = 0 then (assartlaw02_DiskPuts.l0 kj4 t428 0 l0_0 l0_1 a1_0 a1_1 a2_0 a2_1 t431 t434) else (if t428 = true then (if t437 = 1 then ((assartref02_Same.f kj4 t431 t434 l0_0 l0_1).bind fun t439 => (some t439)) else (none)) else (none))) = some r := H
        have A43 := Aside0.mk A430
        clear A430
        by_cases c44 : t437 = 0
        · rw [if_pos c44] at H
          have c44b0 : (t437 == 0) = true := beq_iff_eq.mpr c44
          have c44b1 : (t437 != 0) = false := bne_eq_false_iff_eq.mpr c44
          clear c44
          have H' := Aside0.mk H
          clear H
          have hnb45 := NB425_426.out
          have hnc45 := NB426_425.out
          have hnb46 := NB425_427.out
          have hnc46 := NB427_425.out
          have hcz47_0 : wc.cell? ⟨gb425, 0, none⟩ = some (.slice A0_0 l0_0.length c0_0) := (blk_cell BK425.out 0).trans rfl
          have hcz47_1 : wc.cell? ⟨gb425, 1, none⟩ = some (.slice A0_1 l0_1.length c0_1) := (blk_cell BK425.out 1).trans rfl
          have hfz47_0 := blk_frozen BK425.out 0
          have hfz47_1 := blk_frozen BK425.out 1
          have hnb48 := NB426_427.out
          have hnc48 := NB427_426.out
          have hcz49_0 : wc.cell? ⟨gb426, 0, none⟩ = some (.int .i64 a1_0) := (blk_cell BK426.out 0).trans rfl
          have hcz49_1 : wc.cell? ⟨gb426, 1, none⟩ = some (.string a1_1) := (blk_cell BK426.out 1).trans rfl
          have hfz49_0 := blk_frozen BK426.out 0
          have hfz49_1 := blk_frozen BK426.out 1
          go_wp2_with (first | ((with_reducible refine gate_callee (f := 44) rfl ?_); refine goesL_ (some 49) rfl rfl Try.func44 (by kernel_rfl) rfl #[.agg #[.slice A0_0 l0_0.length c0_0, .slice A0_1 l0_1.length c0_1], .int .i64 a1_0, .string a1_1] rfl (by (try simp only [List.map_toArray, List.map_cons, List.map_nil]); first | done | rfl | (simp only [List.length_drop, List.length_take]; rfl)) ?_; (with_reducible refine (disk_Put.calls (fun k_ => k_ < w.heap.size) _ _ l0_0 (fun k_ => k_ < w.heap.size) _ _ l0_1 a1_0 a1_1 t431 t434 t437 _ ?side1 ?side2 A43.out).mono ?_); (case side1 => exact Kd.V_mk HC0_0.out (Kd.F_below (Kd.C_F Kd.heap_string HR0_0.out) (by repeat (first | (with_reducible first | exact HB.out | apply below_alloc | apply pw_below_drewN | apply below_drew1 | refine below_set ?_ GE425.out | refine below_set ?_ GE426.out | refine below_set ?_ GE427.out) | exact HB.out)))); (case side2 => exact Kd.V_mk HC0_1.out (Kd.F_below (Kd.C_F k79_heap HR0_1.out) (by repeat (first | (with_reducible first | exact HB.out | apply below_alloc | apply pw_below_drewN | apply below_drew1 | refine below_set ?_ GE425.out | refine below_set ?_ GE426.out | refine below_set ?_ GE427.out) | exact HB.out)))); rintro e w50 ⟨v432, v435, rfl, ho0, ho1, hb⟩; refine ⟨_, rfl, ?_⟩; have n0_ := Aside0.mk (Kd.V_lower (Kd.V_mono (ok' := fun k_ => k_ ≠ gb425 ∧ k_ ≠ gb426 ∧ k_ ≠ gb427) ho0 (fun k_ hk_ => ⟨Or.elim hk_ (fun hs_ => Or.elim hs_ (fun hs_ => fun e_ => Nat.not_le.2 hs_ (by rw [e_]; exact GW425.out)) (fun hs_ => fun e_ => Nat.not_le.2 hs_ (by rw [e_]; exact GW425.out))) (fun hn_ => (Kd.freshB (g := gb425) (o := .cells #[.slice A0_0 l0_0.length c0_0, .slice A0_1 l0_1.length c0_1] 63 (0, 0)) (by (with_reducible repeat (first | refine blk_drewN ?_ _ | refine blk_drew ?_ | refine blk_alloc ?_ _)); exact BK425.out) k_ hn_)), Or.elim hk_ (fun hs_ => Or.elim hs_ (fun hs_ => fun e_ => Nat.not_le.2 hs_ (by rw [e_]; exact GW426.out)) (fun hs_ => fun e_ => Nat.not_le.2 hs_ (by rw [e_]; exact GW426.out))) (fun hn_ => (Kd.freshB (g := gb426) (o := .cells #[.int .i64 a1_0, .string a1_1] 79 (0, 0)) (by (with_reducible repeat (first | refine blk_drewN ?_ _ | refine blk_drew ?_ | refine blk_alloc ?_ _)); exact BK426.out) k_ hn_)), Or.elim hk_ (fun hs_ => Or.elim hs_ (fun hs_ => fun e_ => Nat.not_le.2 hs_ (by rw [e_]; exact GW427.out)) (fun hs_ => fun e_ => Nat.not_le.2 hs_ (by rw [e_]; exact GW427.out))) (fun hn_ => (Kd.freshB (g := gb427) (o := .cells #[.int .i64 a2_0, .string a2_1] 79 (0, 0)) (by (with_reducible repeat (first | refine blk_drewN ?_ _ | refine blk_drew ?_ | refine blk_alloc ?_ _)); exact BK427.out) k_ hn_))⟩)) (below_size (by repeat (first | (with_reducible first | exact HB.out | apply below_alloc | apply pw_below_drewN | apply below_drew1 | refine below_set ?_ GE425.out | refine below_set ?_ GE426.out | refine below_set ?_ GE427.out) | exact HB.out)))); have n1_ := Aside0.mk (Kd.V_lower (Kd.V_mono (ok' := fun k_ => k_ ≠ gb425 ∧ k_ ≠ gb426 ∧ k_ ≠ gb427) ho1 (fun k_ hk_ => ⟨Or.elim hk_ (fun hs_ => Or.elim hs_ (fun hs_ => fun e_ => Nat.not_le.2 hs_ (by rw [e_]; exact GW425.out)) (fun hs_ => fun e_ => Nat.not_le.2 hs_ (by rw [e_]; exact GW425.out))) (fun hn_ => (Kd.freshB (g := gb425) (o := .cells #[.slice A0_0 l0_0.length c0_0, .slice A0_1 l0_1.length c0_1] 63 (0, 0)) (by (with_reducible repeat (first | refine blk_drewN ?_ _ | refine blk_drew ?_ | refine blk_alloc ?_ _)); exact BK425.out) k_ hn_)), Or.elim hk_ (fun hs_ => Or.elim hs_ (fun hs_ => fun e_ => Nat.not_le.2 hs_ (by rw [e_]; exact GW426.out)) (fun hs_ => fun e_ => Nat.not_le.2 hs_ (by rw [e_]; exact GW426.out))) (fun hn_ => (Kd.freshB (g := gb426) (o := .cells #[.int .i64 a1_0, .string a1_1] 79 (0, 0)) (by (with_reducible repeat (first | refine blk_drewN ?_ _ | refine blk_drew ?_ | refine blk_alloc ?_ _)); exact BK426.out) k_ hn_)), Or.elim hk_ (fun hs_ => Or.elim hs_ (fun hs_ => fun e_ => Nat.not_le.2 hs_ (by rw [e_]; exact GW427.out)) (fun hs_ => fun e_ => Nat.not_le.2 hs_ (by rw [e_]; exact GW427.out))) (fun hn_ => (Kd.freshB (g := gb427) (o := .cells #[.int .i64 a2_0, .string a2_1] 79 (0, 0)) (by (with_reducible repeat (first | refine blk_drewN ?_ _ | refine blk_drew ?_ | refine blk_alloc ?_ _)); exact BK427.out) k_ hn_))⟩)) (below_size (by repeat (first | (with_reducible first | exact HB.out | apply below_alloc | apply pw_below_drewN | apply below_drew1 | refine below_set ?_ GE425.out | refine below_set ?_ GE426.out | refine below_set ?_ GE427.out) | exact HB.out)))); have n2_ := Aside0.mk (blk_below (g := gb425) (o := .cells #[.slice A0_0 l0_0.length c0_0, .slice A0_1 l0_1.length c0_1] 63 (0, 0)) (by (with_reducible repeat (first | refine blk_drewN ?_ _ | refine blk_drew ?_ | refine blk_alloc ?_ _)); exact BK425.out) hb); have n3_ := Aside0.mk (blk_below (g := gb426) (o := .cells #[.int .i64 a1_0, .string a1_1] 79 (0, 0)) (by (with_reducible repeat (first | refine blk_drewN ?_ _ | refine blk_drew ?_ | refine blk_alloc ?_ _)); exact BK426.out) hb); have n4_ := Aside0.mk (blk_below (g := gb427) (o := .cells #[.int .i64 a2_0, .string a2_1] 79 (0, 0)) (by (with_reducible repeat (first | refine blk_drewN ?_ _ | refine blk_drew ?_ | refine blk_alloc ?_ _)); exact BK427.out) hb); have n5_ := Aside0.mk (below_step (by repeat (first | (with_reducible first | exact HB.out | apply below_alloc | apply pw_below_drewN | apply below_drew1 | refine below_set ?_ GE425.out | refine below_set ?_ GE426.out | refine below_set ?_ GE427.out) | exact HB.out)) hb); clear BK425; clear BK426; clear BK427; clear HB; have HO433 := n0_; have HO436 := n1_; have BK425 := n2_; have BK426 := n3_; have BK427 := n4_; have HB := n5_; clear n0_ n1_ n2_ n3_ n4_ n5_; (try clear hb); (try clear hb2); (try clear hk); (try clear hi); (try clear ho0); (try clear ho1)) | ((with_reducible refine gate_dst (N := 8) rfl ?_); (try (refine gate_guard (by rfl) ?_; dsimp only)); refine box_event ?hg (N := 8) ?hd (cs := #[.slice none 0 0, .slice none 0 0]) (t := 63) ?hr ?_; (case hd => rfl); (case hg => rfl); (case hr => first | (go_simp; done) | (go_simp; rfl)); intro gb438 hg w51 hbox hb; have n0_ := Aside0.mk (Kd.V_below (Kd.V_elderB (by (with_reducible repeat (first | apply Kd.V_alloc | apply Kd.V_drewN | apply Kd.V_drew)); exact HO433.out) gb438 (Nat.le_of_eq hg.symm)) hb); have n1_ := Aside0.mk (Kd.V_below (Kd.V_elderB (by (with_reducible repeat (first | apply Kd.V_alloc | apply Kd.V_drewN | apply Kd.V_drew)); exact HO436.out) gb438 (Nat.le_of_eq hg.symm)) hb); have n2_ := Aside0.mk (blk_below (g := gb425) (o := .cells #[.slice A0_0 l0_0.length c0_0, .slice A0_1 l0_1.length c0_1] 63 (0, 0)) (by (with_reducible repeat (first | refine blk_drewN ?_ _ | refine blk_drew ?_ | refine blk_alloc ?_ _)); exact BK425.out) hb); have n3_ := Aside0.mk (blk_below (g := gb426) (o := .cells #[.int .i64 a1_0, .string a1_1] 79 (0, 0)) (by (with_reducible repeat (first | refine blk_drewN ?_ _ | refine blk_drew ?_ | refine blk_alloc ?_ _)); exact BK426.out) hb); have n4_ := Aside0.mk (blk_below (g := gb427) (o := .cells #[.int .i64 a2_0, .string a2_1] 79 (0, 0)) (by (with_reducible repeat (first | refine blk_drewN ?_ _ | refine blk_drew ?_ | refine blk_alloc ?_ _)); exact BK427.out) hb); have n5_ := Aside0.mk (below_step (by repeat (first | (with_reducible first | exact HB.out | apply below_alloc | apply pw_below_drewN | apply below_drew1 | refine below_set ?_ GE425.out | refine below_set ?_ GE426.out | refine below_set ?_ GE427.out) | exact HB.out)) hb); have n6_ := Aside0.mk (hbox); have n7_ := Aside0.mk ((by rw [hg]; exact (below_size (by repeat (first | (with_reducible first | exact HB.out | apply below_alloc | apply pw_below_drewN | apply below_drew1 | refine below_set ?_ GE425.out | refine below_set ?_ GE426.out | refine below_set ?_ GE427.out) | exact HB.out))) : w.heap.size ≤ gb438)); have n8_ := Aside0.mk ((by rw [hg]; exact (below_size (by repeat (first | (with_reducible first | exact HB.out | apply below_alloc | apply pw_below_drewN | apply below_drew1 | refine below_set ?_ GE425.out | refine below_set ?_ GE426.out | refine below_set ?_ GE427.out) | exact HB.out))) : w.heap.size ≤ gb438)); have n9_ := Aside0.mk ((by rw [hg]; exact Nat.ne_of_lt (blk_lt (g := gb425) (o := .cells #[.slice A0_0 l0_0.length c0_0, .slice A0_1 l0_1.length c0_1] 63 (0, 0)) (by (with_reducible repeat (first | refine blk_drewN ?_ _ | refine blk_drew ?_ | refine blk_alloc ?_ _)); exact BK425.out)) : gb425 ≠ gb438)); have n10_ := Aside0.mk ((by rw [hg]; exact Nat.ne_of_gt (blk_lt (g := gb425) (o := .cells #[.slice A0_0 l0_0.length c0_0, .slice A0_1 l0_1.length c0_1] 63 (0, 0)) (by (with_reducible repeat (first | refine blk_drewN ?_ _ | refine blk_drew ?_ | refine blk_alloc ?_ _)); exact BK425.out)) : gb438 ≠ gb425)); have n11_ := Aside0.mk ((by rw [hg]; exact Nat.ne_of_lt (blk_lt (g := gb426) (o := .cells #[.int .i64 a1_0, .string a1_1] 79 (0, 0)) (by (with_reducible repeat (first | refine blk_drewN ?_ _ | refine blk_drew ?_ | refine blk_alloc ?_ _)); exact BK426.out)) : gb426 ≠ gb438)); have n12_ := Aside0.mk ((by rw [hg]; exact Nat.ne_of_gt (blk_lt (g := gb426) (o := .cells #[.int .i64 a1_0, .string a1_1] 79 (0, 0)) (by (with_reducible repeat (first | refine blk_drewN ?_ _ | refine blk_drew ?_ | refine blk_alloc ?_ _)); exact BK426.out)) : gb438 ≠ gb426)); have n13_ := Aside0.mk ((by rw [hg]; exact Nat.ne_of_lt (blk_lt (g := gb427) (o := .cells #[.int .i64 a2_0, .string a2_1] 79 (0, 0)) (by (with_reducible repeat (first | refine blk_drewN ?_ _ | refine blk_drew ?_ | refine blk_alloc ?_ _)); exact BK427.out)) : gb427 ≠ gb438)); have n14_ := Aside0.mk ((by rw [hg]; exact Nat.ne_of_gt (blk_lt (g := gb427) (o := .cells #[.int .i64 a2_0, .string a2_1] 79 (0, 0)) (by (with_reducible repeat (first | refine blk_drewN ?_ _ | refine blk_drew ?_ | refine blk_alloc ?_ _)); exact BK427.out)) : gb438 ≠ gb427)); clear HO433; clear HO436; clear BK425; clear BK426; clear BK427; clear HB; have HO433 := n0_; have HO436 := n1_; have BK425 := n2_; have BK426 := n3_; have BK427 := n4_; have HB := n5_; have BK438 := n6_; have GW438 := n7_; have GE438 := n8_; have NB425_438 := n9_; have NB438_425 := n10_; have NB426_438 := n11_; have NB438_426 := n12_; have NB427_438 := n13_; have NB438_427 := n14_; clear n0_ n1_ n2_ n3_ n4_ n5_ n6_ n7_ n8_ n9_ n10_ n11_ n12_ n13_ n14_; clear hb hbox hg; obtain ⟨Ao52, co52, eo52⟩ := Kd.V_slice HO433.out; subst eo52; have hnb53 := NB438_425.out; have hnc53 := NB425_438.out; have hnb54 := NB438_426.out; have hnc54 := NB426_438.out; have hnb55 := NB438_427.out; have hnc55 := NB427_438.out; have hcz56_0 : w51.cell? ⟨gb438, 0, none⟩ = some (.slice none 0 0) := (blk_cell BK438.out 0).trans rfl; have hcz56_1 : w51.cell? ⟨gb438, 1, none⟩ = some (.slice none 0 0) := (blk_cell BK438.out 1).trans rfl; have hfz56_0 := blk_frozen BK438.out 0; have hfz56_1 := blk_frozen BK438.out 1; obtain ⟨Ao57, co57, eo57⟩ := Kd.V_slice HO436.out; subst eo57))
          go_loopg [10] kj4 (fun kq v10 w' => ∃ (x10_2 : Int), v10 = .int .i64 x10_2 ∧ Aside0 (assartlaw02_DiskPuts.l0 kq t428 x10_2 l0_0 l0_1 a1_0 a1_1 a2_0 a2_1 t431 t434 = some r) ∧ Aside0 (kq ≤ kj4) ∧ Aside0 (Kd.V Kd.string 9 w' w.heap.size (fun k_ => k_ ≠ gb425 ∧ k_ ≠ gb426 ∧ k_ ≠ gb427 ∧ k_ ≠ gb438) (.slice Ao52 t431.length co52) t431) ∧ Aside0 (Kd.V k79 79 w' w.heap.size (fun k_ => k_ ≠ gb425 ∧ k_ ≠ gb426 ∧ k_ ≠ gb427 ∧ k_ ≠ gb438) (.slice Ao57 t434.length co57) t434) ∧ Aside0 (w'.heap[gb425]? = some (.cells #[(.slice A0_0 l0_0.length c0_0), (.slice A0_1 l0_1.length c0_1)] 63 (0, 0))) ∧ Aside0 (w'.heap[gb426]? = some (.cells #[.int .i64 a1_0, .string a1_1] 79 (0, 0))) ∧ Aside0 (w'.heap[gb427]? = some (.cells #[.int .i64 a2_0, .string a2_1] 79 (0, 0))) ∧ Aside0 (w'.heap[gb438]? = some (.cells #[(.slice Ao52 t431.length co52), (.slice Ao57 t434.length co57)] 63 (0, 0))) ∧ Aside0 (Below w.heap.size w w'))
          case atStart => exact ⟨(0), (by first | rfl | (simp; done) | (simp [*]; done)), H', ⟨Nat.le_refl _⟩, ⟨by (with_reducible repeat (first | apply Kd.V_alloc | apply Kd.V_drewN | apply Kd.V_drew)); exact Kd.V_mono (Kd.V_far (p := ⟨gb438, 1, none⟩) (Kd.V_far (p := ⟨gb438, 0, none⟩) (Kd.V_mono HO433.out (fun k_ hk => (⟨hk, hk.2⟩ : _ ∧ k_ ≠ gb438))) (fun _ hk => hk.2) (.slice Ao52 t431.length co52)) (fun _ hk => hk.2) (.slice Ao57 t434.length co57)) (fun _ hk => ⟨hk.1.1.1, ⟨hk.1.1.2.1, ⟨hk.1.1.2.2, hk.1.2⟩⟩⟩)⟩, ⟨by (with_reducible repeat (first | apply Kd.V_alloc | apply Kd.V_drewN | apply Kd.V_drew)); exact Kd.V_mono (Kd.V_far (p := ⟨gb438, 1, none⟩) (Kd.V_far (p := ⟨gb438, 0, none⟩) (Kd.V_mono HO436.out (fun k_ hk => (⟨hk, hk.2⟩ : _ ∧ k_ ≠ gb438))) (fun _ hk => hk.2) (.slice Ao52 t431.length co52)) (fun _ hk => hk.2) (.slice Ao57 t434.length co57)) (fun _ hk => ⟨hk.1.1.1, ⟨hk.1.1.2.1, ⟨hk.1.1.2.2, hk.1.2⟩⟩⟩)⟩, ⟨by (with_reducible repeat (first | refine blk_drewN ?_ _ | refine blk_drew ?_ | refine blk_alloc ?_ _)); refine blk_far ?_ NB425_438.out _; (with_reducible repeat (first | refine blk_drewN ?_ _ | refine blk_drew ?_ | refine blk_alloc ?_ _)); refine blk_far ?_ NB425_438.out _; (with_reducible repeat (first | refine blk_drewN ?_ _ | refine blk_drew ?_ | refine blk_alloc ?_ _)); exact BK425.out⟩, ⟨by (with_reducible repeat (first | refine blk_drewN ?_ _ | refine blk_drew ?_ | refine blk_alloc ?_ _)); refine blk_far ?_ NB426_438.out _; (with_reducible repeat (first | refine blk_drewN ?_ _ | refine blk_drew ?_ | refine blk_alloc ?_ _)); refine blk_far ?_ NB426_438.out _; (with_reducible repeat (first | refine blk_drewN ?_ _ | refine blk_drew ?_ | refine blk_alloc ?_ _)); exact BK426.out⟩, ⟨by (with_reducible repeat (first | refine blk_drewN ?_ _ | refine blk_drew ?_ | refine blk_alloc ?_ _)); refine blk_far ?_ NB427_438.out _; (with_reducible repeat (first | refine blk_drewN ?_ _ | refine blk_drew ?_ | refine blk_alloc ?_ _)); refine blk_far ?_ NB427_438.out _; (with_reducible repeat (first | refine blk_drewN ?_ _ | refine blk_drew ?_ | refine blk_alloc ?_ _)); exact BK427.out⟩, ⟨by (with_reducible repeat (first | refine blk_drewN ?_ _ | refine blk_drew ?_ | refine blk_alloc ?_ _)); refine blk_put (cs := #[.slice Ao52 t431.length co52, .slice none 0 0]) ?_ 1 _ rfl; (with_reducible repeat (first | refine blk_drewN ?_ _ | refine blk_drew ?_ | refine blk_alloc ?_ _)); refine blk_put (cs := #[.slice none 0 0, .slice none 0 0]) ?_ 0 _ rfl; (with_reducible repeat (first | refine blk_drewN ?_ _ | refine blk_drew ?_ | refine blk_alloc ?_ _)); exact BK438.out⟩, ⟨by repeat (first | (with_reducible first | exact HB.out | apply below_alloc | apply pw_below_drewN | apply below_drew1 | refine below_set ?_ GE425.out | refine below_set ?_ GE426.out | refine below_set ?_ GE427.out | refine below_set ?_ GE438.out) | exact HB.out)⟩⟩
          case round =>
            clear H'
            try clear c1
            try clear c2
            try clear p2
            try clear c3
            try clear c4
            try clear c5
            try clear c10
            try clear c11
            try clear c13
            try clear c14
            try clear c14b0
            try clear c14b1
            try clear c15
            try clear c16
            try clear c21
            try clear c23
            try clear c24
            try clear c29
            try clear c32
            try clear c33
            try clear c34
            try clear c38
            try clear c39
            try clear c42
            try clear c44
            try clear c44b0
            try clear c44b1
            try clear c45
            try clear c46
            try clear c48
            try clear c53
            try clear c54
            try clear c55
            try clear hcz17_0
            try clear hcz17_1
            try clear hcz19_0
            try clear hcz19_1
            try clear hcz22_0
            try clear hcz22_1
            try clear hcz25_0
            try clear hcz25_1
            try clear hcz27_0
            try clear hcz27_1
            try clear hcz30_0
            try clear hcz30_1
            try clear hcz31_0
            try clear hcz31_1
            try clear hcz34_0
            try clear hcz34_1
            try clear hcz36_0
            try clear hcz36_1
            try clear hcz40_0
            try clear hcz40_1
            try clear hcz47_0
            try clear hcz47_1
            try clear hcz49_0
            try clear hcz49_1
            try clear hcz56_0
            try clear hcz56_1
            try clear hfz17_0
            try clear hfz17_1
            try clear hfz19_0
            try clear hfz19_1
            try clear hfz22_0
            try clear hfz22_1
            try clear hfz25_0
            try clear hfz25_1
            try clear hfz27_0
            try clear hfz27_1
            try clear hfz30_0
            try clear hfz30_1
            try clear hfz31_0
            try clear hfz31_1
            try clear hfz34_0
            try clear hfz34_1
            try clear hfz36_0
            try clear hfz36_1
            try clear hfz40_0
            try clear hfz40_1
            try clear hfz47_0
            try clear hfz47_1
            try clear hfz49_0
            try clear hfz49_1
            try clear hfz56_0
            try clear hfz56_1
            try clear p2
            obtain ⟨x10_2, rfl, HA, HK2, HO_439000, HO_439001, BK425, BK426, BK427, BK438, HB⟩ := hrel
            cases gk with
            | zero => exact absurd HA.out (by simp [assartlaw02_DiskPuts.l0])
            | succ k2 =>
              have H := HA.out
              clear HA
              simp only [assartlaw02_DiskPuts.l0] at H
              by_cases c58 : x10_2 < (l0_0.length : Int)
              · rw [if_pos c58] at H
                have c58b0 : decide (x10_2 < (l0_0.length : Int)) = true := decide_eq_true c58
                clear c58
                replace H := Option.bind_eq_some_iff.mp H
                obtain ⟨⟨t440, t441⟩, A590, H⟩ := H
                replace H : ((disk_Read.f t431 t434 x10_2).bind fun bt442 => (if t441 = 0 then (if bt442.2 = 0 then (if x10_2 = a1_0 then (if bt442.1.toList = a1_1.toList then (assartlaw02_DiskPuts.l0 k2 t428 (wrap64 (x10_2 + 1)) l0_0 l0_1 a1_0 a1_1 a2_0 a2_1 t431 t434) else (none)) else (if t440.toList = bt442.1.toList then (assartlaw02_DiskPuts.l0 k2 t428 (wrap64 (x10_2 + 1)) l0_0 l0_1 a1_0 a1_1 a2_0 a2_1 t431 t434) else (none))) else (none)) else (none))) = some r := H
                have A59 := Aside0.mk A590
                clear A590
                replace H := Option.bind_eq_some_iff.mp H
                obtain ⟨⟨t442, t443⟩, A600, H⟩ := H
                replace H : (if t441 = 0 then (if t443 = 0 then (if x10_2 = a1_0 then (if t442.toList = a1_1.toList then (assartlaw02_DiskPuts.l0 k2 t428 (wrap64 (x10_2 + 1)) l0_0 l0_1 a1_0 a1_1 a2_0 a2_1 t431 t434) else (none)) else (if t440.toList = t442.toList then (assartlaw02_DiskPuts.l0 k2 t428 (wrap64 (x10_2 + 1)) l0_0 l0_1 a1_0 a1_1 a2_0 a2_1 t431 t434) else (none))) else (none)) else (none)) = some r := H
                have A60 := Aside0.mk A600
                clear A600
                by_cases c61 : t441 = 0
                · rw [if_pos c61] at H
                  have c61b0 : (t441 == 0) = true := beq_iff_eq.mpr c61
                  have c61b1 : (t441 != 0) = false := bne_eq_false_iff_eq.mpr c61
                  clear c61
                  by_cases c62 : t443 = 0
                  · rw [if_pos c62] at H
                    have c62b0 : (t443 == 0) = true := beq_iff_eq.mpr c62
                    have c62b1 : (t443 != 0) = false := bne_eq_false_iff_eq.mpr c62
                    clear c62
                    by_cases c63 : x10_2 = a1_0
                    · rw [if_pos c63] at H
                      have c63b0 : (x10_2 == a1_0) = true := beq_iff_eq.mpr c63
                      have c63b1 : (x10_2 != a1_0) = false := bne_eq_false_iff_eq.mpr c63
                      clear c63
                      by_cases c64 : t442.toList = a1_1.toList
                      · rw [if_pos c64] at H
                        have c64b0 : (t442.toList == a1_1.toList) = true := beq_iff_eq.mpr c64
                        have c64b1 : (t442.toList != a1_1.toList) = false := bne_eq_false_iff_eq.mpr c64
                        clear c64
                        have H' := Aside0.mk H
                        clear H
                        have hnb65 := NB425_426.out
                        have hnc65 := NB426_425.out
                        have hnb66 := NB425_427.out
                        have hnc66 := NB427_425.out
                        have hnb67 := NB425_438.out
                        have hnc67 := NB438_425.out
                        have hcz68_0 : wr.cell? ⟨gb425, 0, none⟩ = some (.slice A0_0 l0_0.length c0_0) := (blk_cell BK425.out 0).trans rfl
                        have hcz68_1 : wr.cell? ⟨gb425, 1, none⟩ = some (.slice A0_1 l0_1.length c0_1) := (blk_cell BK425.out 1).trans rfl
                        have hfz68_0 := blk_frozen BK425.out 0
                        have hfz68_1 := blk_frozen BK425.out 1
                        go_wp2_with (first | ((with_reducible refine gate_callee (f := 40) rfl ?_); refine goesL_ (some 74) rfl rfl Try.func40 (by kernel_rfl) rfl #[.agg #[.slice A0_0 l0_0.length c0_0, .slice A0_1 l0_1.length c0_1], .int .i64 x10_2] rfl (by (try simp only [List.map_toArray, List.map_cons, List.map_nil]); first | done | rfl | (simp only [List.length_drop, List.length_take]; rfl)) ?_; (with_reducible refine (disk_Read.calls _ _ l0_0 _ _ l0_1 x10_2 t440 t441 _ ?side1 ?side2 ?side3 ?side4 A59.out).mono ?_); (case side1 => repeat (first | exact (Kd.C_below HR0_0.out HB.out) | (with_reducible refine Kd.C_alloc ?_ _) | (with_reducible refine Kd.C_drewN ?_ _) | (with_reducible refine Kd.C_drew ?_))); (case side2 => exact HC0_0.out); (case side3 => repeat (first | exact (Kd.C_below HR0_1.out HB.out) | (with_reducible refine Kd.C_alloc ?_ _) | (with_reducible refine Kd.C_drewN ?_ _) | (with_reducible refine Kd.C_drew ?_))); (case side4 => exact HC0_1.out); rintro e w69 ⟨rfl, hb⟩; refine ⟨_, rfl, ?_⟩; have n0_ := Aside0.mk (Kd.V_below (by (with_reducible repeat (first | apply Kd.V_alloc | apply Kd.V_drewN | apply Kd.V_drew)); exact HO_439000.out) hb); have n1_ := Aside0.mk (Kd.V_below (by (with_reducible repeat (first | apply Kd.V_alloc | apply Kd.V_drewN | apply Kd.V_drew)); exact HO_439001.out) hb); have n2_ := Aside0.mk (blk_below (g := gb425) (o := .cells #[.slice A0_0 l0_0.length c0_0, .slice A0_1 l0_1.length c0_1] 63 (0, 0)) (by (with_reducible repeat (first | refine blk_drewN ?_ _ | refine blk_drew ?_ | refine blk_alloc ?_ _)); exact BK425.out) hb); have n3_ := Aside0.mk (blk_below (g := gb426) (o := .cells #[.int .i64 a1_0, .string a1_1] 79 (0, 0)) (by (with_reducible repeat (first | refine blk_drewN ?_ _ | refine blk_drew ?_ | refine blk_alloc ?_ _)); exact BK426.out) hb); have n4_ := Aside0.mk (blk_below (g := gb427) (o := .cells #[.int .i64 a2_0, .string a2_1] 79 (0, 0)) (by (with_reducible repeat (first | refine blk_drewN ?_ _ | refine blk_drew ?_ | refine blk_alloc ?_ _)); exact BK427.out) hb); have n5_ := Aside0.mk (blk_below (g := gb438) (o := .cells #[.slice Ao52 t431.length co52, .slice Ao57 t434.length co57] 63 (0, 0)) (by (with_reducible repeat (first | refine blk_drewN ?_ _ | refine blk_drew ?_ | refine blk_alloc ?_ _)); exact BK438.out) hb); have n6_ := Aside0.mk (below_step (by repeat (first | (with_reducible first | exact HB.out | apply below_alloc | apply pw_below_drewN | apply below_drew1 | refine below_set ?_ GE425.out | refine below_set ?_ GE426.out | refine below_set ?_ GE427.out | refine below_set ?_ GE438.out) | exact HB.out)) hb); clear HO_439000; clear HO_439001; clear BK425; clear BK426; clear BK427; clear BK438; clear HB; have HO_439000 := n0_; have HO_439001 := n1_; have BK425 := n2_; have BK426 := n3_; have BK427 := n4_; have BK438 := n5_; have HB := n6_; clear n0_ n1_ n2_ n3_ n4_ n5_ n6_; (try clear hb); (try clear hb2); (try clear hk); (try clear hi); have hnb70 := NB438_426.out; have hnc70 := NB426_438.out; have hnb71 := NB438_427.out; have hnc71 := NB427_438.out; have hcz72_0 : w69.cell? ⟨gb438, 0, none⟩ = some (.slice Ao52 t431.length co52) := (blk_cell BK438.out 0).trans rfl; have hcz72_1 : w69.cell? ⟨gb438, 1, none⟩ = some (.slice Ao57 t434.length co57) := (blk_cell BK438.out 1).trans rfl; have hfz72_0 := blk_frozen BK438.out 0; have hfz72_1 := blk_frozen BK438.out 1) | ((with_reducible refine gate_callee (f := 40) rfl ?_); refine goesL_ (some 80) rfl rfl Try.func40 (by kernel_rfl) rfl #[.agg #[.slice Ao52 t431.length co52, .slice Ao57 t434.length co57], .int .i64 x10_2] rfl (by (try simp only [List.map_toArray, List.map_cons, List.map_nil]); first | done | rfl | (simp only [List.length_drop, List.length_take]; rfl)) ?_; (with_reducible refine (disk_Read.calls _ _ t431 _ _ t434 x10_2 t442 t443 _ ?side1 ?side2 ?side3 ?side4 A60.out).mono ?_); (case side1 => repeat (first | exact (Kd.V_reads' HO_439000.out).2.2 | (with_reducible refine Kd.C_alloc ?_ _) | (with_reducible refine Kd.C_drewN ?_ _) | (with_reducible refine Kd.C_drew ?_))); (case side2 => exact (Kd.V_reads' HO_439000.out).2.1); (case side3 => repeat (first | exact (Kd.V_reads' HO_439001.out).2.2 | (with_reducible refine Kd.C_alloc ?_ _) | (with_reducible refine Kd.C_drewN ?_ _) | (with_reducible refine Kd.C_drew ?_))); (case side4 => exact (Kd.V_reads' HO_439001.out).2.1); rintro e w73 ⟨rfl, hb⟩; refine ⟨_, rfl, ?_⟩; have n0_ := Aside0.mk (Kd.V_below (by (with_reducible repeat (first | apply Kd.V_alloc | apply Kd.V_drewN | apply Kd.V_drew)); exact HO_439000.out) hb); have n1_ := Aside0.mk (Kd.V_below (by (with_reducible repeat (first | apply Kd.V_alloc | apply Kd.V_drewN | apply Kd.V_drew)); exact HO_439001.out) hb); have n2_ := Aside0.mk (blk_below (g := gb425) (o := .cells #[.slice A0_0 l0_0.length c0_0, .slice A0_1 l0_1.length c0_1] 63 (0, 0)) (by (with_reducible repeat (first | refine blk_drewN ?_ _ | refine blk_drew ?_ | refine blk_alloc ?_ _)); exact BK425.out) hb); have n3_ := Aside0.mk (blk_below (g := gb426) (o := .cells #[.int .i64 a1_0, .string a1_1] 79 (0, 0)) (by (with_reducible repeat (first | refine blk_drewN ?_ _ | refine blk_drew ?_ | refine blk_alloc ?_ _)); exact BK426.out) hb); have n4_ := Aside0.mk (blk_below (g := gb427) (o := .cells #[.int .i64 a2_0, .string a2_1] 79 (0, 0)) (by (with_reducible repeat (first | refine blk_drewN ?_ _ | refine blk_drew ?_ | refine blk_alloc ?_ _)); exact BK427.out) hb); have n5_ := Aside0.mk (blk_below (g := gb438) (o := .cells #[.slice Ao52 t431.length co52, .slice Ao57 t434.length co57] 63 (0, 0)) (by (with_reducible repeat (first | refine blk_drewN ?_ _ | refine blk_drew ?_ | refine blk_alloc ?_ _)); exact BK438.out) hb); have n6_ := Aside0.mk (below_step (by repeat (first | (with_reducible first | exact HB.out | apply below_alloc | apply pw_below_drewN | apply below_drew1 | refine below_set ?_ GE425.out | refine below_set ?_ GE426.out | refine below_set ?_ GE427.out | refine below_set ?_ GE438.out) | exact HB.out)) hb); clear HO_439000; clear HO_439001; clear BK425; clear BK426; clear BK427; clear BK438; clear HB; have HO_439000 := n0_; have HO_439001 := n1_; have BK425 := n2_; have BK426 := n3_; have BK427 := n4_; have BK438 := n5_; have HB := n6_; clear n0_ n1_ n2_ n3_ n4_ n5_ n6_; (try clear hb); (try clear hb2); (try clear hk); (try clear hi); have hnb74 := NB426_427.out; have hnc74 := NB427_426.out; have hcz75_0 : w73.cell? ⟨gb426, 0, none⟩ = some (.int .i64 a1_0) := (blk_cell BK426.out 0).trans rfl; have hcz75_1 : w73.cell? ⟨gb426, 1, none⟩ = some (.string a1_1) := (blk_cell BK426.out 1).trans rfl; have hfz75_0 := blk_frozen BK426.out 0; have hfz75_1 := blk_frozen BK426.out 1))
                        go_roundg k2
                        case measure => have := HJ4.out; have := HK2.out; omega
                        case rel => exact ⟨(wrap64 (x10_2 + 1)), (by first | rfl | (simp; done) | (simp [*]; done)), H', ⟨by have := HJ4.out; have := HK2.out; omega⟩, ⟨by (with_reducible repeat (first | apply Kd.V_alloc | apply Kd.V_drewN | apply Kd.V_drew)); exact HO_439000.out⟩, ⟨by (with_reducible repeat (first | apply Kd.V_alloc | apply Kd.V_drewN | apply Kd.V_drew)); exact HO_439001.out⟩, ⟨by (with_reducible repeat (first | refine blk_drewN ?_ _ | refine blk_drew ?_ | refine blk_alloc ?_ _)); exact BK425.out⟩, ⟨by (with_reducible repeat (first | refine blk_drewN ?_ _ | refine blk_drew ?_ | refine blk_alloc ?_ _)); exact BK426.out⟩, ⟨by (with_reducible repeat (first | refine blk_drewN ?_ _ | refine blk_drew ?_ | refine blk_alloc ?_ _)); exact BK427.out⟩, ⟨by (with_reducible repeat (first | refine blk_drewN ?_ _ | refine blk_drew ?_ | refine blk_alloc ?_ _)); exact BK438.out⟩, ⟨by repeat (first | (with_reducible first | exact HB.out | apply below_alloc | apply pw_below_drewN | apply below_drew1 | refine below_set ?_ GE425.out | refine below_set ?_ GE426.out | refine below_set ?_ GE427.out | refine below_set ?_ GE438.out) | exact HB.out)⟩⟩
                      · rw [if_neg c64] at H
                        exact absurd H (by simp)
                    · rw [if_neg c63] at H
                      have c63b0 : (x10_2 == a1_0) = false := beq_eq_false_iff_ne.mpr c63
                      have c63b1 : (x10_2 != a1_0) = true := bne_iff_ne.mpr c63
                      by_cases c76 : t440.toList = t442.toList
                      · rw [if_pos c76] at H
                        have c76b0 : (t440.toList == t442.toList) = true := beq_iff_eq.mpr c76
                        have c76b1 : (t440.toList != t442.toList) = false := bne_eq_false_iff_eq.mpr c76
                        clear c76
                        have H' := Aside0.mk H
                        clear H
                        have hnb77 := NB425_426.out
                        have hnc77 := NB426_425.out
                        have hnb78 := NB425_427.out
                        have hnc78 := NB427_425.out
                        have hnb79 := NB425_438.out
                        have hnc79 := NB438_425.out
                        have hcz80_0 : wr.cell? ⟨gb425, 0, none⟩ = some (.slice A0_0 l0_0.length c0_0) := (blk_cell BK425.out 0).trans rfl
                        have hcz80_1 : wr.cell? ⟨gb425, 1, none⟩ = some (.slice A0_1 l0_1.length c0_1) := (blk_cell BK425.out 1).trans rfl
                        have hfz80_0 := blk_frozen BK425.out 0
                        have hfz80_1 := blk_frozen BK425.out 1
                        go_wp2_with (first | ((with_reducible refine gate_callee (f := 40) rfl ?_); refine goesL_ (some 74) rfl rfl Try.func40 (by kernel_rfl) rfl #[.agg #[.slice A0_0 l0_0.length c0_0, .slice A0_1 l0_1.length c0_1], .int .i64 x10_2] rfl (by (try simp only [List.map_toArray, List.map_cons, List.map_nil]); first | done | rfl | (simp only [List.length_drop, List.length_take]; rfl)) ?_; (with_reducible refine (disk_Read.calls _ _ l0_0 _ _ l0_1 x10_2 t440 t441 _ ?side1 ?side2 ?side3 ?side4 A59.out).mono ?_); (case side1 => repeat (first | exact (Kd.C_below HR0_0.out HB.out) | (with_reducible refine Kd.C_alloc ?_ _) | (with_reducible refine Kd.C_drewN ?_ _) | (with_reducible refine Kd.C_drew ?_))); (case side2 => exact HC0_0.out); (case side3 => repeat (first | exact (Kd.C_below HR0_1.out HB.out) | (with_reducible refine Kd.C_alloc ?_ _) | (with_reducible refine Kd.C_drewN ?_ _) | (with_reducible refine Kd.C_drew ?_))); (case side4 => exact HC0_1.out); rintro e w81 ⟨rfl, hb⟩; refine ⟨_, rfl, ?_⟩; have n0_ := Aside0.mk (Kd.V_below (by (with_reducible repeat (first | apply Kd.V_alloc | apply Kd.V_drewN | apply Kd.V_drew)); exact HO_439000.out) hb); have n1_ := Aside0.mk (Kd.V_below (by (with_reducible repeat (first | apply Kd.V_alloc | apply Kd.V_drewN | apply Kd.V_drew)); exact HO_439001.out) hb); have n2_ := Aside0.mk (blk_below (g := gb425) (o := .cells #[.slice A0_0 l0_0.length c0_0, .slice A0_1 l0_1.length c0_1] 63 (0, 0)) (by (with_reducible repeat (first | refine blk_drewN ?_ _ | refine blk_drew ?_ | refine blk_alloc ?_ _)); exact BK425.out) hb); have n3_ := Aside0.mk (blk_below (g := gb426) (o := .cells #[.int .i64 a1_0, .string a1_1] 79 (0, 0)) (by (with_reducible repeat (first | refine blk_drewN ?_ _ | refine blk_drew ?_ | refine blk_alloc ?_ _)); exact BK426.out) hb); have n4_ := Aside0.mk (blk_below (g := gb427) (o := .cells #[.int .i64 a2_0, .string a2_1] 79 (0, 0)) (by (with_reducible repeat (first | refine blk_drewN ?_ _ | refine blk_drew ?_ | refine blk_alloc ?_ _)); exact BK427.out) hb); have n5_ := Aside0.mk (blk_below (g := gb438) (o := .cells #[.slice Ao52 t431.length co52, .slice Ao57 t434.length co57] 63 (0, 0)) (by (with_reducible repeat (first | refine blk_drewN ?_ _ | refine blk_drew ?_ | refine blk_alloc ?_ _)); exact BK438.out) hb); have n6_ := Aside0.mk (below_step (by repeat (first | (with_reducible first | exact HB.out | apply below_alloc | apply pw_below_drewN | apply below_drew1 | refine below_set ?_ GE425.out | refine below_set ?_ GE426.out | refine below_set ?_ GE427.out | refine below_set ?_ GE438.out) | exact HB.out)) hb); clear HO_439000; clear HO_439001; clear BK425; clear BK426; clear BK427; clear BK438; clear HB; have HO_439000 := n0_; have HO_439001 := n1_; have BK425 := n2_; have BK426 := n3_; have BK427 := n4_; have BK438 := n5_; have HB := n6_; clear n0_ n1_ n2_ n3_ n4_ n5_ n6_; (try clear hb); (try clear hb2); (try clear hk); (try clear hi); have hnb82 := NB438_426.out; have hnc82 := NB426_438.out; have hnb83 := NB438_427.out; have hnc83 := NB427_438.out; have hcz84_0 : w81.cell? ⟨gb438, 0, none⟩ = some (.slice Ao52 t431.length co52) := (blk_cell BK438.out 0).trans rfl; have hcz84_1 : w81.cell? ⟨gb438, 1, none⟩ = some (.slice Ao57 t434.length co57) := (blk_cell BK438.out 1).trans rfl; have hfz84_0 := blk_frozen BK438.out 0; have hfz84_1 := blk_frozen BK438.out 1) | ((with_reducible refine gate_callee (f := 40) rfl ?_); refine goesL_ (some 80) rfl rfl Try.func40 (by kernel_rfl) rfl #[.agg #[.slice Ao52 t431.length co52, .slice Ao57 t434.length co57], .int .i64 x10_2] rfl (by (try simp only [List.map_toArray, List.map_cons, List.map_nil]); first | done | rfl | (simp only [List.length_drop, List.length_take]; rfl)) ?_; (with_reducible refine (disk_Read.calls _ _ t431 _ _ t434 x10_2 t442 t443 _ ?side1 ?side2 ?side3 ?side4 A60.out).mono ?_); (case side1 => repeat (first | exact (Kd.V_reads' HO_439000.out).2.2 | (with_reducible refine Kd.C_alloc ?_ _) | (with_reducible refine Kd.C_drewN ?_ _) | (with_reducible refine Kd.C_drew ?_))); (case side2 => exact (Kd.V_reads' HO_439000.out).2.1); (case side3 => repeat (first | exact (Kd.V_reads' HO_439001.out).2.2 | (with_reducible refine Kd.C_alloc ?_ _) | (with_reducible refine Kd.C_drewN ?_ _) | (with_reducible refine Kd.C_drew ?_))); (case side4 => exact (Kd.V_reads' HO_439001.out).2.1); rintro e w85 ⟨rfl, hb⟩; refine ⟨_, rfl, ?_⟩; have n0_ := Aside0.mk (Kd.V_below (by (with_reducible repeat (first | apply Kd.V_alloc | apply Kd.V_drewN | apply Kd.V_drew)); exact HO_439000.out) hb); have n1_ := Aside0.mk (Kd.V_below (by (with_reducible repeat (first | apply Kd.V_alloc | apply Kd.V_drewN | apply Kd.V_drew)); exact HO_439001.out) hb); have n2_ := Aside0.mk (blk_below (g := gb425) (o := .cells #[.slice A0_0 l0_0.length c0_0, .slice A0_1 l0_1.length c0_1] 63 (0, 0)) (by (with_reducible repeat (first | refine blk_drewN ?_ _ | refine blk_drew ?_ | refine blk_alloc ?_ _)); exact BK425.out) hb); have n3_ := Aside0.mk (blk_below (g := gb426) (o := .cells #[.int .i64 a1_0, .string a1_1] 79 (0, 0)) (by (with_reducible repeat (first | refine blk_drewN ?_ _ | refine blk_drew ?_ | refine blk_alloc ?_ _)); exact BK426.out) hb); have n4_ := Aside0.mk (blk_below (g := gb427) (o := .cells #[.int .i64 a2_0, .string a2_1] 79 (0, 0)) (by (with_reducible repeat (first | refine blk_drewN ?_ _ | refine blk_drew ?_ | refine blk_alloc ?_ _)); exact BK427.out) hb); have n5_ := Aside0.mk (blk_below (g := gb438) (o := .cells #[.slice Ao52 t431.length co52, .slice Ao57 t434.length co57] 63 (0, 0)) (by (with_reducible repeat (first | refine blk_drewN ?_ _ | refine blk_drew ?_ | refine blk_alloc ?_ _)); exact BK438.out) hb); have n6_ := Aside0.mk (below_step (by repeat (first | (with_reducible first | exact HB.out | apply below_alloc | apply pw_below_drewN | apply below_drew1 | refine below_set ?_ GE425.out | refine below_set ?_ GE426.out | refine below_set ?_ GE427.out | refine below_set ?_ GE438.out) | exact HB.out)) hb); clear HO_439000; clear HO_439001; clear BK425; clear BK426; clear BK427; clear BK438; clear HB; have HO_439000 := n0_; have HO_439001 := n1_; have BK425 := n2_; have BK426 := n3_; have BK427 := n4_; have BK438 := n5_; have HB := n6_; clear n0_ n1_ n2_ n3_ n4_ n5_ n6_; (try clear hb); (try clear hb2); (try clear hk); (try clear hi); have hnb86 := NB426_427.out; have hnc86 := NB427_426.out; have hcz87_0 : w85.cell? ⟨gb426, 0, none⟩ = some (.int .i64 a1_0) := (blk_cell BK426.out 0).trans rfl; have hcz87_1 : w85.cell? ⟨gb426, 1, none⟩ = some (.string a1_1) := (blk_cell BK426.out 1).trans rfl; have hfz87_0 := blk_frozen BK426.out 0; have hfz87_1 := blk_frozen BK426.out 1))
                        go_roundg k2
                        case measure => have := HJ4.out; have := HK2.out; omega
                        case rel => exact ⟨(wrap64 (x10_2 + 1)), (by first | rfl | (simp; done) | (simp [*]; done)), H', ⟨by have := HJ4.out; have := HK2.out; omega⟩, ⟨by (with_reducible repeat (first | apply Kd.V_alloc | apply Kd.V_drewN | apply Kd.V_drew)); exact HO_439000.out⟩, ⟨by (with_reducible repeat (first | apply Kd.V_alloc | apply Kd.V_drewN | apply Kd.V_drew)); exact HO_439001.out⟩, ⟨by (with_reducible repeat (first | refine blk_drewN ?_ _ | refine blk_drew ?_ | refine blk_alloc ?_ _)); exact BK425.out⟩, ⟨by (with_reducible repeat (first | refine blk_drewN ?_ _ | refine blk_drew ?_ | refine blk_alloc ?_ _)); exact BK426.out⟩, ⟨by (with_reducible repeat (first | refine blk_drewN ?_ _ | refine blk_drew ?_ | refine blk_alloc ?_ _)); exact BK427.out⟩, ⟨by (with_reducible repeat (first | refine blk_drewN ?_ _ | refine blk_drew ?_ | refine blk_alloc ?_ _)); exact BK438.out⟩, ⟨by repeat (first | (with_reducible first | exact HB.out | apply below_alloc | apply pw_below_drewN | apply below_drew1 | refine below_set ?_ GE425.out | refine below_set ?_ GE426.out | refine below_set ?_ GE427.out | refine below_set ?_ GE438.out) | exact HB.out)⟩⟩
                      · rw [if_neg c76] at H
                        exact absurd H (by simp)
                  · rw [if_neg c62] at H
                    exact absurd H (by simp)
                · rw [if_neg c61] at H
                  exact absurd H (by simp)
              · rw [if_neg c58] at H
                have c58b0 : decide (x10_2 < (l0_0.length : Int)) = false := decide_eq_false c58
                clear c58
                replace H := Option.bind_eq_some_iff.mp H
                obtain ⟨⟨t444, t447, t450⟩, A880, H⟩ := H
                replace H : (if t450 = 0 then (assartlaw02_DiskPuts.j2 k2 t428 (a1_0 == a2_0) a1_0 a1_1 a2_0 a2_1 t431 t434 t444 t447) else (assartlaw02_DiskPuts.j2 k2 t428 true a1_0 a1_1 a2_0 a2_1 t431 t434 t444 t447)) = some r := H
                have A88 := Aside0.mk A880
                clear A880
                have HC89 := Aside0.mk H
                clear H
                have hnb90 := NB425_426.out
                have hnc90 := NB426_425.out
                have hnb91 := NB425_427.out
                have hnc91 := NB427_425.out
                have hnb92 := NB425_438.out
                have hnc92 := NB438_425.out
                have hcz93_0 : wr.cell? ⟨gb425, 0, none⟩ = some (.slice A0_0 l0_0.length c0_0) := (blk_cell BK425.out 0).trans rfl
                have hcz93_1 : wr.cell? ⟨gb425, 1, none⟩ = some (.slice A0_1 l0_1.length c0_1) := (blk_cell BK425.out 1).trans rfl
                have hfz93_0 := blk_frozen BK425.out 0
                have hfz93_1 := blk_frozen BK425.out 1
                have hnb94 := NB427_426.out
                have hnc94 := NB426_427.out
                have hnb95 := NB427_438.out
                have hnc95 := NB438_427.out
                have hcz96_0 : wr.cell? ⟨gb427, 0, none⟩ = some (.int .i64 a2_0) := (blk_cell BK427.out 0).trans rfl
                have hcz96_1 : wr.cell? ⟨gb427, 1, none⟩ = some (.string a2_1) := (blk_cell BK427.out 1).trans rfl
                have hfz96_0 := blk_frozen BK427.out 0
                have hfz96_1 := blk_frozen BK427.out 1
                go_upto_region 15 with (first | ((with_reducible refine gate_callee (f := 44) rfl ?_); refine goesL_ (some 118) rfl rfl Try.func44 (by kernel_rfl) rfl #[.agg #[.slice A0_0 l0_0.length c0_0, .slice A0_1 l0_1.length c0_1], .int .i64 a2_0, .string a2_1] rfl (by (try simp only [List.map_toArray, List.map_cons, List.map_nil]); first | done | rfl | (simp only [List.length_drop, List.length_take]; rfl)) ?_; (with_reducible refine (disk_Put.calls (fun k_ => k_ < w.heap.size) _ _ l0_0 (fun k_ => k_ < w.heap.size) _ _ l0_1 a2_0 a2_1 t444 t447 t450 _ ?side1 ?side2 A88.out).mono ?_); (case side1 => exact Kd.V_mk HC0_0.out (Kd.F_below (Kd.C_F Kd.heap_string HR0_0.out) (by repeat (first | (with_reducible first | exact HB.out | apply below_alloc | apply pw_below_drewN | apply below_drew1 | refine below_set ?_ GE425.out | refine below_set ?_ GE426.out | refine below_set ?_ GE427.out | refine below_set ?_ GE438.out) | exact HB.out)))); (case side2 => exact Kd.V_mk HC0_1.out (Kd.F_below (Kd.C_F k79_heap HR0_1.out) (by repeat (first | (with_reducible first | exact HB.out | apply below_alloc | apply pw_below_drewN | apply below_drew1 | refine below_set ?_ GE425.out | refine below_set ?_ GE426.out | refine below_set ?_ GE427.out | refine below_set ?_ GE438.out) | exact HB.out)))); rintro e w97 ⟨v445, v448, rfl, ho0, ho1, hb⟩; refine ⟨_, rfl, ?_⟩; have n0_ := Aside0.mk (Kd.V_below (by (with_reducible repeat (first | apply Kd.V_alloc | apply Kd.V_drewN | apply Kd.V_drew)); exact HO_439000.out) hb); have n1_ := Aside0.mk (Kd.V_below (by (with_reducible repeat (first | apply Kd.V_alloc | apply Kd.V_drewN | apply Kd.V_drew)); exact HO_439001.out) hb); have n2_ := Aside0.mk (Kd.V_lower (Kd.V_mono (ok' := fun k_ => k_ ≠ gb425 ∧ k_ ≠ gb426 ∧ k_ ≠ gb427 ∧ k_ ≠ gb438) ho0 (fun k_ hk_ => ⟨Or.elim hk_ (fun hs_ => Or.elim hs_ (fun hs_ => fun e_ => Nat.not_le.2 hs_ (by rw [e_]; exact GW425.out)) (fun hs_ => fun e_ => Nat.not_le.2 hs_ (by rw [e_]; exact GW425.out))) (fun hn_ => (Kd.freshB (g := gb425) (o := .cells #[.slice A0_0 l0_0.length c0_0, .slice A0_1 l0_1.length c0_1] 63 (0, 0)) (by (with_reducible repeat (first | refine blk_drewN ?_ _ | refine blk_drew ?_ | refine blk_alloc ?_ _)); exact BK425.out) k_ hn_)), Or.elim hk_ (fun hs_ => Or.elim hs_ (fun hs_ => fun e_ => Nat.not_le.2 hs_ (by rw [e_]; exact GW426.out)) (fun hs_ => fun e_ => Nat.not_le.2 hs_ (by rw [e_]; exact GW426.out))) (fun hn_ => (Kd.freshB (g := gb426) (o := .cells #[.int .i64 a1_0, .string a1_1] 79 (0, 0)) (by (with_reducible repeat (first | refine blk_drewN ?_ _ | refine blk_drew ?_ | refine blk_alloc ?_ _)); exact BK426.out) k_ hn_)), Or.elim hk_ (fun hs_ => Or.elim hs_ (fun hs_ => fun e_ => Nat.not_le.2 hs_ (by rw [e_]; exact GW427.out)) (fun hs_ => fun e_ => Nat.not_le.2 hs_ (by rw [e_]; exact GW427.out))) (fun hn_ => (Kd.freshB (g := gb427) (o := .cells #[.int .i64 a2_0, .string a2_1] 79 (0, 0)) (by (with_reducible repeat (first | refine blk_drewN ?_ _ | refine blk_drew ?_ | refine blk_alloc ?_ _)); exact BK427.out) k_ hn_)), Or.elim hk_ (fun hs_ => Or.elim hs_ (fun hs_ => fun e_ => Nat.not_le.2 hs_ (by rw [e_]; exact GW438.out)) (fun hs_ => fun e_ => Nat.not_le.2 hs_ (by rw [e_]; exact GW438.out))) (fun hn_ => (Kd.freshB (g := gb438) (o := .cells #[.slice Ao52 t431.length co52, .slice Ao57 t434.length co57] 63 (0, 0)) (by (with_reducible repeat (first | refine blk_drewN ?_ _ | refine blk_drew ?_ | refine blk_alloc ?_ _)); exact BK438.out) k_ hn_))⟩)) (below_size (by repeat (first | (with_reducible first | exact HB.out | apply below_alloc | apply pw_below_drewN | apply below_drew1 | refine below_set ?_ GE425.out | refine below_set ?_ GE426.out | refine below_set ?_ GE427.out | refine below_set ?_ GE438.out) | exact HB.out)))); have n3_ := Aside0.mk (Kd.V_lower (Kd.V_mono (ok' := fun k_ => k_ ≠ gb425 ∧ k_ ≠ gb426 ∧ k_ ≠ gb427 ∧ k_ ≠ gb438) ho1 (fun k_ hk_ => ⟨Or.elim hk_ (fun hs_ => Or.elim hs_ (fun hs_ => fun e_ => Nat.not_le.2 hs_ (by rw [e_]; exact GW425.out)) (fun hs_ => fun e_ => Nat.not_le.2 hs_ (by rw [e_]; exact GW425.out))) (fun hn_ => (Kd.freshB (g := gb425) (o := .cells #[.slice A0_0 l0_0.length c0_0, .slice A0_1 l0_1.length c0_1] 63 (0, 0)) (by (with_reducible repeat (first | refine blk_drewN ?_ _ | refine blk_drew ?_ | refine blk_alloc ?_ _)); exact BK425.out) k_ hn_)), Or.elim hk_ (fun hs_ => Or.elim hs_ (fun hs_ => fun e_ => Nat.not_le.2 hs_ (by rw [e_]; exact GW426.out)) (fun hs_ => fun e_ => Nat.not_le.2 hs_ (by rw [e_]; exact GW426.out))) (fun hn_ => (Kd.freshB (g := gb426) (o := .cells #[.int .i64 a1_0, .string a1_1] 79 (0, 0)) (by (with_reducible repeat (first | refine blk_drewN ?_ _ | refine blk_drew ?_ | refine blk_alloc ?_ _)); exact BK426.out) k_ hn_)), Or.elim hk_ (fun hs_ => Or.elim hs_ (fun hs_ => fun e_ => Nat.not_le.2 hs_ (by rw [e_]; exact GW427.out)) (fun hs_ => fun e_ => Nat.not_le.2 hs_ (by rw [e_]; exact GW427.out))) (fun hn_ => (Kd.freshB (g := gb427) (o := .cells #[.int .i64 a2_0, .string a2_1] 79 (0, 0)) (by (with_reducible repeat (first | refine blk_drewN ?_ _ | refine blk_drew ?_ | refine blk_alloc ?_ _)); exact BK427.out) k_ hn_)), Or.elim hk_ (fun hs_ => Or.elim hs_ (fun hs_ => fun e_ => Nat.not_le.2 hs_ (by rw [e_]; exact GW438.out)) (fun hs_ => fun e_ => Nat.not_le.2 hs_ (by rw [e_]; exact GW438.out))) (fun hn_ => (Kd.freshB (g := gb438) (o := .cells #[.slice Ao52 t431.length co52, .slice Ao57 t434.length co57] 63 (0, 0)) (by (with_reducible repeat (first | refine blk_drewN ?_ _ | refine blk_drew ?_ | refine blk_alloc ?_ _)); exact BK438.out) k_ hn_))⟩)) (below_size (by repeat (first | (with_reducible first | exact HB.out | apply below_alloc | apply pw_below_drewN | apply below_drew1 | refine below_set ?_ GE425.out | refine below_set ?_ GE426.out | refine below_set ?_ GE427.out | refine below_set ?_ GE438.out) | exact HB.out)))); have n4_ := Aside0.mk (blk_below (g := gb425) (o := .cells #[.slice A0_0 l0_0.length c0_0, .slice A0_1 l0_1.length c0_1] 63 (0, 0)) (by (with_reducible repeat (first | refine blk_drewN ?_ _ | refine blk_drew ?_ | refine blk_alloc ?_ _)); exact BK425.out) hb); have n5_ := Aside0.mk (blk_below (g := gb426) (o := .cells #[.int .i64 a1_0, .string a1_1] 79 (0, 0)) (by (with_reducible repeat (first | refine blk_drewN ?_ _ | refine blk_drew ?_ | refine blk_alloc ?_ _)); exact BK426.out) hb); have n6_ := Aside0.mk (blk_below (g := gb427) (o := .cells #[.int .i64 a2_0, .string a2_1] 79 (0, 0)) (by (with_reducible repeat (first | refine blk_drewN ?_ _ | refine blk_drew ?_ | refine blk_alloc ?_ _)); exact BK427.out) hb); have n7_ := Aside0.mk (blk_below (g := gb438) (o := .cells #[.slice Ao52 t431.length co52, .slice Ao57 t434.length co57] 63 (0, 0)) (by (with_reducible repeat (first | refine blk_drewN ?_ _ | refine blk_drew ?_ | refine blk_alloc ?_ _)); exact BK438.out) hb); have n8_ := Aside0.mk (below_step (by repeat (first | (with_reducible first | exact HB.out | apply below_alloc | apply pw_below_drewN | apply below_drew1 | refine below_set ?_ GE425.out | refine below_set ?_ GE426.out | refine below_set ?_ GE427.out | refine below_set ?_ GE438.out) | exact HB.out)) hb); clear HO_439000; clear HO_439001; clear BK425; clear BK426; clear BK427; clear BK438; clear HB; have HO_439000 := n0_; have HO_439001 := n1_; have HO446 := n2_; have HO449 := n3_; have BK425 := n4_; have BK426 := n5_; have BK427 := n6_; have BK438 := n7_; have HB := n8_; clear n0_ n1_ n2_ n3_ n4_ n5_ n6_ n7_ n8_; (try clear hb); (try clear hb2); (try clear hk); (try clear hi); (try clear ho0); (try clear ho1)) | ((with_reducible refine gate_dst (N := 15) rfl ?_); (try (refine gate_guard (by rfl) ?_; dsimp only)); refine box_event ?hg (N := 15) ?hd (cs := #[.slice none 0 0, .slice none 0 0]) (t := 63) ?hr ?_; (case hd => rfl); (case hg => rfl); (case hr => first | (go_simp; done) | (go_simp; rfl)); intro gb451 hg w98 hbox hb; have n0_ := Aside0.mk (Kd.V_below (Kd.V_elderB (by (with_reducible repeat (first | apply Kd.V_alloc | apply Kd.V_drewN | apply Kd.V_drew)); exact HO_439000.out) gb451 (Nat.le_of_eq hg.symm)) hb); have n1_ := Aside0.mk (Kd.V_below (Kd.V_elderB (by (with_reducible repeat (first | apply Kd.V_alloc | apply Kd.V_drewN | apply Kd.V_drew)); exact HO_439001.out) gb451 (Nat.le_of_eq hg.symm)) hb); have n2_ := Aside0.mk (Kd.V_below (Kd.V_elderB (by (with_reducible repeat (first | apply Kd.V_alloc | apply Kd.V_drewN | apply Kd.V_drew)); exact HO446.out) gb451 (Nat.le_of_eq hg.symm)) hb); have n3_ := Aside0.mk (Kd.V_below (Kd.V_elderB (by (with_reducible repeat (first | apply Kd.V_alloc | apply Kd.V_drewN | apply Kd.V_drew)); exact HO449.out) gb451 (Nat.le_of_eq hg.symm)) hb); have n4_ := Aside0.mk (blk_below (g := gb425) (o := .cells #[.slice A0_0 l0_0.length c0_0, .slice A0_1 l0_1.length c0_1] 63 (0, 0)) (by (with_reducible repeat (first | refine blk_drewN ?_ _ | refine blk_drew ?_ | refine blk_alloc ?_ _)); exact BK425.out) hb); have n5_ := Aside0.mk (blk_below (g := gb426) (o := .cells #[.int .i64 a1_0, .string a1_1] 79 (0, 0)) (by (with_reducible repeat (first | refine blk_drewN ?_ _ | refine blk_drew ?_ | refine blk_alloc ?_ _)); exact BK426.out) hb); have n6_ := Aside0.mk (blk_below (g := gb427) (o := .cells #[.int .i64 a2_0, .string a2_1] 79 (0, 0)) (by (with_reducible repeat (first | refine blk_drewN ?_ _ | refine blk_drew ?_ | refine blk_alloc ?_ _)); exact BK427.out) hb); have n7_ := Aside0.mk (blk_below (g := gb438) (o := .cells #[.slice Ao52 t431.length co52, .slice Ao57 t434.length co57] 63 (0, 0)) (by (with_reducible repeat (first | refine blk_drewN ?_ _ | refine blk_drew ?_ | refine blk_alloc ?_ _)); exact BK438.out) hb); have n8_ := Aside0.mk (below_step (by repeat (first | (with_reducible first | exact HB.out | apply below_alloc | apply pw_below_drewN | apply below_drew1 | refine below_set ?_ GE425.out | refine below_set ?_ GE426.out | refine below_set ?_ GE427.out | refine below_set ?_ GE438.out) | exact HB.out)) hb); have n9_ := Aside0.mk (hbox); have n10_ := Aside0.mk ((by rw [hg]; exact (below_size (by repeat (first | (with_reducible first | exact HB.out | apply below_alloc | apply pw_below_drewN | apply below_drew1 | refine below_set ?_ GE425.out | refine below_set ?_ GE426.out | refine below_set ?_ GE427.out | refine below_set ?_ GE438.out) | exact HB.out))) : w.heap.size ≤ gb451)); have n11_ := Aside0.mk ((by rw [hg]; exact (below_size (by repeat (first | (with_reducible first | exact HB.out | apply below_alloc | apply pw_below_drewN | apply below_drew1 | refine below_set ?_ GE425.out | refine below_set ?_ GE426.out | refine below_set ?_ GE427.out | refine below_set ?_ GE438.out) | exact HB.out))) : w.heap.size ≤ gb451)); have n12_ := Aside0.mk ((by rw [hg]; exact Nat.ne_of_lt (blk_lt (g := gb425) (o := .cells #[.slice A0_0 l0_0.length c0_0, .slice A0_1 l0_1.length c0_1] 63 (0, 0)) (by (with_reducible repeat (first | refine blk_drewN ?_ _ | refine blk_drew ?_ | refine blk_alloc ?_ _)); exact BK425.out)) : gb425 ≠ gb451)); have n13_ := Aside0.mk ((by rw [hg]; exact Nat.ne_of_gt (blk_lt (g := gb425) (o := .cells #[.slice A0_0 l0_0.length c0_0, .slice A0_1 l0_1.length c0_1] 63 (0, 0)) (by (with_reducible repeat (first | refine blk_drewN ?_ _ | refine blk_drew ?_ | refine blk_alloc ?_ _)); exact BK425.out)) : gb451 ≠ gb425)); have n14_ := Aside0.mk ((by rw [hg]; exact Nat.ne_of_lt (blk_lt (g := gb426) (o := .cells #[.int .i64 a1_0, .string a1_1] 79 (0, 0)) (by (with_reducible repeat (first | refine blk_drewN ?_ _ | refine blk_drew ?_ | refine blk_alloc ?_ _)); exact BK426.out)) : gb426 ≠ gb451)); have n15_ := Aside0.mk ((by rw [hg]; exact Nat.ne_of_gt (blk_lt (g := gb426) (o := .cells #[.int .i64 a1_0, .string a1_1] 79 (0, 0)) (by (with_reducible repeat (first | refine blk_drewN ?_ _ | refine blk_drew ?_ | refine blk_alloc ?_ _)); exact BK426.out)) : gb451 ≠ gb426)); have n16_ := Aside0.mk ((by rw [hg]; exact Nat.ne_of_lt (blk_lt (g := gb427) (o := .cells #[.int .i64 a2_0, .string a2_1] 79 (0, 0)) (by (with_reducible repeat (first | refine blk_drewN ?_ _ | refine blk_drew ?_ | refine blk_alloc ?_ _)); exact BK427.out)) : gb427 ≠ gb451)); have n17_ := Aside0.mk ((by rw [hg]; exact Nat.ne_of_gt (blk_lt (g := gb427) (o := .cells #[.int .i64 a2_0, .string a2_1] 79 (0, 0)) (by (with_reducible repeat (first | refine blk_drewN ?_ _ | refine blk_drew ?_ | refine blk_alloc ?_ _)); exact BK427.out)) : gb451 ≠ gb427)); have n18_ := Aside0.mk ((by rw [hg]; exact Nat.ne_of_lt (blk_lt (g := gb438) (o := .cells #[.slice Ao52 t431.length co52, .slice Ao57 t434.length co57] 63 (0, 0)) (by (with_reducible repeat (first | refine blk_drewN ?_ _ | refine blk_drew ?_ | refine blk_alloc ?_ _)); exact BK438.out)) : gb438 ≠ gb451)); have n19_ := Aside0.mk ((by rw [hg]; exact Nat.ne_of_gt (blk_lt (g := gb438) (o := .cells #[.slice Ao52 t431.length co52, .slice Ao57 t434.length co57] 63 (0, 0)) (by (with_reducible repeat (first | refine blk_drewN ?_ _ | refine blk_drew ?_ | refine blk_alloc ?_ _)); exact BK438.out)) : gb451 ≠ gb438)); clear HO_439000; clear HO_439001; clear HO446; clear HO449; clear BK425; clear BK426; clear BK427; clear BK438; clear HB; have HO_439000 := n0_; have HO_439001 := n1_; have HO446 := n2_; have HO449 := n3_; have BK425 := n4_; have BK426 := n5_; have BK427 := n6_; have BK438 := n7_; have HB := n8_; have BK451 := n9_; have GW451 := n10_; have GE451 := n11_; have NB425_451 := n12_; have NB451_425 := n13_; have NB426_451 := n14_; have NB451_426 := n15_; have NB427_451 := n16_; have NB451_427 := n17_; have NB438_451 := n18_; have NB451_438 := n19_; clear n0_ n1_ n2_ n3_ n4_ n5_ n6_ n7_ n8_ n9_ n10_ n11_ n12_ n13_ n14_ n15_ n16_ n17_ n18_ n19_; clear hb hbox hg; obtain ⟨Ao99, co99, eo99⟩ := Kd.V_slice HO446.out; subst eo99; have hnb100 := NB451_425.out; have hnc100 := NB425_451.out; have hnb101 := NB451_426.out; have hnc101 := NB426_451.out; have hnb102 := NB451_427.out; have hnc102 := NB427_451.out; have hnb103 := NB451_438.out; have hnc103 := NB438_451.out; have hcz104_0 : w98.cell? ⟨gb451, 0, none⟩ = some (.slice none 0 0) := (blk_cell BK451.out 0).trans rfl; have hcz104_1 : w98.cell? ⟨gb451, 1, none⟩ = some (.slice none 0 0) := (blk_cell BK451.out 1).trans rfl; have hfz104_0 := blk_frozen BK451.out 0; have hfz104_1 := blk_frozen BK451.out 1; obtain ⟨Ao105, co105, eo105⟩ := Kd.V_slice HO449.out; subst eo105))
                (try simp only [Act.put, List.setIfInBounds_toArray, List.set_cons_zero, List.set_cons_succ])
                go_cut [129] (fun v129 wc => ∃ (kq : Nat) (x129_88 : Bool), v129 = .bool x129_88 ∧ Aside0 (assartlaw02_DiskPuts.j2 kq t428 x129_88 a1_0 a1_1 a2_0 a2_1 t431 t434 t444 t447 = some r) ∧ Aside0 (kq ≤ k2) ∧ Aside0 (Kd.V Kd.string 9 wc w.heap.size (fun k_ => k_ ≠ gb425 ∧ k_ ≠ gb426 ∧ k_ ≠ gb427 ∧ k_ ≠ gb438 ∧ k_ ≠ gb451) (.slice Ao52 t431.length co52) t431) ∧ Aside0 (Kd.V k79 79 wc w.heap.size (fun k_ => k_ ≠ gb425 ∧ k_ ≠ gb426 ∧ k_ ≠ gb427 ∧ k_ ≠ gb438 ∧ k_ ≠ gb451) (.slice Ao57 t434.length co57) t434) ∧ Aside0 (Kd.V Kd.string 9 wc w.heap.size (fun k_ => k_ ≠ gb425 ∧ k_ ≠ gb426 ∧ k_ ≠ gb427 ∧ k_ ≠ gb438 ∧ k_ ≠ gb451) (.slice Ao99 t444.length co99) t444) ∧ Aside0 (Kd.V k79 79 wc w.heap.size (fun k_ => k_ ≠ gb425 ∧ k_ ≠ gb426 ∧ k_ ≠ gb427 ∧ k_ ≠ gb438 ∧ k_ ≠ gb451) (.slice Ao105 t447.length co105) t447) ∧ Aside0 (wc.heap[gb425]? = some (.cells #[(.slice A0_0 l0_0.length c0_0), (.slice A0_1 l0_1.length c0_1)] 63 (0, 0))) ∧ Aside0 (wc.heap[gb426]? = some (.cells #[.int .i64 a1_0, .string a1_1] 79 (0, 0))) ∧ Aside0 (wc.heap[gb427]? = some (.cells #[.int .i64 a2_0, .string a2_1] 79 (0, 0))) ∧ Aside0 (wc.heap[gb438]? = some (.cells #[(.slice Ao52 t431.length co52), (.slice Ao57 t434.length co57)] 63 (0, 0))) ∧ Aside0 (wc.heap[gb451]? = some (.cells #[(.slice Ao99 t444.length co99), (.slice Ao105 t447.length co105)] 63 (0, 0))) ∧ Aside0 (Below w.heap.size w wc))
                case first =>
                  have H := HC89.out
                  clear HC89
                  by_cases c106 : t450 = 0
                  · rw [if_pos c106] at H
                    have c106b0 : (t450 == 0) = true := beq_iff_eq.mpr c106
                    have c106b1 : (t450 != 0) = false := bne_eq_false_iff_eq.mpr c106
                    clear c106
                    (first | rw [c106b0] | (simp only [i64_w, i32_w]; rw [c106b0]) | skip)
                    have H' := Aside0.mk H
                    clear H
                    have hnb107 := NB426_425.out
                    have hnc107 := NB425_426.out
                    have hnb108 := NB426_427.out
                    have hnc108 := NB427_426.out
                    have hnb109 := NB426_438.out
                    have hnc109 := NB438_426.out
                    have hnb110 := NB426_451.out
                    have hnc110 := NB451_426.out
                    have hcz111_0 : w98.cell? ⟨gb426, 0, none⟩ = some (.int .i64 a1_0) := (blk_cell BK426.out 0).trans rfl
                    have hcz111_1 : w98.cell? ⟨gb426, 1, none⟩ = some (.string a1_1) := (blk_cell BK426.out 1).trans rfl
                    have hfz111_0 := blk_frozen BK426.out 0
                    have hfz111_1 := blk_frozen BK426.out 1
                    have hnb112 := NB427_425.out
                    have hnc112 := NB425_427.out
                    have hnb113 := NB427_438.out
                    have hnc113 := NB438_427.out
                    have hnb114 := NB427_451.out
                    have hnc114 := NB451_427.out
                    have hcz115_0 : w98.cell? ⟨gb427, 0, none⟩ = some (.int .i64 a2_0) := (blk_cell BK427.out 0).trans rfl
                    have hcz115_1 : w98.cell? ⟨gb427, 1, none⟩ = some (.string a2_1) := (blk_cell BK427.out 1).trans rfl
                    have hfz115_0 := blk_frozen BK427.out 0
                    have hfz115_1 := blk_frozen BK427.out 1
                    go_wp2
                    go_meet
                    case rel => exact ⟨_, ((a1_0 == a2_0)), (by first | rfl | (simp; done) | (simp [*]; done)), H', ⟨by have := HJ4.out; have := HK2.out; first | omega | exact Nat.le_refl _⟩, ⟨by (with_reducible repeat (first | apply Kd.V_alloc | apply Kd.V_drewN | apply Kd.V_drew)); exact Kd.V_mono (Kd.V_far (p := ⟨gb451, 1, none⟩) (Kd.V_far (p := ⟨gb451, 0, none⟩) (Kd.V_mono HO_439000.out (fun k_ hk => (⟨hk, hk.2⟩ : _ ∧ k_ ≠ gb451))) (fun _ hk => hk.2) (.slice Ao99 t444.length co99)) (fun _ hk => hk.2) (.slice Ao105 t447.length co105)) (fun _ hk => ⟨hk.1.1.1, ⟨hk.1.1.2.1, ⟨hk.1.1.2.2.1, ⟨hk.1.1.2.2.2, hk.1.2⟩⟩⟩⟩)⟩, ⟨by (with_reducible repeat (first | apply Kd.V_alloc | apply Kd.V_drewN | apply Kd.V_drew)); exact Kd.V_mono (Kd.V_far (p := ⟨gb451, 1, none⟩) (Kd.V_far (p := ⟨gb451, 0, none⟩) (Kd.V_mono HO_439001.out (fun k_ hk => (⟨hk, hk.2⟩ : _ ∧ k_ ≠ gb451))) (fun _ hk => hk.2) (.slice Ao99 t444.length co99)) (fun _ hk => hk.2) (.slice Ao105 t447.length co105)) (fun _ hk => ⟨hk.1.1.1, ⟨hk.1.1.2.1, ⟨hk.1.1.2.2.1, ⟨hk.1.1.2.2.2, hk.1.2⟩⟩⟩⟩)⟩, ⟨by (with_reducible repeat (first | apply Kd.V_alloc | apply Kd.V_drewN | apply Kd.V_drew)); exact Kd.V_mono (Kd.V_far (p := ⟨gb451, 1, none⟩) (Kd.V_far (p := ⟨gb451, 0, none⟩) (Kd.V_mono HO446.out (fun k_ hk => (⟨hk, hk.2⟩ : _ ∧ k_ ≠ gb451))) (fun _ hk => hk.2) (.slice Ao99 t444.length co99)) (fun _ hk => hk.2) (.slice Ao105 t447.length co105)) (fun _ hk => ⟨hk.1.1.1, ⟨hk.1.1.2.1, ⟨hk.1.1.2.2.1, ⟨hk.1.1.2.2.2, hk.1.2⟩⟩⟩⟩)⟩, ⟨by (with_reducible repeat (first | apply Kd.V_alloc | apply Kd.V_drewN | apply Kd.V_drew)); exact Kd.V_mono (Kd.V_far (p := ⟨gb451, 1, none⟩) (Kd.V_far (p := ⟨gb451, 0, none⟩) (Kd.V_mono HO449.out (fun k_ hk => (⟨hk, hk.2⟩ : _ ∧ k_ ≠ gb451))) (fun _ hk => hk.2) (.slice Ao99 t444.length co99)) (fun _ hk => hk.2) (.slice Ao105 t447.length co105)) (fun _ hk => ⟨hk.1.1.1, ⟨hk.1.1.2.1, ⟨hk.1.1.2.2.1, ⟨hk.1.1.2.2.2, hk.1.2⟩⟩⟩⟩)⟩, ⟨by (with_reducible repeat (first | refine blk_drewN ?_ _ | refine blk_drew ?_ | refine blk_alloc ?_ _)); refine blk_far ?_ NB425_451.out _; (with_reducible repeat (first | refine blk_drewN ?_ _ | refine blk_drew ?_ | refine blk_alloc ?_ _)); refine blk_far ?_ NB425_451.out _; (with_reducible repeat (first | refine blk_drewN ?_ _ | refine blk_drew ?_ | refine blk_alloc ?_ _)); exact BK425.out⟩, ⟨by (with_reducible repeat (first | refine blk_drewN ?_ _ | refine blk_drew ?_ | refine blk_alloc ?_ _)); refine blk_far ?_ NB426_451.out _; (with_reducible repeat (first | refine blk_drewN ?_ _ | refine blk_drew ?_ | refine blk_alloc ?_ _)); refine blk_far ?_ NB426_451.out _; (with_reducible repeat (first | refine blk_drewN ?_ _ | refine blk_drew ?_ | refine blk_alloc ?_ _)); exact BK426.out⟩, ⟨by (with_reducible repeat (first | refine blk_drewN ?_ _ | refine blk_drew ?_ | refine blk_alloc ?_ _)); refine blk_far ?_ NB427_451.out _; (with_reducible repeat (first | refine blk_drewN ?_ _ | refine blk_drew ?_ | refine blk_alloc ?_ _)); refine blk_far ?_ NB427_451.out _; (with_reducible repeat (first | refine blk_drewN ?_ _ | refine blk_drew ?_ | refine blk_alloc ?_ _)); exact BK427.out⟩, ⟨by (with_reducible repeat (first | refine blk_drewN ?_ _ | refine blk_drew ?_ | refine blk_alloc ?_ _)); refine blk_far ?_ NB438_451.out _; (with_reducible repeat (first | refine blk_drewN ?_ _ | refine blk_drew ?_ | refine blk_alloc ?_ _)); refine blk_far ?_ NB438_451.out _; (with_reducible repeat (first | refine blk_drewN ?_ _ | refine blk_drew ?_ | refine blk_alloc ?_ _)); exact BK438.out⟩, ⟨by (with_reducible repeat (first | refine blk_drewN ?_ _ | refine blk_drew ?_ | refine blk_alloc ?_ _)); refine blk_put (cs := #[.slice Ao99 t444.length co99, .slice none 0 0]) ?_ 1 _ rfl; (with_reducible repeat (first | refine blk_drewN ?_ _ | refine blk_drew ?_ | refine blk_alloc ?_ _)); refine blk_put (cs := #[.slice none 0 0, .slice none 0 0]) ?_ 0 _ rfl; (with_reducible repeat (first | refine blk_drewN ?_ _ | refine blk_drew ?_ | refine blk_alloc ?_ _)); exact BK451.out⟩, ⟨by repeat (first | (with_reducible first | exact HB.out | apply below_alloc | apply pw_below_drewN | apply below_drew1 | refine below_set ?_ GE425.out | refine below_set ?_ GE426.out | refine below_set ?_ GE427.out | refine below_set ?_ GE438.out | refine below_set ?_ GE451.out) | exact HB.out)⟩⟩
                  · rw [if_neg c106] at H
                    have c106b0 : (t450 == 0) = false := beq_eq_false_iff_ne.mpr c106
                    have c106b1 : (t450 != 0) = true := bne_iff_ne.mpr c106
                    (first | rw [c106b0] | (simp only [i64_w, i32_w]; rw [c106b0]) | skip)
                    have H' := Aside0.mk H
                    clear H
                    go_wp2
                    go_meet
                    case rel => exact ⟨_, (true), (by first | rfl | (simp; done) | (simp [*]; done)), H', ⟨by have := HJ4.out; have := HK2.out; first | omega | exact Nat.le_refl _⟩, ⟨by (with_reducible repeat (first | apply Kd.V_alloc | apply Kd.V_drewN | apply Kd.V_drew)); exact Kd.V_mono (Kd.V_far (p := ⟨gb451, 1, none⟩) (Kd.V_far (p := ⟨gb451, 0, none⟩) (Kd.V_mono HO_439000.out (fun k_ hk => (⟨hk, hk.2⟩ : _ ∧ k_ ≠ gb451))) (fun _ hk => hk.2) (.slice Ao99 t444.length co99)) (fun _ hk => hk.2) (.slice Ao105 t447.length co105)) (fun _ hk => ⟨hk.1.1.1, ⟨hk.1.1.2.1, ⟨hk.1.1.2.2.1, ⟨hk.1.1.2.2.2, hk.1.2⟩⟩⟩⟩)⟩, ⟨by (with_reducible repeat (first | apply Kd.V_alloc | apply Kd.V_drewN | apply Kd.V_drew)); exact Kd.V_mono (Kd.V_far (p := ⟨gb451, 1, none⟩) (Kd.V_far (p := ⟨gb451, 0, none⟩) (Kd.V_mono HO_439001.out (fun k_ hk => (⟨hk, hk.2⟩ : _ ∧ k_ ≠ gb451))) (fun _ hk => hk.2) (.slice Ao99 t444.length co99)) (fun _ hk => hk.2) (.slice Ao105 t447.length co105)) (fun _ hk => ⟨hk.1.1.1, ⟨hk.1.1.2.1, ⟨hk.1.1.2.2.1, ⟨hk.1.1.2.2.2, hk.1.2⟩⟩⟩⟩)⟩, ⟨by (with_reducible repeat (first | apply Kd.V_alloc | apply Kd.V_drewN | apply Kd.V_drew)); exact Kd.V_mono (Kd.V_far (p := ⟨gb451, 1, none⟩) (Kd.V_far (p := ⟨gb451, 0, none⟩) (Kd.V_mono HO446.out (fun k_ hk => (⟨hk, hk.2⟩ : _ ∧ k_ ≠ gb451))) (fun _ hk => hk.2) (.slice Ao99 t444.length co99)) (fun _ hk => hk.2) (.slice Ao105 t447.length co105)) (fun _ hk => ⟨hk.1.1.1, ⟨hk.1.1.2.1, ⟨hk.1.1.2.2.1, ⟨hk.1.1.2.2.2, hk.1.2⟩⟩⟩⟩)⟩, ⟨by (with_reducible repeat (first | apply Kd.V_alloc | apply Kd.V_drewN | apply Kd.V_drew)); exact Kd.V_mono (Kd.V_far (p := ⟨gb451, 1, none⟩) (Kd.V_far (p := ⟨gb451, 0, none⟩) (Kd.V_mono HO449.out (fun k_ hk => (⟨hk, hk.2⟩ : _ ∧ k_ ≠ gb451))) (fun _ hk => hk.2) (.slice Ao99 t444.length co99)) (fun _ hk => hk.2) (.slice Ao105 t447.length co105)) (fun _ hk => ⟨hk.1.1.1, ⟨hk.1.1.2.1, ⟨hk.1.1.2.2.1, ⟨hk.1.1.2.2.2, hk.1.2⟩⟩⟩⟩)⟩, ⟨by (with_reducible repeat (first | refine blk_drewN ?_ _ | refine blk_drew ?_ | refine blk_alloc ?_ _)); refine blk_far ?_ NB425_451.out _; (with_reducible repeat (first | refine blk_drewN ?_ _ | refine blk_drew ?_ | refine blk_alloc ?_ _)); refine blk_far ?_ NB425_451.out _; (with_reducible repeat (first | refine blk_drewN ?_ _ | refine blk_drew ?_ | refine blk_alloc ?_ _)); exact BK425.out⟩, ⟨by (with_reducible repeat (first | refine blk_drewN ?_ _ | refine blk_drew ?_ | refine blk_alloc ?_ _)); refine blk_far ?_ NB426_451.out _; (with_reducible repeat (first | refine blk_drewN ?_ _ | refine blk_drew ?_ | refine blk_alloc ?_ _)); refine blk_far ?_ NB426_451.out _; (with_reducible repeat (first | refine blk_drewN ?_ _ | refine blk_drew ?_ | refine blk_alloc ?_ _)); exact BK426.out⟩, ⟨by (with_reducible repeat (first | refine blk_drewN ?_ _ | refine blk_drew ?_ | refine blk_alloc ?_ _)); refine blk_far ?_ NB427_451.out _; (with_reducible repeat (first | refine blk_drewN ?_ _ | refine blk_drew ?_ | refine blk_alloc ?_ _)); refine blk_far ?_ NB427_451.out _; (with_reducible repeat (first | refine blk_drewN ?_ _ | refine blk_drew ?_ | refine blk_alloc ?_ _)); exact BK427.out⟩, ⟨by (with_reducible repeat (first | refine blk_drewN ?_ _ | refine blk_drew ?_ | refine blk_alloc ?_ _)); refine blk_far ?_ NB438_451.out _; (with_reducible repeat (first | refine blk_drewN ?_ _ | refine blk_drew ?_ | refine blk_alloc ?_ _)); refine blk_far ?_ NB438_451.out _; (with_reducible repeat (first | refine blk_drewN ?_ _ | refine blk_drew ?_ | refine blk_alloc ?_ _)); exact BK438.out⟩, ⟨by (with_reducible repeat (first | refine blk_drewN ?_ _ | refine blk_drew ?_ | refine blk_alloc ?_ _)); refine blk_put (cs := #[.slice Ao99 t444.length co99, .slice none 0 0]) ?_ 1 _ rfl; (with_reducible repeat (first | refine blk_drewN ?_ _ | refine blk_drew ?_ | refine blk_alloc ?_ _)); refine blk_put (cs := #[.slice none 0 0, .slice none 0 0]) ?_ 0 _ rfl; (with_reducible repeat (first | refine blk_drewN ?_ _ | refine blk_drew ?_ | refine blk_alloc ?_ _)); exact BK451.out⟩, ⟨by repeat (first | (with_reducible first | exact HB.out | apply below_alloc | apply pw_below_drewN | apply below_drew1 | refine below_set ?_ GE425.out | refine below_set ?_ GE426.out | refine below_set ?_ GE427.out | refine below_set ?_ GE438.out | refine below_set ?_ GE451.out) | exact HB.out)⟩⟩
                case rest =>
                  clear HC89
                  try clear c1
                  try clear c2
                  try clear p2
                  try clear c3
                  try clear c4
                  try clear c5
                  try clear c6
                  try clear p6
                  try clear c7
                  try clear c8
                  try clear c9
                  try clear c10
                  try clear c11
                  try clear c13
                  try clear c14
                  try clear c14b0
                  try clear c14b1
                  try clear c15
                  try clear c16
                  try clear c21
                  try clear c23
                  try clear c24
                  try clear c29
                  try clear c32
                  try clear c33
                  try clear c34
                  try clear c38
                  try clear c39
                  try clear c40
                  try clear c42
                  try clear c44
                  try clear c44b0
                  try clear c44b1
                  try clear c45
                  try clear c46
                  try clear c48
                  try clear c53
                  try clear c54
                  try clear c55
                  try clear c58
                  try clear c58b0
                  try clear c61
                  try clear c61b0
                  try clear c61b1
                  try clear c62
                  try clear c62b0
                  try clear c62b1
                  try clear c63
                  try clear c63b0
                  try clear c63b1
                  try clear c64
                  try clear c64b0
                  try clear c64b1
                  try clear p64
                  try clear c65
                  try clear c66
                  try clear c67
                  try clear c70
                  try clear c71
                  try clear c74
                  try clear c76
                  try clear c76b0
                  try clear c76b1
                  try clear c77
                  try clear c78
                  try clear c79
                  try clear c82
                  try clear c83
                  try clear c86
                  try clear c90
                  try clear c91
                  try clear c92
                  try clear c94
                  try clear c95
                  try clear c100
                  try clear c101
                  try clear c102
                  try clear c103
                  try clear c106
                  try clear c106b0
                  try clear c106b1
                  try clear c107
                  try clear c108
                  try clear c109
                  try clear c110
                  try clear c112
                  try clear c113
                  try clear c114
                  try clear hcz104_0
                  try clear hcz104_1
                  try clear hcz111_0
                  try clear hcz111_1
                  try clear hcz115_0
                  try clear hcz115_1
                  try clear hcz17_0
                  try clear hcz17_1
                  try clear hcz19_0
                  try clear hcz19_1
                  try clear hcz22_0
                  try clear hcz22_1
                  try clear hcz25_0
                  try clear hcz25_1
                  try clear hcz27_0
                  try clear hcz27_1
                  try clear hcz30_0
                  try clear hcz30_1
                  try clear hcz31_0
                  try clear hcz31_1
                  try clear hcz34_0
                  try clear hcz34_1
                  try clear hcz36_0
                  try clear hcz36_1
                  try clear hcz40_0
                  try clear hcz40_1
                  try clear hcz47_0
                  try clear hcz47_1
                  try clear hcz49_0
                  try clear hcz49_1
                  try clear hcz56_0
                  try clear hcz56_1
                  try clear hcz68_0
                  try clear hcz68_1
                  try clear hcz72_0
                  try clear hcz72_1
                  try clear hcz75_0
                  try clear hcz75_1
                  try clear hcz80_0
                  try clear hcz80_1
                  try clear hcz84_0
                  try clear hcz84_1
                  try clear hcz87_0
                  try clear hcz87_1
                  try clear hcz93_0
                  try clear hcz93_1
                  try clear hcz96_0
                  try clear hcz96_1
                  try clear hfz104_0
                  try clear hfz104_1
                  try clear hfz111_0
                  try clear hfz111_1
                  try clear hfz115_0
                  try clear hfz115_1
                  try clear hfz17_0
                  try clear hfz17_1
                  try clear hfz19_0
                  try clear hfz19_1
                  try clear hfz22_0
                  try clear hfz22_1
                  try clear hfz25_0
                  try clear hfz25_1
                  try clear hfz27_0
                  try clear hfz27_1
                  try clear hfz30_0
                  try clear hfz30_1
                  try clear hfz31_0
                  try clear hfz31_1
                  try clear hfz34_0
                  try clear hfz34_1
                  try clear hfz36_0
                  try clear hfz36_1
                  try clear hfz40_0
                  try clear hfz40_1
                  try clear hfz47_0
                  try clear hfz47_1
                  try clear hfz49_0
                  try clear hfz49_1
                  try clear hfz56_0
                  try clear hfz56_1
                  try clear hfz68_0
                  try clear hfz68_1
                  try clear hfz72_0
                  try clear hfz72_1
                  try clear hfz75_0
                  try clear hfz75_1
                  try clear hfz80_0
                  try clear hfz80_1
                  try clear hfz84_0
                  try clear hfz84_1
                  try clear hfz87_0
                  try clear hfz87_1
                  try clear hfz93_0
                  try clear hfz93_1
                  try clear hfz96_0
                  try clear hfz96_1
                  try clear p2
                  obtain ⟨kq, x129_88, rfl, HA, HJ88, HO_439000, HO_439001, HO_452000, HO_452001, BK425, BK426, BK427, BK438, BK451, HB⟩ := hcut
                  cases kq with
                  | zero => exact absurd HA.out (by simp [assartlaw02_DiskPuts.j2])
                  | succ kj88 =>
                    have H := HA.out
                    clear HA
                    simp only [assartlaw02_DiskPuts.j2] at H
                    by_cases c116 : x129_88 = true
                    · subst c116
                      have H1 : (if t428 = true then ((assartref02_Right.f kj88 t431 t434).bind fun t452 => (some t452)) else (none)) = some r := by rw [if_pos rfl] at H; exact H
                      clear H
                      have H := H1
                      clear H1
                      by_cases c117 : t428 = true
                      · subst c117
                        have H1 : ((assartref02_Right.f kj88 t431 t434).bind fun t452 => (some t452)) = some r := by rw [if_pos rfl] at H; exact H
                        clear H
                        have H := H1
                        clear H1
                        replace H := Option.bind_eq_some_iff.mp H
                        obtain ⟨t452, A1180, H⟩ := H
                        replace H : (some t452) = some r := H
                        have A118 := Aside0.mk A1180
                        clear A1180
                        obtain rfl := Option.some.inj H
                        have hnb119 := NB438_425.out
                        have hnc119 := NB425_438.out
                        have hnb120 := NB438_426.out
                        have hnc120 := NB426_438.out
                        have hnb121 := NB438_427.out
                        have hnc121 := NB427_438.out
                        have hnb122 := NB438_451.out
                        have hnc122 := NB451_438.out
                        have hcz123_0 : wc.cell? ⟨gb438, 0, none⟩ = some (.slice Ao52 t431.length co52) := (blk_cell BK438.out 0).trans rfl
                        have hcz123_1 : wc.cell? ⟨gb438, 1, none⟩ = some (.slice Ao57 t434.length co57) := (blk_cell BK438.out 1).trans rfl
                        have hfz123_0 := blk_frozen BK438.out 0
                        have hfz123_1 := blk_frozen BK438.out 1
                        go_wp2_with (first | (go_at_call 37; (with_reducible refine (assartref02_Right.calls kj88 _ _ t431 _ _ t434 t452 _ ?side1 ?side2 ?side3 ?side4 A118.out).mono ?_); (case side1 => repeat (first | exact (Kd.V_reads' HO_439000.out).2.2 | (with_reducible refine Kd.C_alloc ?_ _) | (with_reducible refine Kd.C_drewN ?_ _) | (with_reducible refine Kd.C_drew ?_))); (case side2 => exact (Kd.V_reads' HO_439000.out).2.1); (case side3 => repeat (first | exact (Kd.V_reads' HO_439001.out).2.2 | (with_reducible refine Kd.C_alloc ?_ _) | (with_reducible refine Kd.C_drewN ?_ _) | (with_reducible refine Kd.C_drew ?_))); (case side4 => exact (Kd.V_reads' HO_439001.out).2.1); rintro e w124 ⟨rfl, hb⟩; have n0_ := Aside0.mk (Kd.V_below (by (with_reducible repeat (first | apply Kd.V_alloc | apply Kd.V_drewN | apply Kd.V_drew)); exact HO_439000.out) hb); have n1_ := Aside0.mk (Kd.V_below (by (with_reducible repeat (first | apply Kd.V_alloc | apply Kd.V_drewN | apply Kd.V_drew)); exact HO_439001.out) hb); have n2_ := Aside0.mk (Kd.V_below (by (with_reducible repeat (first | apply Kd.V_alloc | apply Kd.V_drewN | apply Kd.V_drew)); exact HO_452000.out) hb); have n3_ := Aside0.mk (Kd.V_below (by (with_reducible repeat (first | apply Kd.V_alloc | apply Kd.V_drewN | apply Kd.V_drew)); exact HO_452001.out) hb); have n4_ := Aside0.mk (blk_below (g := gb425) (o := .cells #[.slice A0_0 l0_0.length c0_0, .slice A0_1 l0_1.length c0_1] 63 (0, 0)) (by (with_reducible repeat (first | refine blk_drewN ?_ _ | refine blk_drew ?_ | refine blk_alloc ?_ _)); exact BK425.out) hb); have n5_ := Aside0.mk (blk_below (g := gb426) (o := .cells #[.int .i64 a1_0, .string a1_1] 79 (0, 0)) (by (with_reducible repeat (first | refine blk_drewN ?_ _ | refine blk_drew ?_ | refine blk_alloc ?_ _)); exact BK426.out) hb); have n6_ := Aside0.mk (blk_below (g := gb427) (o := .cells #[.int .i64 a2_0, .string a2_1] 79 (0, 0)) (by (with_reducible repeat (first | refine blk_drewN ?_ _ | refine blk_drew ?_ | refine blk_alloc ?_ _)); exact BK427.out) hb); have n7_ := Aside0.mk (blk_below (g := gb438) (o := .cells #[.slice Ao52 t431.length co52, .slice Ao57 t434.length co57] 63 (0, 0)) (by (with_reducible repeat (first | refine blk_drewN ?_ _ | refine blk_drew ?_ | refine blk_alloc ?_ _)); exact BK438.out) hb); have n8_ := Aside0.mk (blk_below (g := gb451) (o := .cells #[.slice Ao99 t444.length co99, .slice Ao105 t447.length co105] 63 (0, 0)) (by (with_reducible repeat (first | refine blk_drewN ?_ _ | refine blk_drew ?_ | refine blk_alloc ?_ _)); exact BK451.out) hb); have n9_ := Aside0.mk (below_step (by repeat (first | (with_reducible first | exact HB.out | apply below_alloc | apply pw_below_drewN | apply below_drew1 | refine below_set ?_ GE425.out | refine below_set ?_ GE426.out | refine below_set ?_ GE427.out | refine below_set ?_ GE438.out | refine below_set ?_ GE451.out) | exact HB.out)) hb); clear HO_439000; clear HO_439001; clear HO_452000; clear HO_452001; clear BK425; clear BK426; clear BK427; clear BK438; clear BK451; clear HB; have HO_439000 := n0_; have HO_439001 := n1_; have HO_452000 := n2_; have HO_452001 := n3_; have BK425 := n4_; have BK426 := n5_; have BK427 := n6_; have BK438 := n7_; have BK451 := n8_; have HB := n9_; clear n0_ n1_ n2_ n3_ n4_ n5_ n6_ n7_ n8_ n9_; (try clear hb); (try clear hb2); (try clear hk); (try clear hi)))
                        go_ret
                        exact ⟨by first | rfl | (simp [errW_none, errW_some] <;> rfl) | (simp [*, errW_none, errW_some] <;> rfl), by repeat (first | (with_reducible first | exact HB.out | apply below_alloc | apply pw_below_drewN | apply below_drew1 | refine below_set ?_ GE425.out | refine below_set ?_ GE426.out | refine below_set ?_ GE427.out | refine below_set ?_ GE438.out | refine below_set ?_ GE451.out) | exact HB.out)⟩
                      · replace c117 := Bool.eq_false_iff.mpr c117
                        subst c117
                        have H1 : (none) = some r := by rw [if_neg (show ¬ (false = true) by decide)] at H; exact H
                        clear H
                        have H := H1
                        clear H1
                        exact absurd H (by simp)
                    · replace c116 := Bool.eq_false_iff.mpr c116
                      subst c116
                      have H1 : ((disk_Put.f t431 t434 a2_0 a2_1).bind fun bt453 => ((disk_Put.f t444 t447 a1_0 a1_1).bind fun bt461 => (if t428 = true then (if bt453.2.2 = 0 then (if bt461.2.2 = 0 then ((disk_Flush.f bt453.1 bt453.2.1).bind fun bt469 => ((disk_Flush.f bt461.1 bt461.2.1).bind fun bt475 => ((assartref02_Same.f kj88 bt469.1 bt469.2 bt475.1 bt475.2).bind fun t481 => (some t481)))) else (none)) else (none)) else (none)))) = some r := by rw [if_neg (show ¬ (false = true) by decide)] at H; exact H
                      clear H
                      have H := H1
                      clear H1
                      replace H := Option.bind_eq_some_iff.mp H
                      obtain ⟨⟨t453, t456, t459⟩, A1250, H⟩ := H
                      replace H : ((disk_Put.f t444 t447 a1_0 a1_1).bind fun bt461 => (if t428 = true then (if t459 = 0 then (if bt461.2.2 = 0 then ((disk_Flush.f t453 t456).bind fun bt469 => ((disk_Flush.f bt461.1 bt461.2.1).bind fun bt475 => ((assartref02_Same.f kj88 bt469.1 bt469.2 bt475.1 bt475.2).bind fun t481 => (some t481)))) else (none)) else (none)) else (none))) = some r := H
                      have A125 := Aside0.mk A1250
                      clear A1250
                      replace H := Option.bind_eq_some_iff.mp H
                      obtain ⟨⟨t461, t464, t467⟩, A1260, H⟩ := H
                      replace H : (if t428 = true then (if t459 = 0 then (if t467 = 0 then ((disk_Flush.f t453 t456).bind fun bt469 => ((disk_Flush.f t461 t464).bind fun bt475 => ((assartref02_Same.f kj88 bt469.1 bt469.2 bt475.1 bt475.2).bind fun t481 => (some t481)))) else (none)) else (none)) else (none)) = some r := H
                      have A126 := Aside0.mk A1260
                      clear A1260
                      by_cases c127 : t428 = true
                      · subst c127
                        have H1 : (if t459 = 0 then (if t467 = 0 then ((disk_Flush.f t453 t456).bind fun bt469 => ((disk_Flush.f t461 t464).bind fun bt475 => ((assartref02_Same.f kj88 bt469.1 bt469.2 bt475.1 bt475.2).bind fun t481 => (some t481)))) else (none)) else (none)) = some r := by rw [if_pos rfl] at H; exact H
                        clear H
                        have H := H1
                        clear H1
                        by_cases c128 : t459 = 0
                        · rw [if_pos c128] at H
                          have c128b0 : (t459 == 0) = true := beq_iff_eq.mpr c128
                          have c128b1 : (t459 != 0) = false := bne_eq_false_iff_eq.mpr c128
                          clear c128
                          by_cases c129 : t467 = 0
                          · rw [if_pos c129] at H
                            have c129b0 : (t467 == 0) = true := beq_iff_eq.mpr c129
                            have c129b1 : (t467 != 0) = false := bne_eq_false_iff_eq.mpr c129
                            clear c129
                            replace H := Option.bind_eq_some_iff.mp H
                            obtain ⟨⟨t469, t472⟩, A1300, H⟩ := H
                            replace H : ((disk_Flush.f t461 t464).bind fun bt475 => ((assartref02_Same.f kj88 t469 t472 bt475.1 bt475.2).bind fun t481 => (some t481))) = some r := H
                            have A130 := Aside0.mk A1300
                            clear A1300
                            replace H := Option.bind_eq_some_iff.mp H
                            obtain ⟨⟨t475, t478⟩, A1310, H⟩ := H
                            replace H : ((assartref02_Same.f kj88 t469 t472 t475 t478).bind fun t481 => (some t481)) = some r := H
                            have A131 := Aside0.mk A1310
                            clear A1310
                            replace H := Option.bind_eq_some_iff.mp H
                            obtain ⟨t481, A1320, H⟩ := H
                            replace H : (some t481) = some r := H
                            have A132 := Aside0.mk A1320
                            clear A1320
                            obtain rfl := Option.some.inj H
                            have hnb133 := NB438_425.out
                            have hnc133 := NB425_438.out
                            have hnb134 := NB438_426.out
                            have hnc134 := NB426_438.out
                            have hnb135 := NB438_427.out
                            have hnc135 := NB427_438.out
                            have hnb136 := NB438_451.out
                            have hnc136 := NB451_438.out
                            have hcz137_0 : wc.cell? ⟨gb438, 0, none⟩ = some (.slice Ao52 t431.length co52) := (blk_cell BK438.out 0).trans rfl
                            have hcz137_1 : wc.cell? ⟨gb438, 1, none⟩ = some (.slice Ao57 t434.length co57) := (blk_cell BK438.out 1).trans rfl
                            have hfz137_0 := blk_frozen BK438.out 0
                            have hfz137_1 := blk_frozen BK438.out 1
                            have hnb138 := NB427_425.out
                            have hnc138 := NB425_427.out
                            have hnb139 := NB427_426.out
                            have hnc139 := NB426_427.out
                            have hnb140 := NB427_451.out
                            have hnc140 := NB451_427.out
                            have hcz141_0 : wc.cell? ⟨gb427, 0, none⟩ = some (.int .i64 a2_0) := (blk_cell BK427.out 0).trans rfl
                            have hcz141_1 : wc.cell? ⟨gb427, 1, none⟩ = some (.string a2_1) := (blk_cell BK427.out 1).trans rfl
                            have hfz141_0 := blk_frozen BK427.out 0
                            have hfz141_1 := blk_frozen BK427.out 1
                            try go_wp2_with (first | ((with_reducible refine gate_callee (f := 44) rfl ?_); refine goesL_ (some 141) rfl rfl Try.func44 (by kernel_rfl) rfl #[.agg #[.slice Ao52 t431.length co52, .slice Ao57 t434.length co57], .int .i64 a2_0, .string a2_1] rfl (by (try simp only [List.map_toArray, List.map_cons, List.map_nil]); first | done | rfl | (simp only [List.length_drop, List.length_take]; rfl)) ?_; (with_reducible refine (disk_Put.calls (fun k_ => (k_ ≠ gb425 ∧ (k_ ≠ gb426 ∧ (k_ ≠ gb427 ∧ (k_ ≠ gb438 ∧ k_ ≠ gb451))))) _ _ t431 (fun k_ => (k_ ≠ gb425 ∧ (k_ ≠ gb426 ∧ (k_ ≠ gb427 ∧ (k_ ≠ gb438 ∧ k_ ≠ gb451))))) _ _ t434 a2_0 a2_1 t453 t456 t459 _ ?side1 ?side2 A125.out).mono ?_); (case side1 => exact HO_439000.out); (case side2 => exact HO_439001.out); rintro e w142 ⟨v454, v457, rfl, ho0, ho1, hb⟩; refine ⟨_, rfl, ?_⟩; have n0_ := Aside0.mk (Kd.V_below (by (with_reducible repeat (first | apply Kd.V_alloc | apply Kd.V_drewN | apply Kd.V_drew)); exact HO_439000.out) hb); have n1_ := Aside0.mk (Kd.V_below (by (with_reducible repeat (first | apply Kd.V_alloc | apply Kd.V_drewN | apply Kd.V_drew)); exact HO_439001.out) hb); have n2_ := Aside0.mk (Kd.V_below (by (with_reducible repeat (first | apply Kd.V_alloc | apply Kd.V_drewN | apply Kd.V_drew)); exact HO_452000.out) hb); have n3_ := Aside0.mk (Kd.V_below (by (with_reducible repeat (first | apply Kd.V_alloc | apply Kd.V_drewN | apply Kd.V_drew)); exact HO_452001.out) hb); have n4_ := Aside0.mk (Kd.V_lower (Kd.V_mono (ok' := fun k_ => k_ ≠ gb425 ∧ k_ ≠ gb426 ∧ k_ ≠ gb427 ∧ k_ ≠ gb438 ∧ k_ ≠ gb451) ho0 (fun k_ hk_ => ⟨Or.elim hk_ (fun hs_ => Or.elim hs_ (fun hs_ => hs_.1) (fun hs_ => hs_.1)) (fun hn_ => (Kd.freshB (g := gb425) (o := .cells #[.slice A0_0 l0_0.length c0_0, .slice A0_1 l0_1.length c0_1] 63 (0, 0)) (by (with_reducible repeat (first | refine blk_drewN ?_ _ | refine blk_drew ?_ | refine blk_alloc ?_ _)); exact BK425.out) k_ hn_)), Or.elim hk_ (fun hs_ => Or.elim hs_ (fun hs_ => hs_.2.1) (fun hs_ => hs_.2.1)) (fun hn_ => (Kd.freshB (g := gb426) (o := .cells #[.int .i64 a1_0, .string a1_1] 79 (0, 0)) (by (with_reducible repeat (first | refine blk_drewN ?_ _ | refine blk_drew ?_ | refine blk_alloc ?_ _)); exact BK426.out) k_ hn_)), Or.elim hk_ (fun hs_ => Or.elim hs_ (fun hs_ => hs_.2.2.1) (fun hs_ => hs_.2.2.1)) (fun hn_ => (Kd.freshB (g := gb427) (o := .cells #[.int .i64 a2_0, .string a2_1] 79 (0, 0)) (by (with_reducible repeat (first | refine blk_drewN ?_ _ | refine blk_drew ?_ | refine blk_alloc ?_ _)); exact BK427.out) k_ hn_)), Or.elim hk_ (fun hs_ => Or.elim hs_ (fun hs_ => hs_.2.2.2.1) (fun hs_ => hs_.2.2.2.1)) (fun hn_ => (Kd.freshB (g := gb438) (o := .cells #[.slice Ao52 t431.length co52, .slice Ao57 t434.length co57] 63 (0, 0)) (by (with_reducible repeat (first | refine blk_drewN ?_ _ | refine blk_drew ?_ | refine blk_alloc ?_ _)); exact BK438.out) k_ hn_)), Or.elim hk_ (fun hs_ => Or.elim hs_ (fun hs_ => hs_.2.2.2.2) (fun hs_ => hs_.2.2.2.2)) (fun hn_ => (Kd.freshB (g := gb451) (o := .cells #[.slice Ao99 t444.length co99, .slice Ao105 t447.length co105] 63 (0, 0)) (by (with_reducible repeat (first | refine blk_drewN ?_ _ | refine blk_drew ?_ | refine blk_alloc ?_ _)); exact BK451.out) k_ hn_))⟩)) (below_size (by repeat (first | (with_reducible first | exact HB.out | apply below_alloc | apply pw_below_drewN | apply below_drew1 | refine below_set ?_ GE425.out | refine below_set ?_ GE426.out | refine below_set ?_ GE427.out | refine below_set ?_ GE438.out | refine below_set ?_ GE451.out) | exact HB.out)))); have n5_ := Aside0.mk (Kd.V_lower (Kd.V_mono (ok' := fun k_ => k_ ≠ gb425 ∧ k_ ≠ gb426 ∧ k_ ≠ gb427 ∧ k_ ≠ gb438 ∧ k_ ≠ gb451) ho1 (fun k_ hk_ => ⟨Or.elim hk_ (fun hs_ => Or.elim hs_ (fun hs_ => hs_.1) (fun hs_ => hs_.1)) (fun hn_ => (Kd.freshB (g := gb425) (o := .cells #[.slice A0_0 l0_0.length c0_0, .slice A0_1 l0_1.length c0_1] 63 (0, 0)) (by (with_reducible repeat (first | refine blk_drewN ?_ _ | refine blk_drew ?_ | refine blk_alloc ?_ _)); exact BK425.out) k_ hn_)), Or.elim hk_ (fun hs_ => Or.elim hs_ (fun hs_ => hs_.2.1) (fun hs_ => hs_.2.1)) (fun hn_ => (Kd.freshB (g := gb426) (o := .cells #[.int .i64 a1_0, .string a1_1] 79 (0, 0)) (by (with_reducible repeat (first | refine blk_drewN ?_ _ | refine blk_drew ?_ | refine blk_alloc ?_ _)); exact BK426.out) k_ hn_)), Or.elim hk_ (fun hs_ => Or.elim hs_ (fun hs_ => hs_.2.2.1) (fun hs_ => hs_.2.2.1)) (fun hn_ => (Kd.freshB (g := gb427) (o := .cells #[.int .i64 a2_0, .string a2_1] 79 (0, 0)) (by (with_reducible repeat (first | refine blk_drewN ?_ _ | refine blk_drew ?_ | refine blk_alloc ?_ _)); exact BK427.out) k_ hn_)), Or.elim hk_ (fun hs_ => Or.elim hs_ (fun hs_ => hs_.2.2.2.1) (fun hs_ => hs_.2.2.2.1)) (fun hn_ => (Kd.freshB (g := gb438) (o := .cells #[.slice Ao52 t431.length co52, .slice Ao57 t434.length co57] 63 (0, 0)) (by (with_reducible repeat (first | refine blk_drewN ?_ _ | refine blk_drew ?_ | refine blk_alloc ?_ _)); exact BK438.out) k_ hn_)), Or.elim hk_ (fun hs_ => Or.elim hs_ (fun hs_ => hs_.2.2.2.2) (fun hs_ => hs_.2.2.2.2)) (fun hn_ => (Kd.freshB (g := gb451) (o := .cells #[.slice Ao99 t444.length co99, .slice Ao105 t447.length co105] 63 (0, 0)) (by (with_reducible repeat (first | refine blk_drewN ?_ _ | refine blk_drew ?_ | refine blk_alloc ?_ _)); exact BK451.out) k_ hn_))⟩)) (below_size (by repeat (first | (with_reducible first | exact HB.out | apply below_alloc | apply pw_below_drewN | apply below_drew1 | refine below_set ?_ GE425.out | refine below_set ?_ GE426.out | refine below_set ?_ GE427.out | refine below_set ?_ GE438.out | refine below_set ?_ GE451.out) | exact HB.out)))); have n6_ := Aside0.mk (blk_below (g := gb425) (o := .cells #[.slice A0_0 l0_0.length c0_0, .slice A0_1 l0_1.length c0_1] 63 (0, 0)) (by (with_reducible repeat (first | refine blk_drewN ?_ _ | refine blk_drew ?_ | refine blk_alloc ?_ _)); exact BK425.out) hb); have n7_ := Aside0.mk (blk_below (g := gb426) (o := .cells #[.int .i64 a1_0, .string a1_1] 79 (0, 0)) (by (with_reducible repeat (first | refine blk_drewN ?_ _ | refine blk_drew ?_ | refine blk_alloc ?_ _)); exact BK426.out) hb); have n8_ := Aside0.mk (blk_below (g := gb427) (o := .cells #[.int .i64 a2_0, .string a2_1] 79 (0, 0)) (by (with_reducible repeat (first | refine blk_drewN ?_ _ | refine blk_drew ?_ | refine blk_alloc ?_ _)); exact BK427.out) hb); have n9_ := Aside0.mk (blk_below (g := gb438) (o := .cells #[.slice Ao52 t431.length co52, .slice Ao57 t434.length co57] 63 (0, 0)) (by (with_reducible repeat (first | refine blk_drewN ?_ _ | refine blk_drew ?_ | refine blk_alloc ?_ _)); exact BK438.out) hb); have n10_ := Aside0.mk (blk_below (g := gb451) (o := .cells #[.slice Ao99 t444.length co99, .slice Ao105 t447.length co105] 63 (0, 0)) (by (with_reducible repeat (first | refine blk_drewN ?_ _ | refine blk_drew ?_ | refine blk_alloc ?_ _)); exact BK451.out) hb); have n11_ := Aside0.mk (below_step (by repeat (first | (with_reducible first | exact HB.out | apply below_alloc | apply pw_below_drewN | apply below_drew1 | refine below_set ?_ GE425.out | refine below_set ?_ GE426.out | refine below_set ?_ GE427.out | refine below_set ?_ GE438.out | refine below_set ?_ GE451.out) | exact HB.out)) hb); clear HO_439000; clear HO_439001; clear HO_452000; clear HO_452001; clear BK425; clear BK426; clear BK427; clear BK438; clear BK451; clear HB; have HO_439000 := n0_; have HO_439001 := n1_; have HO_452000 := n2_; have HO_452001 := n3_; have HO455 := n4_; have HO458 := n5_; have BK425 := n6_; have BK426 := n7_; have BK427 := n8_; have BK438 := n9_; have BK451 := n10_; have HB := n11_; clear n0_ n1_ n2_ n3_ n4_ n5_ n6_ n7_ n8_ n9_ n10_ n11_; (try clear hb); (try clear hb2); (try clear hk); (try clear hi); (try clear ho0); (try clear ho1)) | ((with_reducible refine gate_dst (N := 17) rfl ?_); (try (refine gate_guard (by rfl) ?_; dsimp only)); refine box_event ?hg (N := 17) ?hd (cs := #[.slice none 0 0, .slice none 0 0]) (t := 63) ?hr ?_; (case hd => rfl); (case hg => rfl); (case hr => first | (go_simp; done) | (go_simp; rfl)); intro gb460 hg w143 hbox hb; have n0_ := Aside0.mk (Kd.V_below (Kd.V_elderB (by (with_reducible repeat (first | apply Kd.V_alloc | apply Kd.V_drewN | apply Kd.V_drew)); exact HO_439000.out) gb460 (Nat.le_of_eq hg.symm)) hb); have n1_ := Aside0.mk (Kd.V_below (Kd.V_elderB (by (with_reducible repeat (first | apply Kd.V_alloc | apply Kd.V_drewN | apply Kd.V_drew)); exact HO_439001.out) gb460 (Nat.le_of_eq hg.symm)) hb); have n2_ := Aside0.mk (Kd.V_below (Kd.V_elderB (by (with_reducible repeat (first | apply Kd.V_alloc | apply Kd.V_drewN | apply Kd.V_drew)); exact HO_452000.out) gb460 (Nat.le_of_eq hg.symm)) hb); have n3_ := Aside0.mk (Kd.V_below (Kd.V_elderB (by (with_reducible repeat (first | apply Kd.V_alloc | apply Kd.V_drewN | apply Kd.V_drew)); exact HO_452001.out) gb460 (Nat.le_of_eq hg.symm)) hb); have n4_ := Aside0.mk (Kd.V_below (Kd.V_elderB (by (with_reducible repeat (first | apply Kd.V_alloc | apply Kd.V_drewN | apply Kd.V_drew)); exact HO455.out) gb460 (Nat.le_of_eq hg.symm)) hb); have n5_ := Aside0.mk (Kd.V_below (Kd.V_elderB (by (with_reducible repeat (first | apply Kd.V_alloc | apply Kd.V_drewN | apply Kd.V_drew)); exact HO458.out) gb460 (Nat.le_of_eq hg.symm)) hb); have n6_ := Aside0.mk (blk_below (g := gb425) (o := .cells #[.slice A0_0 l0_0.length c0_0, .slice A0_1 l0_1.length c0_1] 63 (0, 0)) (by (with_reducible repeat (first | refine blk_drewN ?_ _ | refine blk_drew ?_ | refine blk_alloc ?_ _)); exact BK425.out) hb); have n7_ := Aside0.mk (blk_below (g := gb426) (o := .cells #[.int .i64 a1_0, .string a1_1] 79 (0, 0)) (by (with_reducible repeat (first | refine blk_drewN ?_ _ | refine blk_drew ?_ | refine blk_alloc ?_ _)); exact BK426.out) hb); have n8_ := Aside0.mk (blk_below (g := gb427) (o := .cells #[.int .i64 a2_0, .string a2_1] 79 (0, 0)) (by (with_reducible repeat (first | refine blk_drewN ?_ _ | refine blk_drew ?_ | refine blk_alloc ?_ _)); exact BK427.out) hb); have n9_ := Aside0.mk (blk_below (g := gb438) (o := .cells #[.slice Ao52 t431.length co52, .slice Ao57 t434.length co57] 63 (0, 0)) (by (with_reducible repeat (first | refine blk_drewN ?_ _ | refine blk_drew ?_ | refine blk_alloc ?_ _)); exact BK438.out) hb); have n10_ := Aside0.mk (blk_below (g := gb451) (o := .cells #[.slice Ao99 t444.length co99, .slice Ao105 t447.length co105] 63 (0, 0)) (by (with_reducible repeat (first | refine blk_drewN ?_ _ | refine blk_drew ?_ | refine blk_alloc ?_ _)); exact BK451.out) hb); have n11_ := Aside0.mk (below_step (by repeat (first | (with_reducible first | exact HB.out | apply below_alloc | apply pw_below_drewN | apply below_drew1 | refine below_set ?_ GE425.out | refine below_set ?_ GE426.out | refine below_set ?_ GE427.out | refine below_set ?_ GE438.out | refine below_set ?_ GE451.out) | exact HB.out)) hb); have n12_ := Aside0.mk (hbox); have n13_ := Aside0.mk ((by rw [hg]; exact (below_size (by repeat (first | (with_reducible first | exact HB.out | apply below_alloc | apply pw_below_drewN | apply below_drew1 | refine below_set ?_ GE425.out | refine below_set ?_ GE426.out | refine below_set ?_ GE427.out | refine below_set ?_ GE438.out | refine below_set ?_ GE451.out) | exact HB.out))) : w.heap.size ≤ gb460)); have n14_ := Aside0.mk ((by rw [hg]; exact (below_size (by repeat (first | (with_reducible first | exact HB.out | apply below_alloc | apply pw_below_drewN | apply below_drew1 | refine below_set ?_ GE425.out | refine below_set ?_ GE426.out | refine below_set ?_ GE427.out | refine below_set ?_ GE438.out | refine below_set ?_ GE451.out) | exact HB.out))) : w.heap.size ≤ gb460)); have n15_ := Aside0.mk ((by rw [hg]; exact Nat.ne_of_lt (blk_lt (g := gb425) (o := .cells #[.slice A0_0 l0_0.length c0_0, .slice A0_1 l0_1.length c0_1] 63 (0, 0)) (by (with_reducible repeat (first | refine blk_drewN ?_ _ | refine blk_drew ?_ | refine blk_alloc ?_ _)); exact BK425.out)) : gb425 ≠ gb460)); have n16_ := Aside0.mk ((by rw [hg]; exact Nat.ne_of_gt (blk_lt (g := gb425) (o := .cells #[.slice A0_0 l0_0.length c0_0, .slice A0_1 l0_1.length c0_1] 63 (0, 0)) (by (with_reducible repeat (first | refine blk_drewN ?_ _ | refine blk_drew ?_ | refine blk_alloc ?_ _)); exact BK425.out)) : gb460 ≠ gb425)); have n17_ := Aside0.mk ((by rw [hg]; exact Nat.ne_of_lt (blk_lt (g := gb426) (o := .cells #[.int .i64 a1_0, .string a1_1] 79 (0, 0)) (by (with_reducible repeat (first | refine blk_drewN ?_ _ | refine blk_drew ?_ | refine blk_alloc ?_ _)); exact BK426.out)) : gb426 ≠ gb460)); have n18_ := Aside0.mk ((by rw [hg]; exact Nat.ne_of_gt (blk_lt (g := gb426) (o := .cells #[.int .i64 a1_0, .string a1_1] 79 (0, 0)) (by (with_reducible repeat (first | refine blk_drewN ?_ _ | refine blk_drew ?_ | refine blk_alloc ?_ _)); exact BK426.out)) : gb460 ≠ gb426)); have n19_ := Aside0.mk ((by rw [hg]; exact Nat.ne_of_lt (blk_lt (g := gb427) (o := .cells #[.int .i64 a2_0, .string a2_1] 79 (0, 0)) (by (with_reducible repeat (first | refine blk_drewN ?_ _ | refine blk_drew ?_ | refine blk_alloc ?_ _)); exact BK427.out)) : gb427 ≠ gb460)); have n20_ := Aside0.mk ((by rw [hg]; exact Nat.ne_of_gt (blk_lt (g := gb427) (o := .cells #[.int .i64 a2_0, .string a2_1] 79 (0, 0)) (by (with_reducible repeat (first | refine blk_drewN ?_ _ | refine blk_drew ?_ | refine blk_alloc ?_ _)); exact BK427.out)) : gb460 ≠ gb427)); have n21_ := Aside0.mk ((by rw [hg]; exact Nat.ne_of_lt (blk_lt (g := gb438) (o := .cells #[.slice Ao52 t431.length co52, .slice Ao57 t434.length co57] 63 (0, 0)) (by (with_reducible repeat (first | refine blk_drewN ?_ _ | refine blk_drew ?_ | refine blk_alloc ?_ _)); exact BK438.out)) : gb438 ≠ gb460)); have n22_ := Aside0.mk ((by rw [hg]; exact Nat.ne_of_gt (blk_lt (g := gb438) (o := .cells #[.slice Ao52 t431.length co52, .slice Ao57 t434.length co57] 63 (0, 0)) (by (with_reducible repeat (first | refine blk_drewN ?_ _ | refine blk_drew ?_ | refine blk_alloc ?_ _)); exact BK438.out)) : gb460 ≠ gb438)); have n23_ := Aside0.mk ((by rw [hg]; exact Nat.ne_of_lt (blk_lt (g := gb451) (o := .cells #[.slice Ao99 t444.length co99, .slice Ao105 t447.length co105] 63 (0, 0)) (by (with_reducible repeat (first | refine blk_drewN ?_ _ | refine blk_drew ?_ | refine blk_alloc ?_ _)); exact BK451.out)) : gb451 ≠ gb460)); have n24_ := Aside0.mk ((by rw [hg]; exact Nat.ne_of_gt (blk_lt (g := gb451) (o := .cells #[.slice Ao99 t444.length co99, .slice Ao105 t447.length co105] 63 (0, 0)) (by (with_reducible repeat (first | refine blk_drewN ?_ _ | refine blk_drew ?_ | refine blk_alloc ?_ _)); exact BK451.out)) : gb460 ≠ gb451)); clear HO_439000; clear HO_439001; clear HO_452000; clear HO_452001; clear HO455; clear HO458; clear BK425; clear BK426; clear BK427; clear BK438; clear BK451; clear HB; have HO_439000 := n0_; have HO_439001 := n1_; have HO_452000 := n2_; have HO_452001 := n3_; have HO455 := n4_; have HO458 := n5_; have BK425 := n6_; have BK426 := n7_; have BK427 := n8_; have BK438 := n9_; have BK451 := n10_; have HB := n11_; have BK460 := n12_; have GW460 := n13_; have GE460 := n14_; have NB425_460 := n15_; have NB460_425 := n16_; have NB426_460 := n17_; have NB460_426 := n18_; have NB427_460 := n19_; have NB460_427 := n20_; have NB438_460 := n21_; have NB460_438 := n22_; have NB451_460 := n23_; have NB460_451 := n24_; clear n0_ n1_ n2_ n3_ n4_ n5_ n6_ n7_ n8_ n9_ n10_ n11_ n12_ n13_ n14_ n15_ n16_ n17_ n18_ n19_ n20_ n21_ n22_ n23_ n24_; clear hb hbox hg; obtain ⟨Ao144, co144, eo144⟩ := Kd.V_slice HO455.out; subst eo144; have hnb145 := NB460_425.out; have hnc145 := NB425_460.out; have hnb146 := NB460_426.out; have hnc146 := NB426_460.out; have hnb147 := NB460_427.out; have hnc147 := NB427_460.out; have hnb148 := NB460_438.out; have hnc148 := NB438_460.out; have hnb149 := NB460_451.out; have hnc149 := NB451_460.out; have hcz150_0 : w143.cell? ⟨gb460, 0, none⟩ = some (.slice none 0 0) := (blk_cell BK460.out 0).trans rfl; have hcz150_1 : w143.cell? ⟨gb460, 1, none⟩ = some (.slice none 0 0) := (blk_cell BK460.out 1).trans rfl; have hfz150_0 := blk_frozen BK460.out 0; have hfz150_1 := blk_frozen BK460.out 1; obtain ⟨Ao151, co151, eo151⟩ := Kd.V_slice HO458.out; subst eo151) | ((with_reducible refine gate_store (t := 63) (p := 17) rfl ?_); refine store_event (t := 63) (p := 17) (v := ?vo_w152) (w1 := ((w143.setCell ⟨gb460, 0, none⟩ (.slice Ao144 t453.length co144)).setCell ⟨gb460, 1, none⟩ (.slice Ao151 t456.length co151))) ?hg ?ho ?hn ?hr ?_; (case ho => rfl); (case hg => rfl); (case hn => rfl); (case hr => first | (go_simp; done) | (go_simp; rfl)); intro w152 hw; have n0_ : Aside0 (Kd.V Kd.string 9 w152 w.heap.size (fun k_ => k_ ≠ gb425 ∧ k_ ≠ gb426 ∧ k_ ≠ gb427 ∧ k_ ≠ gb438 ∧ k_ ≠ gb451 ∧ k_ ≠ gb460) (.slice Ao52 t431.length co52) t431) := ⟨(by rw [hw]; exact (by (with_reducible repeat (first | apply Kd.V_alloc | apply Kd.V_drewN | apply Kd.V_drew)); exact Kd.V_mono (Kd.V_far (p := ⟨gb460, 1, none⟩) (Kd.V_far (p := ⟨gb460, 0, none⟩) (Kd.V_mono HO_439000.out (fun k_ hk => (⟨hk, hk.2⟩ : _ ∧ k_ ≠ gb460))) (fun _ hk => hk.2) (.slice Ao144 t453.length co144)) (fun _ hk => hk.2) (.slice Ao151 t456.length co151)) (fun _ hk => ⟨hk.1.1.1, ⟨hk.1.1.2.1, ⟨hk.1.1.2.2.1, ⟨hk.1.1.2.2.2.1, ⟨hk.1.1.2.2.2.2, hk.1.2⟩⟩⟩⟩⟩)))⟩; have n1_ : Aside0 (Kd.V k79 79 w152 w.heap.size (fun k_ => k_ ≠ gb425 ∧ k_ ≠ gb426 ∧ k_ ≠ gb427 ∧ k_ ≠ gb438 ∧ k_ ≠ gb451 ∧ k_ ≠ gb460) (.slice Ao57 t434.length co57) t434) := ⟨(by rw [hw]; exact (by (with_reducible repeat (first | apply Kd.V_alloc | apply Kd.V_drewN | apply Kd.V_drew)); exact Kd.V_mono (Kd.V_far (p := ⟨gb460, 1, none⟩) (Kd.V_far (p := ⟨gb460, 0, none⟩) (Kd.V_mono HO_439001.out (fun k_ hk => (⟨hk, hk.2⟩ : _ ∧ k_ ≠ gb460))) (fun _ hk => hk.2) (.slice Ao144 t453.length co144)) (fun _ hk => hk.2) (.slice Ao151 t456.length co151)) (fun _ hk => ⟨hk.1.1.1, ⟨hk.1.1.2.1, ⟨hk.1.1.2.2.1, ⟨hk.1.1.2.2.2.1, ⟨hk.1.1.2.2.2.2, hk.1.2⟩⟩⟩⟩⟩)))⟩; have n2_ : Aside0 (Kd.V Kd.string 9 w152 w.heap.size (fun k_ => k_ ≠ gb425 ∧ k_ ≠ gb426 ∧ k_ ≠ gb427 ∧ k_ ≠ gb438 ∧ k_ ≠ gb451 ∧ k_ ≠ gb460) (.slice Ao99 t444.length co99) t444) := ⟨(by rw [hw]; exact (by (with_reducible repeat (first | apply Kd.V_alloc | apply Kd.V_drewN | apply Kd.V_drew)); exact Kd.V_mono (Kd.V_far (p := ⟨gb460, 1, none⟩) (Kd.V_far (p := ⟨gb460, 0, none⟩) (Kd.V_mono HO_452000.out (fun k_ hk => (⟨hk, hk.2⟩ : _ ∧ k_ ≠ gb460))) (fun _ hk => hk.2) (.slice Ao144 t453.length co144)) (fun _ hk => hk.2) (.slice Ao151 t456.length co151)) (fun _ hk => ⟨hk.1.1.1, ⟨hk.1.1.2.1, ⟨hk.1.1.2.2.1, ⟨hk.1.1.2.2.2.1, ⟨hk.1.1.2.2.2.2, hk.1.2⟩⟩⟩⟩⟩)))⟩; have n3_ : Aside0 (Kd.V k79 79 w152 w.heap.size (fun k_ => k_ ≠ gb425 ∧ k_ ≠ gb426 ∧ k_ ≠ gb427 ∧ k_ ≠ gb438 ∧ k_ ≠ gb451 ∧ k_ ≠ gb460) (.slice Ao105 t447.length co105) t447) := ⟨(by rw [hw]; exact (by (with_reducible repeat (first | apply Kd.V_alloc | apply Kd.V_drewN | apply Kd.V_drew)); exact Kd.V_mono (Kd.V_far (p := ⟨gb460, 1, none⟩) (Kd.V_far (p := ⟨gb460, 0, none⟩) (Kd.V_mono HO_452001.out (fun k_ hk => (⟨hk, hk.2⟩ : _ ∧ k_ ≠ gb460))) (fun _ hk => hk.2) (.slice Ao144 t453.length co144)) (fun _ hk => hk.2) (.slice Ao151 t456.length co151)) (fun _ hk => ⟨hk.1.1.1, ⟨hk.1.1.2.1, ⟨hk.1.1.2.2.1, ⟨hk.1.1.2.2.2.1, ⟨hk.1.1.2.2.2.2, hk.1.2⟩⟩⟩⟩⟩)))⟩; have n4_ : Aside0 (Kd.V Kd.string 9 w152 w.heap.size (fun k_ => k_ ≠ gb425 ∧ k_ ≠ gb426 ∧ k_ ≠ gb427 ∧ k_ ≠ gb438 ∧ k_ ≠ gb451 ∧ k_ ≠ gb460) (.slice Ao144 t453.length co144) t453) := ⟨(by rw [hw]; exact (by (with_reducible repeat (first | apply Kd.V_alloc | apply Kd.V_drewN | apply Kd.V_drew)); exact Kd.V_mono (Kd.V_far (p := ⟨gb460, 1, none⟩) (Kd.V_far (p := ⟨gb460, 0, none⟩) (Kd.V_mono HO455.out (fun k_ hk => (⟨hk, hk.2⟩ : _ ∧ k_ ≠ gb460))) (fun _ hk => hk.2) (.slice Ao144 t453.length co144)) (fun _ hk => hk.2) (.slice Ao151 t456.length co151)) (fun _ hk => ⟨hk.1.1.1, ⟨hk.1.1.2.1, ⟨hk.1.1.2.2.1, ⟨hk.1.1.2.2.2.1, ⟨hk.1.1.2.2.2.2, hk.1.2⟩⟩⟩⟩⟩)))⟩; have n5_ : Aside0 (Kd.V k79 79 w152 w.heap.size (fun k_ => k_ ≠ gb425 ∧ k_ ≠ gb426 ∧ k_ ≠ gb427 ∧ k_ ≠ gb438 ∧ k_ ≠ gb451 ∧ k_ ≠ gb460) (.slice Ao151 t456.length co151) t456) := ⟨(by rw [hw]; exact (by (with_reducible repeat (first | apply Kd.V_alloc | apply Kd.V_drewN | apply Kd.V_drew)); exact Kd.V_mono (Kd.V_far (p := ⟨gb460, 1, none⟩) (Kd.V_far (p := ⟨gb460, 0, none⟩) (Kd.V_mono HO458.out (fun k_ hk => (⟨hk, hk.2⟩ : _ ∧ k_ ≠ gb460))) (fun _ hk => hk.2) (.slice Ao144 t453.length co144)) (fun _ hk => hk.2) (.slice Ao151 t456.length co151)) (fun _ hk => ⟨hk.1.1.1, ⟨hk.1.1.2.1, ⟨hk.1.1.2.2.1, ⟨hk.1.1.2.2.2.1, ⟨hk.1.1.2.2.2.2, hk.1.2⟩⟩⟩⟩⟩)))⟩; have n6_ : Aside0 (w152.heap[gb425]? = some (.cells #[.slice A0_0 l0_0.length c0_0, .slice A0_1 l0_1.length c0_1] 63 (0, 0))) := ⟨(by rw [hw]; exact (by (with_reducible repeat (first | refine blk_drewN ?_ _ | refine blk_drew ?_ | refine blk_alloc ?_ _)); refine blk_far ?_ NB425_460.out _; (with_reducible repeat (first | refine blk_drewN ?_ _ | refine blk_drew ?_ | refine blk_alloc ?_ _)); refine blk_far ?_ NB425_460.out _; (with_reducible repeat (first | refine blk_drewN ?_ _ | refine blk_drew ?_ | refine blk_alloc ?_ _)); exact BK425.out))⟩; have n7_ : Aside0 (w152.heap[gb426]? = some (.cells #[.int .i64 a1_0, .string a1_1] 79 (0, 0))) := ⟨(by rw [hw]; exact (by (with_reducible repeat (first | refine blk_drewN ?_ _ | refine blk_drew ?_ | refine blk_alloc ?_ _)); refine blk_far ?_ NB426_460.out _; (with_reducible repeat (first | refine blk_drewN ?_ _ | refine blk_drew ?_ | refine blk_alloc ?_ _)); refine blk_far ?_ NB426_460.out _; (with_reducible repeat (first | refine blk_drewN ?_ _ | refine blk_drew ?_ | refine blk_alloc ?_ _)); exact BK426.out))⟩; have n8_ : Aside0 (w152.heap[gb427]? = some (.cells #[.int .i64 a2_0, .string a2_1] 79 (0, 0))) := ⟨(by rw [hw]; exact (by (with_reducible repeat (first | refine blk_drewN ?_ _ | refine blk_drew ?_ | refine blk_alloc ?_ _)); refine blk_far ?_ NB427_460.out _; (with_reducible repeat (first | refine blk_drewN ?_ _ | refine blk_drew ?_ | refine blk_alloc ?_ _)); refine blk_far ?_ NB427_460.out _; (with_reducible repeat (first | refine blk_drewN ?_ _ | refine blk_drew ?_ | refine blk_alloc ?_ _)); exact BK427.out))⟩; have n9_ : Aside0 (w152.heap[gb438]? = some (.cells #[.slice Ao52 t431.length co52, .slice Ao57 t434.length co57] 63 (0, 0))) := ⟨(by rw [hw]; exact (by (with_reducible repeat (first | refine blk_drewN ?_ _ | refine blk_drew ?_ | refine blk_alloc ?_ _)); refine blk_far ?_ NB438_460.out _; (with_reducible repeat (first | refine blk_drewN ?_ _ | refine blk_drew ?_ | refine blk_alloc ?_ _)); refine blk_far ?_ NB438_460.out _; (with_reducible repeat (first | refine blk_drewN ?_ _ | refine blk_drew ?_ | refine blk_alloc ?_ _)); exact BK438.out))⟩; have n10_ : Aside0 (w152.heap[gb451]? = some (.cells #[.slice Ao99 t444.length co99, .slice Ao105 t447.length co105] 63 (0, 0))) := ⟨(by rw [hw]; exact (by (with_reducible repeat (first | refine blk_drewN ?_ _ | refine blk_drew ?_ | refine blk_alloc ?_ _)); refine blk_far ?_ NB451_460.out _; (with_reducible repeat (first | refine blk_drewN ?_ _ | refine blk_drew ?_ | refine blk_alloc ?_ _)); refine blk_far ?_ NB451_460.out _; (with_reducible repeat (first | refine blk_drewN ?_ _ | refine blk_drew ?_ | refine blk_alloc ?_ _)); exact BK451.out))⟩; have n11_ : Aside0 (w152.heap[gb460]? = some (.cells #[.slice Ao144 t453.length co144, .slice Ao151 t456.length co151] 63 (0, 0))) := ⟨(by rw [hw]; exact (by (with_reducible repeat (first | refine blk_drewN ?_ _ | refine blk_drew ?_ | refine blk_alloc ?_ _)); refine blk_put (cs := #[.slice Ao144 t453.length co144, .slice none 0 0]) ?_ 1 _ rfl; (with_reducible repeat (first | refine blk_drewN ?_ _ | refine blk_drew ?_ | refine blk_alloc ?_ _)); refine blk_put (cs := #[.slice none 0 0, .slice none 0 0]) ?_ 0 _ rfl; (with_reducible repeat (first | refine blk_drewN ?_ _ | refine blk_drew ?_ | refine blk_alloc ?_ _)); exact BK460.out))⟩; have n12_ : Aside0 (Below w.heap.size w w152) := ⟨(by rw [hw]; exact (by repeat (first | (with_reducible first | exact HB.out | apply below_alloc | apply pw_below_drewN | apply below_drew1 | refine below_set ?_ GE425.out | refine below_set ?_ GE426.out | refine below_set ?_ GE427.out | refine below_set ?_ GE438.out | refine below_set ?_ GE451.out | refine below_set ?_ GE460.out) | exact HB.out)))⟩; clear hw; clear HO_439000; clear HO_439001; clear HO_452000; clear HO_452001; clear HO455; clear HO458; clear BK425; clear BK426; clear BK427; clear BK438; clear BK451; clear BK460; clear HB; have HO_439000 := n0_; have HO_439001 := n1_; have HO_452000 := n2_; have HO_452001 := n3_; have HO455 := n4_; have HO458 := n5_; have BK425 := n6_; have BK426 := n7_; have BK427 := n8_; have BK438 := n9_; have BK451 := n10_; have BK460 := n11_; have HB := n12_; clear n0_ n1_ n2_ n3_ n4_ n5_ n6_ n7_ n8_ n9_ n10_ n11_ n12_; have hnb153 := NB451_425.out; have hnc153 := NB425_451.out; have hnb154 := NB451_426.out; have hnc154 := NB426_451.out; have hcz155_0 : w152.cell? ⟨gb451, 0, none⟩ = some (.slice Ao99 t444.length co99) := (blk_cell BK451.out 0).trans rfl; have hcz155_1 : w152.cell? ⟨gb451, 1, none⟩ = some (.slice Ao105 t447.length co105) := (blk_cell BK451.out 1).trans rfl; have hfz155_0 := blk_frozen BK451.out 0; have hfz155_1 := blk_frozen BK451.out 1; have hnb156 := NB426_425.out; have hnc156 := NB425_426.out; have hcz157_0 : w152.cell? ⟨gb426, 0, none⟩ = some (.int .i64 a1_0) := (blk_cell BK426.out 0).trans rfl; have hcz157_1 : w152.cell? ⟨gb426, 1, none⟩ = some (.string a1_1) := (blk_cell BK426.out 1).trans rfl; have hfz157_0 := blk_frozen BK426.out 0; have hfz157_1 := blk_frozen BK426.out 1) | ((with_reducible refine gate_callee (f := 44) rfl ?_); refine goesL_ (some 150) rfl rfl Try.func44 (by kernel_rfl) rfl #[.agg #[.slice Ao99 t444.length co99, .slice Ao105 t447.length co105], .int .i64 a1_0, .string a1_1] rfl (by (try simp only [List.map_toArray, List.map_cons, List.map_nil]); first | done | rfl | (simp only [List.length_drop, List.length_take]; rfl)) ?_; (with_reducible refine (disk_Put.calls (fun k_ => (k_ ≠ gb425 ∧ (k_ ≠ gb426 ∧ (k_ ≠ gb427 ∧ (k_ ≠ gb438 ∧ (k_ ≠ gb451 ∧ k_ ≠ gb460)))))) _ _ t444 (fun k_ => (k_ ≠ gb425 ∧ (k_ ≠ gb426 ∧ (k_ ≠ gb427 ∧ (k_ ≠ gb438 ∧ (k_ ≠ gb451 ∧ k_ ≠ gb460)))))) _ _ t447 a1_0 a1_1 t461 t464 t467 _ ?side1 ?side2 A126.out).mono ?_); (case side1 => exact HO_452000.out); (case side2 => exact HO_452001.out); rintro e w158 ⟨v462, v465, rfl, ho0, ho1, hb⟩; refine ⟨_, rfl, ?_⟩; have n0_ := Aside0.mk (Kd.V_below (by (with_reducible repeat (first | apply Kd.V_alloc | apply Kd.V_drewN | apply Kd.V_drew)); exact HO_439000.out) hb); have n1_ := Aside0.mk (Kd.V_below (by (with_reducible repeat (first | apply Kd.V_alloc | apply Kd.V_drewN | apply Kd.V_drew)); exact HO_439001.out) hb); have n2_ := Aside0.mk (Kd.V_below (by (with_reducible repeat (first | apply Kd.V_alloc | apply Kd.V_drewN | apply Kd.V_drew)); exact HO_452000.out) hb); have n3_ := Aside0.mk (Kd.V_below (by (with_reducible repeat (first | apply Kd.V_alloc | apply Kd.V_drewN | apply Kd.V_drew)); exact HO_452001.out) hb); have n4_ := Aside0.mk (Kd.V_below (by (with_reducible repeat (first | apply Kd.V_alloc | apply Kd.V_drewN | apply Kd.V_drew)); exact HO455.out) hb); have n5_ := Aside0.mk (Kd.V_below (by (with_reducible repeat (first | apply Kd.V_alloc | apply Kd.V_drewN | apply Kd.V_drew)); exact HO458.out) hb); have n6_ := Aside0.mk (Kd.V_lower (Kd.V_mono (ok' := fun k_ => k_ ≠ gb425 ∧ k_ ≠ gb426 ∧ k_ ≠ gb427 ∧ k_ ≠ gb438 ∧ k_ ≠ gb451 ∧ k_ ≠ gb460) ho0 (fun k_ hk_ => ⟨Or.elim hk_ (fun hs_ => Or.elim hs_ (fun hs_ => hs_.1) (fun hs_ => hs_.1)) (fun hn_ => (Kd.freshB (g := gb425) (o := .cells #[.slice A0_0 l0_0.length c0_0, .slice A0_1 l0_1.length c0_1] 63 (0, 0)) (by (with_reducible repeat (first | refine blk_drewN ?_ _ | refine blk_drew ?_ | refine blk_alloc ?_ _)); exact BK425.out) k_ hn_)), Or.elim hk_ (fun hs_ => Or.elim hs_ (fun hs_ => hs_.2.1) (fun hs_ => hs_.2.1)) (fun hn_ => (Kd.freshB (g := gb426) (o := .cells #[.int .i64 a1_0, .string a1_1] 79 (0, 0)) (by (with_reducible repeat (first | refine blk_drewN ?_ _ | refine blk_drew ?_ | refine blk_alloc ?_ _)); exact BK426.out) k_ hn_)), Or.elim hk_ (fun hs_ => Or.elim hs_ (fun hs_ => hs_.2.2.1) (fun hs_ => hs_.2.2.1)) (fun hn_ => (Kd.freshB (g := gb427) (o := .cells #[.int .i64 a2_0, .string a2_1] 79 (0, 0)) (by (with_reducible repeat (first | refine blk_drewN ?_ _ | refine blk_drew ?_ | refine blk_alloc ?_ _)); exact BK427.out) k_ hn_)), Or.elim hk_ (fun hs_ => Or.elim hs_ (fun hs_ => hs_.2.2.2.1) (fun hs_ => hs_.2.2.2.1)) (fun hn_ => (Kd.freshB (g := gb438) (o := .cells #[.slice Ao52 t431.length co52, .slice Ao57 t434.length co57] 63 (0, 0)) (by (with_reducible repeat (first | refine blk_drewN ?_ _ | refine blk_drew ?_ | refine blk_alloc ?_ _)); exact BK438.out) k_ hn_)), Or.elim hk_ (fun hs_ => Or.elim hs_ (fun hs_ => hs_.2.2.2.2.1) (fun hs_ => hs_.2.2.2.2.1)) (fun hn_ => (Kd.freshB (g := gb451) (o := .cells #[.slice Ao99 t444.length co99, .slice Ao105 t447.length co105] 63 (0, 0)) (by (with_reducible repeat (first | refine blk_drewN ?_ _ | refine blk_drew ?_ | refine blk_alloc ?_ _)); exact BK451.out) k_ hn_)), Or.elim hk_ (fun hs_ => Or.elim hs_ (fun hs_ => hs_.2.2.2.2.2) (fun hs_ => hs_.2.2.2.2.2)) (fun hn_ => (Kd.freshB (g := gb460) (o := .cells #[.slice Ao144 t453.length co144, .slice Ao151 t456.length co151] 63 (0, 0)) (by (with_reducible repeat (first | refine blk_drewN ?_ _ | refine blk_drew ?_ | refine blk_alloc ?_ _)); exact BK460.out) k_ hn_))⟩)) (below_size (by repeat (first | (with_reducible first | exact HB.out | apply below_alloc | apply pw_below_drewN | apply below_drew1 | refine below_set ?_ GE425.out | refine below_set ?_ GE426.out | refine below_set ?_ GE427.out | refine below_set ?_ GE438.out | refine below_set ?_ GE451.out | refine below_set ?_ GE460.out) | exact HB.out)))); have n7_ := Aside0.mk (Kd.V_lower (Kd.V_mono (ok' := fun k_ => k_ ≠ gb425 ∧ k_ ≠ gb426 ∧ k_ ≠ gb427 ∧ k_ ≠ gb438 ∧ k_ ≠ gb451 ∧ k_ ≠ gb460) ho1 (fun k_ hk_ => ⟨Or.elim hk_ (fun hs_ => Or.elim hs_ (fun hs_ => hs_.1) (fun hs_ => hs_.1)) (fun hn_ => (Kd.freshB (g := gb425) (o := .cells #[.slice A0_0 l0_0.length c0_0, .slice A0_1 l0_1.length c0_1] 63 (0, 0)) (by (with_reducible repeat (first | refine blk_drewN ?_ _ | refine blk_drew ?_ | refine blk_alloc ?_ _)); exact BK425.out) k_ hn_)), Or.elim hk_ (fun hs_ => Or.elim hs_ (fun hs_ => hs_.2.1) (fun hs_ => hs_.2.1)) (fun hn_ => (Kd.freshB (g := gb426) (o := .cells #[.int .i64 a1_0, .string a1_1] 79 (0, 0)) (by (with_reducible repeat (first | refine blk_drewN ?_ _ | refine blk_drew ?_ | refine blk_alloc ?_ _)); exact BK426.out) k_ hn_)), Or.elim hk_ (fun hs_ => Or.elim hs_ (fun hs_ => hs_.2.2.1) (fun hs_ => hs_.2.2.1)) (fun hn_ => (Kd.freshB (g := gb427) (o := .cells #[.int .i64 a2_0, .string a2_1] 79 (0, 0)) (by (with_reducible repeat (first | refine blk_drewN ?_ _ | refine blk_drew ?_ | refine blk_alloc ?_ _)); exact BK427.out) k_ hn_)), Or.elim hk_ (fun hs_ => Or.elim hs_ (fun hs_ => hs_.2.2.2.1) (fun hs_ => hs_.2.2.2.1)) (fun hn_ => (Kd.freshB (g := gb438) (o := .cells #[.slice Ao52 t431.length co52, .slice Ao57 t434.length co57] 63 (0, 0)) (by (with_reducible repeat (first | refine blk_drewN ?_ _ | refine blk_drew ?_ | refine blk_alloc ?_ _)); exact BK438.out) k_ hn_)), Or.elim hk_ (fun hs_ => Or.elim hs_ (fun hs_ => hs_.2.2.2.2.1) (fun hs_ => hs_.2.2.2.2.1)) (fun hn_ => (Kd.freshB (g := gb451) (o := .cells #[.slice Ao99 t444.length co99, .slice Ao105 t447.length co105] 63 (0, 0)) (by (with_reducible repeat (first | refine blk_drewN ?_ _ | refine blk_drew ?_ | refine blk_alloc ?_ _)); exact BK451.out) k_ hn_)), Or.elim hk_ (fun hs_ => Or.elim hs_ (fun hs_ => hs_.2.2.2.2.2) (fun hs_ => hs_.2.2.2.2.2)) (fun hn_ => (Kd.freshB (g := gb460) (o := .cells #[.slice Ao144 t453.length co144, .slice Ao151 t456.length co151] 63 (0, 0)) (by (with_reducible repeat (first | refine blk_drewN ?_ _ | refine blk_drew ?_ | refine blk_alloc ?_ _)); exact BK460.out) k_ hn_))⟩)) (below_size (by repeat (first | (with_reducible first | exact HB.out | apply below_alloc | apply pw_below_drewN | apply below_drew1 | refine below_set ?_ GE425.out | refine below_set ?_ GE426.out | refine below_set ?_ GE427.out | refine below_set ?_ GE438.out | refine below_set ?_ GE451.out | refine below_set ?_ GE460.out) | exact HB.out)))); have n8_ := Aside0.mk (blk_below (g := gb425) (o := .cells #[.slice A0_0 l0_0.length c0_0, .slice A0_1 l0_1.length c0_1] 63 (0, 0)) (by (with_reducible repeat (first | refine blk_drewN ?_ _ | refine blk_drew ?_ | refine blk_alloc ?_ _)); exact BK425.out) hb); have n9_ := Aside0.mk (blk_below (g := gb426) (o := .cells #[.int .i64 a1_0, .string a1_1] 79 (0, 0)) (by (with_reducible repeat (first | refine blk_drewN ?_ _ | refine blk_drew ?_ | refine blk_alloc ?_ _)); exact BK426.out) hb); have n10_ := Aside0.mk (blk_below (g := gb427) (o := .cells #[.int .i64 a2_0, .string a2_1] 79 (0, 0)) (by (with_reducible repeat (first | refine blk_drewN ?_ _ | refine blk_drew ?_ | refine blk_alloc ?_ _)); exact BK427.out) hb); have n11_ := Aside0.mk (blk_below (g := gb438) (o := .cells #[.slice Ao52 t431.length co52, .slice Ao57 t434.length co57] 63 (0, 0)) (by (with_reducible repeat (first | refine blk_drewN ?_ _ | refine blk_drew ?_ | refine blk_alloc ?_ _)); exact BK438.out) hb); have n12_ := Aside0.mk (blk_below (g := gb451) (o := .cells #[.slice Ao99 t444.length co99, .slice Ao105 t447.length co105] 63 (0, 0)) (by (with_reducible repeat (first | refine blk_drewN ?_ _ | refine blk_drew ?_ | refine blk_alloc ?_ _)); exact BK451.out) hb); have n13_ := Aside0.mk (blk_below (g := gb460) (o := .cells #[.slice Ao144 t453.length co144, .slice Ao151 t456.length co151] 63 (0, 0)) (by (with_reducible repeat (first | refine blk_drewN ?_ _ | refine blk_drew ?_ | refine blk_alloc ?_ _)); exact BK460.out) hb); have n14_ := Aside0.mk (below_step (by repeat (first | (with_reducible first | exact HB.out | apply below_alloc | apply pw_below_drewN | apply below_drew1 | refine below_set ?_ GE425.out | refine below_set ?_ GE426.out | refine below_set ?_ GE427.out | refine below_set ?_ GE438.out | refine below_set ?_ GE451.out | refine below_set ?_ GE460.out) | exact HB.out)) hb); clear HO_439000; clear HO_439001; clear HO_452000; clear HO_452001; clear HO455; clear HO458; clear BK425; clear BK426; clear BK427; clear BK438; clear BK451; clear BK460; clear HB; have HO_439000 := n0_; have HO_439001 := n1_; have HO_452000 := n2_; have HO_452001 := n3_; have HO455 := n4_; have HO458 := n5_; have HO463 := n6_; have HO466 := n7_; have BK425 := n8_; have BK426 := n9_; have BK427 := n10_; have BK438 := n11_; have BK451 := n12_; have BK460 := n13_; have HB := n14_; clear n0_ n1_ n2_ n3_ n4_ n5_ n6_ n7_ n8_ n9_ n10_ n11_ n12_ n13_ n14_; (try clear hb); (try clear hb2); (try clear hk); (try clear hi); (try clear ho0); (try clear ho1)) | ((with_reducible refine gate_dst (N := 19) rfl ?_); (try (refine gate_guard (by rfl) ?_; dsimp only)); refine box_event ?hg (N := 19) ?hd (cs := #[.slice none 0 0, .slice none 0 0]) (t := 63) ?hr ?_; (case hd => rfl); (case hg => rfl); (case hr => first | (go_simp; done) | (go_simp; rfl)); intro gb468 hg w159 hbox hb; have n0_ := Aside0.mk (Kd.V_below (Kd.V_elderB (by (with_reducible repeat (first | apply Kd.V_alloc | apply Kd.V_drewN | apply Kd.V_drew)); exact HO_439000.out) gb468 (Nat.le_of_eq hg.symm)) hb); have n1_ := Aside0.mk (Kd.V_below (Kd.V_elderB (by (with_reducible repeat (first | apply Kd.V_alloc | apply Kd.V_drewN | apply Kd.V_drew)); exact HO_439001.out) gb468 (Nat.le_of_eq hg.symm)) hb); have n2_ := Aside0.mk (Kd.V_below (Kd.V_elderB (by (with_reducible repeat (first | apply Kd.V_alloc | apply Kd.V_drewN | apply Kd.V_drew)); exact HO_452000.out) gb468 (Nat.le_of_eq hg.symm)) hb); have n3_ := Aside0.mk (Kd.V_below (Kd.V_elderB (by (with_reducible repeat (first | apply Kd.V_alloc | apply Kd.V_drewN | apply Kd.V_drew)); exact HO_452001.out) gb468 (Nat.le_of_eq hg.symm)) hb); have n4_ := Aside0.mk (Kd.V_below (Kd.V_elderB (by (with_reducible repeat (first | apply Kd.V_alloc | apply Kd.V_drewN | apply Kd.V_drew)); exact HO455.out) gb468 (Nat.le_of_eq hg.symm)) hb); have n5_ := Aside0.mk (Kd.V_below (Kd.V_elderB (by (with_reducible repeat (first | apply Kd.V_alloc | apply Kd.V_drewN | apply Kd.V_drew)); exact HO458.out) gb468 (Nat.le_of_eq hg.symm)) hb); have n6_ := Aside0.mk (Kd.V_below (Kd.V_elderB (by (with_reducible repeat (first | apply Kd.V_alloc | apply Kd.V_drewN | apply Kd.V_drew)); exact HO463.out) gb468 (Nat.le_of_eq hg.symm)) hb); have n7_ := Aside0.mk (Kd.V_below (Kd.V_elderB (by (with_reducible repeat (first | apply Kd.V_alloc | apply Kd.V_drewN | apply Kd.V_drew)); exact HO466.out) gb468 (Nat.le_of_eq hg.symm)) hb); have n8_ := Aside0.mk (blk_below (g := gb425) (o := .cells #[.slice A0_0 l0_0.length c0_0, .slice A0_1 l0_1.length c0_1] 63 (0, 0)) (by (with_reducible repeat (first | refine blk_drewN ?_ _ | refine blk_drew ?_ | refine blk_alloc ?_ _)); exact BK425.out) hb); have n9_ := Aside0.mk (blk_below (g := gb426) (o := .cells #[.int .i64 a1_0, .string a1_1] 79 (0, 0)) (by (with_reducible repeat (first | refine blk_drewN ?_ _ | refine blk_drew ?_ | refine blk_alloc ?_ _)); exact BK426.out) hb); have n10_ := Aside0.mk (blk_below (g := gb427) (o := .cells #[.int .i64 a2_0, .string a2_1] 79 (0, 0)) (by (with_reducible repeat (first | refine blk_drewN ?_ _ | refine blk_drew ?_ | refine blk_alloc ?_ _)); exact BK427.out) hb); have n11_ := Aside0.mk (blk_below (g := gb438) (o := .cells #[.slice Ao52 t431.length co52, .slice Ao57 t434.length co57] 63 (0, 0)) (by (with_reducible repeat (first | refine blk_drewN ?_ _ | refine blk_drew ?_ | refine blk_alloc ?_ _)); exact BK438.out) hb); have n12_ := Aside0.mk (blk_below (g := gb451) (o := .cells #[.slice Ao99 t444.length co99, .slice Ao105 t447.length co105] 63 (0, 0)) (by (with_reducible repeat (first | refine blk_drewN ?_ _ | refine blk_drew ?_ | refine blk_alloc ?_ _)); exact BK451.out) hb); have n13_ := Aside0.mk (blk_below (g := gb460) (o := .cells #[.slice Ao144 t453.length co144, .slice Ao151 t456.length co151] 63 (0, 0)) (by (with_reducible repeat (first | refine blk_drewN ?_ _ | refine blk_drew ?_ | refine blk_alloc ?_ _)); exact BK460.out) hb); have n14_ := Aside0.mk (below_step (by repeat (first | (with_reducible first | exact HB.out | apply below_alloc | apply pw_below_drewN | apply below_drew1 | refine below_set ?_ GE425.out | refine below_set ?_ GE426.out | refine below_set ?_ GE427.out | refine below_set ?_ GE438.out | refine below_set ?_ GE451.out | refine below_set ?_ GE460.out) | exact HB.out)) hb); have n15_ := Aside0.mk (hbox); have n16_ := Aside0.mk ((by rw [hg]; exact (below_size (by repeat (first | (with_reducible first | exact HB.out | apply below_alloc | apply pw_below_drewN | apply below_drew1 | refine below_set ?_ GE425.out | refine below_set ?_ GE426.out | refine below_set ?_ GE427.out | refine below_set ?_ GE438.out | refine below_set ?_ GE451.out | refine below_set ?_ GE460.out) | exact HB.out))) : w.heap.size ≤ gb468)); have n17_ := Aside0.mk ((by rw [hg]; exact (below_size (by repeat (first | (with_reducible first | exact HB.out | apply below_alloc | apply pw_below_drewN | apply below_drew1 | refine below_set ?_ GE425.out | refine below_set ?_ GE426.out | refine below_set ?_ GE427.out | refine below_set ?_ GE438.out | refine below_set ?_ GE451.out | refine below_set ?_ GE460.out) | exact HB.out))) : w.heap.size ≤ gb468)); have n18_ := Aside0.mk ((by rw [hg]; exact Nat.ne_of_lt (blk_lt (g := gb425) (o := .cells #[.slice A0_0 l0_0.length c0_0, .slice A0_1 l0_1.length c0_1] 63 (0, 0)) (by (with_reducible repeat (first | refine blk_drewN ?_ _ | refine blk_drew ?_ | refine blk_alloc ?_ _)); exact BK425.out)) : gb425 ≠ gb468)); have n19_ := Aside0.mk ((by rw [hg]; exact Nat.ne_of_gt (blk_lt (g := gb425) (o := .cells #[.slice A0_0 l0_0.length c0_0, .slice A0_1 l0_1.length c0_1] 63 (0, 0)) (by (with_reducible repeat (first | refine blk_drewN ?_ _ | refine blk_drew ?_ | refine blk_alloc ?_ _)); exact BK425.out)) : gb468 ≠ gb425)); have n20_ := Aside0.mk ((by rw [hg]; exact Nat.ne_of_lt (blk_lt (g := gb426) (o := .cells #[.int .i64 a1_0, .string a1_1] 79 (0, 0)) (by (with_reducible repeat (first | refine blk_drewN ?_ _ | refine blk_drew ?_ | refine blk_alloc ?_ _)); exact BK426.out)) : gb426 ≠ gb468)); have n21_ := Aside0.mk ((by rw [hg]; exact Nat.ne_of_gt (blk_lt (g := gb426) (o := .cells #[.int .i64 a1_0, .string a1_1] 79 (0, 0)) (by (with_reducible repeat (first | refine blk_drewN ?_ _ | refine blk_drew ?_ | refine blk_alloc ?_ _)); exact BK426.out)) : gb468 ≠ gb426)); have n22_ := Aside0.mk ((by rw [hg]; exact Nat.ne_of_lt (blk_lt (g := gb427) (o := .cells #[.int .i64 a2_0, .string a2_1] 79 (0, 0)) (by (with_reducible repeat (first | refine blk_drewN ?_ _ | refine blk_drew ?_ | refine blk_alloc ?_ _)); exact BK427.out)) : gb427 ≠ gb468)); have n23_ := Aside0.mk ((by rw [hg]; exact Nat.ne_of_gt (blk_lt (g := gb427) (o := .cells #[.int .i64 a2_0, .string a2_1] 79 (0, 0)) (by (with_reducible repeat (first | refine blk_drewN ?_ _ | refine blk_drew ?_ | refine blk_alloc ?_ _)); exact BK427.out)) : gb468 ≠ gb427)); have n24_ := Aside0.mk ((by rw [hg]; exact Nat.ne_of_lt (blk_lt (g := gb438) (o := .cells #[.slice Ao52 t431.length co52, .slice Ao57 t434.length co57] 63 (0, 0)) (by (with_reducible repeat (first | refine blk_drewN ?_ _ | refine blk_drew ?_ | refine blk_alloc ?_ _)); exact BK438.out)) : gb438 ≠ gb468)); have n25_ := Aside0.mk ((by rw [hg]; exact Nat.ne_of_gt (blk_lt (g := gb438) (o := .cells #[.slice Ao52 t431.length co52, .slice Ao57 t434.length co57] 63 (0, 0)) (by (with_reducible repeat (first | refine blk_drewN ?_ _ | refine blk_drew ?_ | refine blk_alloc ?_ _)); exact BK438.out)) : gb468 ≠ gb438)); have n26_ := Aside0.mk ((by rw [hg]; exact Nat.ne_of_lt (blk_lt (g := gb451) (o := .cells #[.slice Ao99 t444.length co99, .slice Ao105 t447.length co105] 63 (0, 0)) (by (with_reducible repeat (first | refine blk_drewN ?_ _ | refine blk_drew ?_ | refine blk_alloc ?_ _)); exact BK451.out)) : gb451 ≠ gb468)); have n27_ := Aside0.mk ((by rw [hg]; exact Nat.ne_of_gt (blk_lt (g := gb451) (o := .cells #[.slice Ao99 t444.length co99, .slice Ao105 t447.length co105] 63 (0, 0)) (by (with_reducible repeat (first | refine blk_drewN ?_ _ | refine blk_drew ?_ | refine blk_alloc ?_ _)); exact BK451.out)) : gb468 ≠ gb451)); have n28_ := Aside0.mk ((by rw [hg]; exact Nat.ne_of_lt (blk_lt (g := gb460) (o := .cells #[.slice Ao144 t453.length co144, .slice Ao151 t456.length co151] 63 (0, 0)) (by (with_reducible repeat (first | refine blk_drewN ?_ _ | refine blk_drew ?_ | refine blk_alloc ?_ _)); exact BK460.out)) : gb460 ≠ gb468)); have n29_ := Aside0.mk ((by rw [hg]; exact Nat.ne_of_gt (blk_lt (g := gb460) (o := .cells #[.slice Ao144 t453.length co144, .slice Ao151 t456.length co151] 63 (0, 0)) (by (with_reducible repeat (first | refine blk_drewN ?_ _ | refine blk_drew ?_ | refine blk_alloc ?_ _)); exact BK460.out)) : gb468 ≠ gb460)); clear HO_439000; clear HO_439001; clear HO_452000; clear HO_452001; clear HO455; clear HO458; clear HO463; clear HO466; clear BK425; clear BK426; clear BK427; clear BK438; clear BK451; clear BK460; clear HB; have HO_439000 := n0_; have HO_439001 := n1_; have HO_452000 := n2_; have HO_452001 := n3_; have HO455 := n4_; have HO458 := n5_; have HO463 := n6_; have HO466 := n7_; have BK425 := n8_; have BK426 := n9_; have BK427 := n10_; have BK438 := n11_; have BK451 := n12_; have BK460 := n13_; have HB := n14_; have BK468 := n15_; have GW468 := n16_; have GE468 := n17_; have NB425_468 := n18_; have NB468_425 := n19_; have NB426_468 := n20_; have NB468_426 := n21_; have NB427_468 := n22_; have NB468_427 := n23_; have NB438_468 := n24_; have NB468_438 := n25_; have NB451_468 := n26_; have NB468_451 := n27_; have NB460_468 := n28_; have NB468_460 := n29_; clear n0_ n1_ n2_ n3_ n4_ n5_ n6_ n7_ n8_ n9_ n10_ n11_ n12_ n13_ n14_ n15_ n16_ n17_ n18_ n19_ n20_ n21_ n22_ n23_ n24_ n25_ n26_ n27_ n28_ n29_; clear hb hbox hg; obtain ⟨Ao160, co160, eo160⟩ := Kd.V_slice HO463.out; subst eo160; have hnb161 := NB468_425.out; have hnc161 := NB425_468.out; have hnb162 := NB468_426.out; have hnc162 := NB426_468.out; have hnb163 := NB468_427.out; have hnc163 := NB427_468.out; have hnb164 := NB468_438.out; have hnc164 := NB438_468.out; have hnb165 := NB468_451.out; have hnc165 := NB451_468.out; have hnb166 := NB468_460.out; have hnc166 := NB460_468.out; have hcz167_0 : w159.cell? ⟨gb468, 0, none⟩ = some (.slice none 0 0) := (blk_cell BK468.out 0).trans rfl; have hcz167_1 : w159.cell? ⟨gb468, 1, none⟩ = some (.slice none 0 0) := (blk_cell BK468.out 1).trans rfl; have hfz167_0 := blk_frozen BK468.out 0; have hfz167_1 := blk_frozen BK468.out 1; obtain ⟨Ao168, co168, eo168⟩ := Kd.V_slice HO466.out; subst eo168))
                            have n0_ : Aside0 (Kd.V Kd.string 9 ((w159.setCell ⟨gb468, 0, none⟩ (.slice Ao160 t461.length co160)).setCell ⟨gb468, 1, none⟩ (.slice Ao168 t464.length co168)) w.heap.size (fun k_ => k_ ≠ gb425 ∧ k_ ≠ gb426 ∧ k_ ≠ gb427 ∧ k_ ≠ gb438 ∧ k_ ≠ gb451 ∧ k_ ≠ gb460 ∧ k_ ≠ gb468) (.slice Ao52 t431.length co52) t431) := ⟨by (with_reducible repeat (first | apply Kd.V_alloc | apply Kd.V_drewN | apply Kd.V_drew)); exact Kd.V_mono (Kd.V_far (p := ⟨gb468, 1, none⟩) (Kd.V_far (p := ⟨gb468, 0, none⟩) (Kd.V_mono HO_439000.out (fun k_ hk => (⟨hk, hk.2⟩ : _ ∧ k_ ≠ gb468))) (fun _ hk => hk.2) (.slice Ao160 t461.length co160)) (fun _ hk => hk.2) (.slice Ao168 t464.length co168)) (fun _ hk => ⟨hk.1.1.1, ⟨hk.1.1.2.1, ⟨hk.1.1.2.2.1, ⟨hk.1.1.2.2.2.1, ⟨hk.1.1.2.2.2.2.1, ⟨hk.1.1.2.2.2.2.2, hk.1.2⟩⟩⟩⟩⟩⟩)⟩
                            have n1_ : Aside0 (Kd.V k79 79 ((w159.setCell ⟨gb468, 0, none⟩ (.slice Ao160 t461.length co160)).setCell ⟨gb468, 1, none⟩ (.slice Ao168 t464.length co168)) w.heap.size (fun k_ => k_ ≠ gb425 ∧ k_ ≠ gb426 ∧ k_ ≠ gb427 ∧ k_ ≠ gb438 ∧ k_ ≠ gb451 ∧ k_ ≠ gb460 ∧ k_ ≠ gb468) (.slice Ao57 t434.length co57) t434) := ⟨by (with_reducible repeat (first | apply Kd.V_alloc | apply Kd.V_drewN | apply Kd.V_drew)); exact Kd.V_mono (Kd.V_far (p := ⟨gb468, 1, none⟩) (Kd.V_far (p := ⟨gb468, 0, none⟩) (Kd.V_mono HO_439001.out (fun k_ hk => (⟨hk, hk.2⟩ : _ ∧ k_ ≠ gb468))) (fun _ hk => hk.2) (.slice Ao160 t461.length co160)) (fun _ hk => hk.2) (.slice Ao168 t464.length co168)) (fun _ hk => ⟨hk.1.1.1, ⟨hk.1.1.2.1, ⟨hk.1.1.2.2.1, ⟨hk.1.1.2.2.2.1, ⟨hk.1.1.2.2.2.2.1, ⟨hk.1.1.2.2.2.2.2, hk.1.2⟩⟩⟩⟩⟩⟩)⟩
                            have n2_ : Aside0 (Kd.V Kd.string 9 ((w159.setCell ⟨gb468, 0, none⟩ (.slice Ao160 t461.length co160)).setCell ⟨gb468, 1, none⟩ (.slice Ao168 t464.length co168)) w.heap.size (fun k_ => k_ ≠ gb425 ∧ k_ ≠ gb426 ∧ k_ ≠ gb427 ∧ k_ ≠ gb438 ∧ k_ ≠ gb451 ∧ k_ ≠ gb460 ∧ k_ ≠ gb468) (.slice Ao99 t444.length co99) t444) := ⟨by (with_reducible repeat (first | apply Kd.V_alloc | apply Kd.V_drewN | apply Kd.V_drew)); exact Kd.V_mono (Kd.V_far (p := ⟨gb468, 1, none⟩) (Kd.V_far (p := ⟨gb468, 0, none⟩) (Kd.V_mono HO_452000.out (fun k_ hk => (⟨hk, hk.2⟩ : _ ∧ k_ ≠ gb468))) (fun _ hk => hk.2) (.slice Ao160 t461.length co160)) (fun _ hk => hk.2) (.slice Ao168 t464.length co168)) (fun _ hk => ⟨hk.1.1.1, ⟨hk.1.1.2.1, ⟨hk.1.1.2.2.1, ⟨hk.1.1.2.2.2.1, ⟨hk.1.1.2.2.2.2.1, ⟨hk.1.1.2.2.2.2.2, hk.1.2⟩⟩⟩⟩⟩⟩)⟩
                            have n3_ : Aside0 (Kd.V k79 79 ((w159.setCell ⟨gb468, 0, none⟩ (.slice Ao160 t461.length co160)).setCell ⟨gb468, 1, none⟩ (.slice Ao168 t464.length co168)) w.heap.size (fun k_ => k_ ≠ gb425 ∧ k_ ≠ gb426 ∧ k_ ≠ gb427 ∧ k_ ≠ gb438 ∧ k_ ≠ gb451 ∧ k_ ≠ gb460 ∧ k_ ≠ gb468) (.slice Ao105 t447.length co105) t447) := ⟨by (with_reducible repeat (first | apply Kd.V_alloc | apply Kd.V_drewN | apply Kd.V_drew)); exact Kd.V_mono (Kd.V_far (p := ⟨gb468, 1, none⟩) (Kd.V_far (p := ⟨gb468, 0, none⟩) (Kd.V_mono HO_452001.out (fun k_ hk => (⟨hk, hk.2⟩ : _ ∧ k_ ≠ gb468))) (fun _ hk => hk.2) (.slice Ao160 t461.length co160)) (fun _ hk => hk.2) (.slice Ao168 t464.length co168)) (fun _ hk => ⟨hk.1.1.1, ⟨hk.1.1.2.1, ⟨hk.1.1.2.2.1, ⟨hk.1.1.2.2.2.1, ⟨hk.1.1.2.2.2.2.1, ⟨hk.1.1.2.2.2.2.2, hk.1.2⟩⟩⟩⟩⟩⟩)⟩
                            have n4_ : Aside0 (Kd.V Kd.string 9 ((w159.setCell ⟨gb468, 0, none⟩ (.slice Ao160 t461.length co160)).setCell ⟨gb468, 1, none⟩ (.slice Ao168 t464.length co168)) w.heap.size (fun k_ => k_ ≠ gb425 ∧ k_ ≠ gb426 ∧ k_ ≠ gb427 ∧ k_ ≠ gb438 ∧ k_ ≠ gb451 ∧ k_ ≠ gb460 ∧ k_ ≠ gb468) (.slice Ao144 t453.length co144) t453) := ⟨by (with_reducible repeat (first | apply Kd.V_alloc | apply Kd.V_drewN | apply Kd.V_drew)); exact Kd.V_mono (Kd.V_far (p := ⟨gb468, 1, none⟩) (Kd.V_far (p := ⟨gb468, 0, none⟩) (Kd.V_mono HO455.out (fun k_ hk => (⟨hk, hk.2⟩ : _ ∧ k_ ≠ gb468))) (fun _ hk => hk.2) (.slice Ao160 t461.length co160)) (fun _ hk => hk.2) (.slice Ao168 t464.length co168)) (fun _ hk => ⟨hk.1.1.1, ⟨hk.1.1.2.1, ⟨hk.1.1.2.2.1, ⟨hk.1.1.2.2.2.1, ⟨hk.1.1.2.2.2.2.1, ⟨hk.1.1.2.2.2.2.2, hk.1.2⟩⟩⟩⟩⟩⟩)⟩
                            have n5_ : Aside0 (Kd.V k79 79 ((w159.setCell ⟨gb468, 0, none⟩ (.slice Ao160 t461.length co160)).setCell ⟨gb468, 1, none⟩ (.slice Ao168 t464.length co168)) w.heap.size (fun k_ => k_ ≠ gb425 ∧ k_ ≠ gb426 ∧ k_ ≠ gb427 ∧ k_ ≠ gb438 ∧ k_ ≠ gb451 ∧ k_ ≠ gb460 ∧ k_ ≠ gb468) (.slice Ao151 t456.length co151) t456) := ⟨by (with_reducible repeat (first | apply Kd.V_alloc | apply Kd.V_drewN | apply Kd.V_drew)); exact Kd.V_mono (Kd.V_far (p := ⟨gb468, 1, none⟩) (Kd.V_far (p := ⟨gb468, 0, none⟩) (Kd.V_mono HO458.out (fun k_ hk => (⟨hk, hk.2⟩ : _ ∧ k_ ≠ gb468))) (fun _ hk => hk.2) (.slice Ao160 t461.length co160)) (fun _ hk => hk.2) (.slice Ao168 t464.length co168)) (fun _ hk => ⟨hk.1.1.1, ⟨hk.1.1.2.1, ⟨hk.1.1.2.2.1, ⟨hk.1.1.2.2.2.1, ⟨hk.1.1.2.2.2.2.1, ⟨hk.1.1.2.2.2.2.2, hk.1.2⟩⟩⟩⟩⟩⟩)⟩
                            have n6_ : Aside0 (Kd.V Kd.string 9 ((w159.setCell ⟨gb468, 0, none⟩ (.slice Ao160 t461.length co160)).setCell ⟨gb468, 1, none⟩ (.slice Ao168 t464.length co168)) w.heap.size (fun k_ => k_ ≠ gb425 ∧ k_ ≠ gb426 ∧ k_ ≠ gb427 ∧ k_ ≠ gb438 ∧ k_ ≠ gb451 ∧ k_ ≠ gb460 ∧ k_ ≠ gb468) (.slice Ao160 t461.length co160) t461) := ⟨by (with_reducible repeat (first | apply Kd.V_alloc | apply Kd.V_drewN | apply Kd.V_drew)); exact Kd.V_mono (Kd.V_far (p := ⟨gb468, 1, none⟩) (Kd.V_far (p := ⟨gb468, 0, none⟩) (Kd.V_mono HO463.out (fun k_ hk => (⟨hk, hk.2⟩ : _ ∧ k_ ≠ gb468))) (fun _ hk => hk.2) (.slice Ao160 t461.length co160)) (fun _ hk => hk.2) (.slice Ao168 t464.length co168)) (fun _ hk => ⟨hk.1.1.1, ⟨hk.1.1.2.1, ⟨hk.1.1.2.2.1, ⟨hk.1.1.2.2.2.1, ⟨hk.1.1.2.2.2.2.1, ⟨hk.1.1.2.2.2.2.2, hk.1.2⟩⟩⟩⟩⟩⟩)⟩
                            have n7_ : Aside0 (Kd.V k79 79 ((w159.setCell ⟨gb468, 0, none⟩ (.slice Ao160 t461.length co160)).setCell ⟨gb468, 1, none⟩ (.slice Ao168 t464.length co168)) w.heap.size (fun k_ => k_ ≠ gb425 ∧ k_ ≠ gb426 ∧ k_ ≠ gb427 ∧ k_ ≠ gb438 ∧ k_ ≠ gb451 ∧ k_ ≠ gb460 ∧ k_ ≠ gb468) (.slice Ao168 t464.length co168) t464) := ⟨by (with_reducible repeat (first | apply Kd.V_alloc | apply Kd.V_drewN | apply Kd.V_drew)); exact Kd.V_mono (Kd.V_far (p := ⟨gb468, 1, none⟩) (Kd.V_far (p := ⟨gb468, 0, none⟩) (Kd.V_mono HO466.out (fun k_ hk => (⟨hk, hk.2⟩ : _ ∧ k_ ≠ gb468))) (fun _ hk => hk.2) (.slice Ao160 t461.length co160)) (fun _ hk => hk.2) (.slice Ao168 t464.length co168)) (fun _ hk => ⟨hk.1.1.1, ⟨hk.1.1.2.1, ⟨hk.1.1.2.2.1, ⟨hk.1.1.2.2.2.1, ⟨hk.1.1.2.2.2.2.1, ⟨hk.1.1.2.2.2.2.2, hk.1.2⟩⟩⟩⟩⟩⟩)⟩
                            have n8_ : Aside0 (((w159.setCell ⟨gb468, 0, none⟩ (.slice Ao160 t461.length co160)).setCell ⟨gb468, 1, none⟩ (.slice Ao168 t464.length co168)).heap[gb425]? = some (.cells #[.slice A0_0 l0_0.length c0_0, .slice A0_1 l0_1.length c0_1] 63 (0, 0))) := ⟨by (with_reducible repeat (first | refine blk_drewN ?_ _ | refine blk_drew ?_ | refine blk_alloc ?_ _)); refine blk_far ?_ NB425_468.out _; (with_reducible repeat (first | refine blk_drewN ?_ _ | refine blk_drew ?_ | refine blk_alloc ?_ _)); refine blk_far ?_ NB425_468.out _; (with_reducible repeat (first | refine blk_drewN ?_ _ | refine blk_drew ?_ | refine blk_alloc ?_ _)); exact BK425.out⟩
                            have n9_ : Aside0 (((w159.setCell ⟨gb468, 0, none⟩ (.slice Ao160 t461.length co160)).setCell ⟨gb468, 1, none⟩ (.slice Ao168 t464.length co168)).heap[gb426]? = some (.cells #[.int .i64 a1_0, .string a1_1] 79 (0, 0))) := ⟨by (with_reducible repeat (first | refine blk_drewN ?_ _ | refine blk_drew ?_ | refine blk_alloc ?_ _)); refine blk_far ?_ NB426_468.out _; (with_reducible repeat (first | refine blk_drewN ?_ _ | refine blk_drew ?_ | refine blk_alloc ?_ _)); refine blk_far ?_ NB426_468.out _; (with_reducible repeat (first | refine blk_drewN ?_ _ | refine blk_drew ?_ | refine blk_alloc ?_ _)); exact BK426.out⟩
                            have n10_ : Aside0 (((w159.setCell ⟨gb468, 0, none⟩ (.slice Ao160 t461.length co160)).setCell ⟨gb468, 1, none⟩ (.slice Ao168 t464.length co168)).heap[gb427]? = some (.cells #[.int .i64 a2_0, .string a2_1] 79 (0, 0))) := ⟨by (with_reducible repeat (first | refine blk_drewN ?_ _ | refine blk_drew ?_ | refine blk_alloc ?_ _)); refine blk_far ?_ NB427_468.out _; (with_reducible repeat (first | refine blk_drewN ?_ _ | refine blk_drew ?_ | refine blk_alloc ?_ _)); refine blk_far ?_ NB427_468.out _; (with_reducible repeat (first | refine blk_drewN ?_ _ | refine blk_drew ?_ | refine blk_alloc ?_ _)); exact BK427.out⟩
                            have n11_ : Aside0 (((w159.setCell ⟨gb468, 0, none⟩ (.slice Ao160 t461.length co160)).setCell ⟨gb468, 1, none⟩ (.slice Ao168 t464.length co168)).heap[gb438]? = some (.cells #[.slice Ao52 t431.length co52, .slice Ao57 t434.length co57] 63 (0, 0))) := ⟨by (with_reducible repeat (first | refine blk_drewN ?_ _ | refine blk_drew ?_ | refine blk_alloc ?_ _)); refine blk_far ?_ NB438_468.out _; (with_reducible repeat (first | refine blk_drewN ?_ _ | refine blk_drew ?_ | refine blk_alloc ?_ _)); refine blk_far ?_ NB438_468.out _; (with_reducible repeat (first | refine blk_drewN ?_ _ | refine blk_drew ?_ | refine blk_alloc ?_ _)); exact BK438.out⟩
                            have n12_ : Aside0 (((w159.setCell ⟨gb468, 0, none⟩ (.slice Ao160 t461.length co160)).setCell ⟨gb468, 1, none⟩ (.slice Ao168 t464.length co168)).heap[gb451]? = some (.cells #[.slice Ao99 t444.length co99, .slice Ao105 t447.length co105] 63 (0, 0))) := ⟨by (with_reducible repeat (first | refine blk_drewN ?_ _ | refine blk_drew ?_ | refine blk_alloc ?_ _)); refine blk_far ?_ NB451_468.out _; (with_reducible repeat (first | refine blk_drewN ?_ _ | refine blk_drew ?_ | refine blk_alloc ?_ _)); refine blk_far ?_ NB451_468.out _; (with_reducible repeat (first | refine blk_drewN ?_ _ | refine blk_drew ?_ | refine blk_alloc ?_ _)); exact BK451.out⟩
                            have n13_ : Aside0 (((w159.setCell ⟨gb468, 0, none⟩ (.slice Ao160 t461.length co160)).setCell ⟨gb468, 1, none⟩ (.slice Ao168 t464.length co168)).heap[gb460]? = some (.cells #[.slice Ao144 t453.length co144, .slice Ao151 t456.length co151] 63 (0, 0))) := ⟨by (with_reducible repeat (first | refine blk_drewN ?_ _ | refine blk_drew ?_ | refine blk_alloc ?_ _)); refine blk_far ?_ NB460_468.out _; (with_reducible repeat (first | refine blk_drewN ?_ _ | refine blk_drew ?_ | refine blk_alloc ?_ _)); refine blk_far ?_ NB460_468.out _; (with_reducible repeat (first | refine blk_drewN ?_ _ | refine blk_drew ?_ | refine blk_alloc ?_ _)); exact BK460.out⟩
                            have n14_ : Aside0 (((w159.setCell ⟨gb468, 0, none⟩ (.slice Ao160 t461.length co160)).setCell ⟨gb468, 1, none⟩ (.slice Ao168 t464.length co168)).heap[gb468]? = some (.cells #[.slice Ao160 t461.length co160, .slice Ao168 t464.length co168] 63 (0, 0))) := ⟨by (with_reducible repeat (first | refine blk_drewN ?_ _ | refine blk_drew ?_ | refine blk_alloc ?_ _)); refine blk_put (cs := #[.slice Ao160 t461.length co160, .slice none 0 0]) ?_ 1 _ rfl; (with_reducible repeat (first | refine blk_drewN ?_ _ | refine blk_drew ?_ | refine blk_alloc ?_ _)); refine blk_put (cs := #[.slice none 0 0, .slice none 0 0]) ?_ 0 _ rfl; (with_reducible repeat (first | refine blk_drewN ?_ _ | refine blk_drew ?_ | refine blk_alloc ?_ _)); exact BK468.out⟩
                            have n15_ : Aside0 (Below w.heap.size w ((w159.setCell ⟨gb468, 0, none⟩ (.slice Ao160 t461.length co160)).setCell ⟨gb468, 1, none⟩ (.slice Ao168 t464.length co168))) := ⟨by repeat (first | (with_reducible first | exact HB.out | apply below_alloc | apply pw_below_drewN | apply below_drew1 | refine below_set ?_ GE425.out | refine below_set ?_ GE426.out | refine below_set ?_ GE427.out | refine below_set ?_ GE438.out | refine below_set ?_ GE451.out | refine below_set ?_ GE460.out | refine below_set ?_ GE468.out) | exact HB.out)⟩
                            (try clear HO_439000)
                            (try clear HO_439001)
                            (try clear HO_452000)
                            (try clear HO_452001)
                            (try clear HO455)
                            (try clear HO458)
                            (try clear HO463)
                            (try clear HO466)
                            (try clear BK425)
                            (try clear BK426)
                            (try clear BK427)
                            (try clear BK438)
                            (try clear BK451)
                            (try clear BK460)
                            (try clear BK468)
                            (try clear HB)
                            generalize ((w159.setCell ⟨gb468, 0, none⟩ (.slice Ao160 t461.length co160)).setCell ⟨gb468, 1, none⟩ (.slice Ao168 t464.length co168)) = w169 at n0_ n1_ n2_ n3_ n4_ n5_ n6_ n7_ n8_ n9_ n10_ n11_ n12_ n13_ n14_ n15_ ⊢
                            have HO_439000 := n0_
                            have HO_439001 := n1_
                            have HO_452000 := n2_
                            have HO_452001 := n3_
                            have HO455 := n4_
                            have HO458 := n5_
                            have HO463 := n6_
                            have HO466 := n7_
                            have BK425 := n8_
                            have BK426 := n9_
                            have BK427 := n10_
                            have BK438 := n11_
                            have BK451 := n12_
                            have BK460 := n13_
                            have BK468 := n14_
                            have HB := n15_
                            clear n0_ n1_ n2_ n3_ n4_ n5_ n6_ n7_ n8_ n9_ n10_ n11_ n12_ n13_ n14_ n15_
                            have n0_ := Aside0.mk (Kd.V_drew HO_439000.out)
                            have n1_ := Aside0.mk (Kd.V_drew HO_439001.out)
                            have n2_ := Aside0.mk (Kd.V_drew HO_452000.out)
                            have n3_ := Aside0.mk (Kd.V_drew HO_452001.out)
                            have n4_ := Aside0.mk (Kd.V_drew HO455.out)
                            have n5_ := Aside0.mk (Kd.V_drew HO458.out)
                            have n6_ := Aside0.mk (Kd.V_drew HO463.out)
                            have n7_ := Aside0.mk (Kd.V_drew HO466.out)
                            have n8_ := Aside0.mk (blk_drew BK425.out)
                            have n9_ := Aside0.mk (blk_drew BK426.out)
                            have n10_ := Aside0.mk (blk_drew BK427.out)
                            have n11_ := Aside0.mk (blk_drew BK438.out)
                            have n12_ := Aside0.mk (blk_drew BK451.out)
                            have n13_ := Aside0.mk (blk_drew BK460.out)
                            have n14_ := Aside0.mk (blk_drew BK468.out)
                            have n15_ := Aside0.mk (below_drew1 HB.out)
                            clear HO_439000
                            clear HO_439001
                            clear HO_452000
                            clear HO_452001
                            clear HO455
                            clear HO458
                            clear HO463
                            clear HO466
                            clear BK425
                            clear BK426
                            clear BK427
                            clear BK438
                            clear BK451
                            clear BK460
                            clear BK468
                            clear HB
                            have HO_439000 := n0_
                            have HO_439001 := n1_
                            have HO_452000 := n2_
                            have HO_452001 := n3_
                            have HO455 := n4_
                            have HO458 := n5_
                            have HO463 := n6_
                            have HO466 := n7_
                            have BK425 := n8_
                            have BK426 := n9_
                            have BK427 := n10_
                            have BK438 := n11_
                            have BK451 := n12_
                            have BK460 := n13_
                            have BK468 := n14_
                            have HB := n15_
                            clear n0_ n1_ n2_ n3_ n4_ n5_ n6_ n7_ n8_ n9_ n10_ n11_ n12_ n13_ n14_ n15_
                            refine start_ (n := 17) (S := fun w' => w'.cell? ⟨gb460, 0, none⟩ = some (.slice Ao144 t453.length co144) ∧ w'.cell? ⟨gb460, 1, none⟩ = some (.slice Ao151 t456.length co151) ∧ w'.cell? ⟨gb468, 0, none⟩ = some (.slice Ao160 t461.length co160) ∧ w'.cell? ⟨gb468, 1, none⟩ = some (.slice Ao168 t464.length co168)) (ds := []) #[false, false, false, false, false, false, false, false, false, false, false, false, false, false, false, false, false] (by kernel_rfl) rfl rfl ⟨(blk_cell BK460.out 0).trans rfl, (blk_cell BK460.out 1).trans rfl, (blk_cell BK468.out 0).trans rfl, (blk_cell BK468.out 1).trans rfl⟩ (fun hHeld => ?_); refine with_tabW assartlaw02_DiskPuts.tab19 assartlaw02_DiskPuts.bits19 (fun HT_ HW_ => ?_)
                            generalize w169.drew = w170 at HO_439000 HO_439001 HO_452000 HO_452001 HO455 HO458 HO463 HO466 BK425 BK426 BK427 BK438 BK451 BK460 BK468 HB hHeld ⊢
                            refine pure_ (i := 0) (N := some 153) (v := ?_) (a' := ?_) #[true, false, false, false, false, false, false, false, false, false, false, false, false, false, false, false, false] rfl rfl (any_of HT_.out (by kernel_rfl)) (fun _ _ _ h => h) (Or.inl ⟨by rfl, ?_⟩) ?_ ?_
                            rotate_left
                            · intro w'
                              go_simp
                              with_reducible rfl
                            rotate_left
                            · simp only [Act.put, List.setIfInBounds_toArray, List.set_cons_zero, List.set_cons_succ, i64_w, i32_w]
                              rfl
                            refine pure_ (i := 1) (N := some 154) (v := ?_) (a' := ?_) #[true, true, false, false, false, false, false, false, false, false, false, false, false, false, false, false, false] rfl rfl (any_of HT_.out (by kernel_rfl)) (fun _ _ _ h => h) (Or.inl ⟨by rfl, ?_⟩) ?_ ?_
                            rotate_left
                            · intro w'
                              go_simp
                              with_reducible rfl
                            rotate_left
                            · simp only [Act.put, List.setIfInBounds_toArray, List.set_cons_zero, List.set_cons_succ, i64_w, i32_w]
                              rfl
                            refine pure_ (i := 2) (N := some 155) (v := ?_) (a' := ?_) #[true, true, true, false, false, false, false, false, false, false, false, false, false, false, false, false, false] rfl rfl (any_of HT_.out (by kernel_rfl)) (fun _ _ _ h => h) (Or.inl ⟨by rfl, ?_⟩) ?_ ?_
                            rotate_left
                            · intro w'
                              go_simp
                              with_reducible rfl
                            rotate_left
                            · simp only [Act.put, List.setIfInBounds_toArray, List.set_cons_zero, List.set_cons_succ, i64_w, i32_w]
                              rfl
                            refine pure_ (i := 3) (N := some 156) (v := ?_) (a' := ?_) #[true, true, true, true, false, false, false, false, false, false, false, false, false, false, false, false, false] rfl rfl (any_of HT_.out (by kernel_rfl)) (fun _ _ _ h => h) (Or.inl ⟨by rfl, ?_⟩) ?_ ?_
                            rotate_left
                            · intro w'
                              go_simp
                              with_reducible rfl
                            rotate_left
                            · simp only [Act.put, List.setIfInBounds_toArray, List.set_cons_zero, List.set_cons_succ, i64_w, i32_w]
                              rfl
                            refine pure_ (i := 4) (N := some 157) (v := ?_) (a' := ?_) #[true, true, true, true, true, false, false, false, false, false, false, false, false, false, false, false, false] rfl rfl (any_of HT_.out (by kernel_rfl)) (fun _ _ _ h => h) (Or.inl ⟨by rfl, ?_⟩) ?_ ?_
                            rotate_left
                            · intro w'
                              go_simp
                              with_reducible rfl
                            rotate_left
                            · simp only [Act.put, List.setIfInBounds_toArray, List.set_cons_zero, List.set_cons_succ, i64_w, i32_w]
                              rfl
                            refine pure_ (i := 5) (N := some 158) (v := ?_) (a' := ?_) #[true, true, true, true, true, true, false, false, false, false, false, false, false, false, false, false, false] rfl rfl (any_of HT_.out (by kernel_rfl)) (fun _ _ _ h => h) (Or.inl ⟨by rfl, ?_⟩) ?_ ?_
                            rotate_left
                            · intro w'
                              go_simp
                              with_reducible rfl
                            rotate_left
                            · simp only [Act.put, List.setIfInBounds_toArray, List.set_cons_zero, List.set_cons_succ, i64_w, i32_w]
                              rfl
                            refine pure_ (i := 6) (N := some 159) (v := ?_) (a' := ?_) #[true, true, true, true, true, true, true, false, false, false, false, false, false, false, false, false, false] rfl rfl (any_of HT_.out (by kernel_rfl)) (fun _ _ _ h => h) (Or.inl ⟨by rfl, ?_⟩) ?_ ?_
                            rotate_left
                            · intro w'
                              go_simp
                              with_reducible rfl
                            rotate_left
                            · simp only [Act.put, List.setIfInBounds_toArray, List.set_cons_zero, List.set_cons_succ, i64_w, i32_w]
                              rfl
                            refine pure_ (i := 7) (N := some 160) (v := ?_) (a' := ?_) #[true, true, true, true, true, true, true, true, false, false, false, false, false, false, false, false, false] rfl rfl (any_of HT_.out (by kernel_rfl)) (fun _ _ _ h => h) (Or.inl ⟨by rfl, ?_⟩) ?_ ?_
                            rotate_left
                            · intro w'
                              go_simp
                              with_reducible rfl
                            rotate_left
                            · simp only [Act.put, List.setIfInBounds_toArray, List.set_cons_zero, List.set_cons_succ, i64_w, i32_w]
                              rfl
                            refine pure_ (i := 8) (N := some 161) (v := ?_) (a' := ?_) #[true, true, true, true, true, true, true, true, true, false, false, false, false, false, false, false, false] rfl rfl (any_of HT_.out (by kernel_rfl)) (fun _ _ _ h => h) (Or.inl ⟨by rfl, ?_⟩) ?_ ?_
                            rotate_left
                            · intro w'
                              go_simp
                              with_reducible rfl
                            rotate_left
                            · simp only [Act.put, List.setIfInBounds_toArray, List.set_cons_zero, List.set_cons_succ, i64_w, i32_w]
                              rfl
                            refine pure_ (i := 9) (N := some 162) (v := ?_) (a' := ?_) #[true, true, true, true, true, true, true, true, true, true, false, false, false, false, false, false, false] rfl rfl (any_of HT_.out (by kernel_rfl)) (fun _ _ _ h => h) (Or.inl ⟨by rfl, ?_⟩) ?_ ?_
                            rotate_left
                            · intro w'
                              go_simp
                              with_reducible rfl
                            rotate_left
                            · simp only [Act.put, List.setIfInBounds_toArray, List.set_cons_zero, List.set_cons_succ, i64_w, i32_w]
                              rfl
                            refine take_ (i := 10) (N := some 163) (v := ?_) (a' := ?_) #[true, true, true, true, true, true, true, true, true, true, true, false, false, false, false, false, false] rfl rfl (take_ofW HT_.out HW_.out (by kernel_rfl)) (fun _ _ _ h => h) (Or.inl ⟨by rfl, ?_⟩) hHeld ?_ ?_
                            rotate_left
                            · rintro w' ⟨s0, s1, s2, s3⟩
                              go_simp
                              with_reducible rfl
                            rotate_left
                            · simp only [Act.put, List.setIfInBounds_toArray, List.set_cons_zero, List.set_cons_succ, i64_w, i32_w]
                              rfl
                            refine take_ (i := 12) (N := some 165) (v := ?_) (a' := ?_) #[true, true, true, true, true, true, true, true, true, true, true, false, true, false, false, false, false] rfl rfl (take_ofW HT_.out HW_.out (by kernel_rfl)) (fun _ _ _ h => h) (Or.inl ⟨by rfl, ?_⟩) hHeld ?_ ?_
                            rotate_left
                            · rintro w' ⟨s0, s1, s2, s3⟩
                              go_simp
                              with_reducible rfl
                            rotate_left
                            · simp only [Act.put, List.setIfInBounds_toArray, List.set_cons_zero, List.set_cons_succ, i64_w, i32_w]
                              rfl
                            refine one_ (i := 11) (N := some 164) #[true, true, true, true, true, true, true, true, true, true, true, true, true, false, false, false, false] rfl rfl (one_of HT_.out (by kernel_rfl)) (by decide) (fun K hK => ?_)
                            refine goes_ Try.func48 (by kernel_rfl) rfl #[.agg #[.slice Ao144 t453.length co144, .slice Ao151 t456.length co151]] (by rfl) rfl rfl (by (try simp only [List.map_toArray, List.map_cons, List.map_nil]); first | done | rfl | (simp only [List.length_drop, List.length_take]; rfl)) ?_
                            with_reducible refine (disk_Flush.calls _ _ t453 _ _ t456 t469 t472 _ ?side1 ?side2 ?side3 ?side4 A130.out).mono ?_
                            (case side1 => repeat (first | exact (Kd.V_reads' HO455.out).2.2 | (with_reducible refine Kd.C_alloc ?_ _) | (with_reducible refine Kd.C_drewN ?_ _) | (with_reducible refine Kd.C_drew ?_)))
                            (case side2 => exact (Kd.V_reads' HO455.out).2.1)
                            (case side3 => repeat (first | exact (Kd.V_reads' HO458.out).2.2 | (with_reducible refine Kd.C_alloc ?_ _) | (with_reducible refine Kd.C_drewN ?_ _) | (with_reducible refine Kd.C_drew ?_)))
                            (case side4 => exact (Kd.V_reads' HO458.out).2.1)
                            rintro e w171 ⟨v470, v473, rfl, ho0, ho1, hb⟩
                            refine ⟨_, rfl, ?_⟩
                            have n0_ := Aside0.mk (Kd.V_mono (Kd.V_told (Kd.V_told (Kd.V_old (by (with_reducible repeat (first | apply Kd.V_alloc | apply Kd.V_drewN | apply Kd.V_drew)); exact HO_439000.out) hb) (Kd.R_base ho0)) (Kd.R_base ho1)) (fun _ h_ => h_.1))
                            have n1_ := Aside0.mk (Kd.V_mono (Kd.V_told (Kd.V_told (Kd.V_old (by (with_reducible repeat (first | apply Kd.V_alloc | apply Kd.V_drewN | apply Kd.V_drew)); exact HO_439001.out) hb) (Kd.R_base ho0)) (Kd.R_base ho1)) (fun _ h_ => h_.1))
                            have n2_ := Aside0.mk (Kd.V_mono (Kd.V_told (Kd.V_told (Kd.V_old (by (with_reducible repeat (first | apply Kd.V_alloc | apply Kd.V_drewN | apply Kd.V_drew)); exact HO_452000.out) hb) (Kd.R_base ho0)) (Kd.R_base ho1)) (fun _ h_ => h_.1))
                            have n3_ := Aside0.mk (Kd.V_mono (Kd.V_told (Kd.V_told (Kd.V_old (by (with_reducible repeat (first | apply Kd.V_alloc | apply Kd.V_drewN | apply Kd.V_drew)); exact HO_452001.out) hb) (Kd.R_base ho0)) (Kd.R_base ho1)) (fun _ h_ => h_.1))
                            have n4_ := Aside0.mk (Kd.V_mono (Kd.V_told (Kd.V_told (Kd.V_old (by (with_reducible repeat (first | apply Kd.V_alloc | apply Kd.V_drewN | apply Kd.V_drew)); exact HO455.out) hb) (Kd.R_base ho0)) (Kd.R_base ho1)) (fun _ h_ => h_.1))
                            have n5_ := Aside0.mk (Kd.V_mono (Kd.V_told (Kd.V_told (Kd.V_old (by (with_reducible repeat (first | apply Kd.V_alloc | apply Kd.V_drewN | apply Kd.V_drew)); exact HO458.out) hb) (Kd.R_base ho0)) (Kd.R_base ho1)) (fun _ h_ => h_.1))
                            have n6_ := Aside0.mk (Kd.V_mono (Kd.V_told (Kd.V_told (Kd.V_old (by (with_reducible repeat (first | apply Kd.V_alloc | apply Kd.V_drewN | apply Kd.V_drew)); exact HO463.out) hb) (Kd.R_base ho0)) (Kd.R_base ho1)) (fun _ h_ => h_.1))
                            have n7_ := Aside0.mk (Kd.V_mono (Kd.V_told (Kd.V_told (Kd.V_old (by (with_reducible repeat (first | apply Kd.V_alloc | apply Kd.V_drewN | apply Kd.V_drew)); exact HO466.out) hb) (Kd.R_base ho0)) (Kd.R_base ho1)) (fun _ h_ => h_.1))
                            have n8_ := Aside0.mk (Kd.R_lower ho0 (below_size (by repeat (first | (with_reducible first | exact HB.out | apply below_alloc | apply pw_below_drewN | apply below_drew1 | refine below_set ?_ GE425.out | refine below_set ?_ GE426.out | refine below_set ?_ GE427.out | refine below_set ?_ GE438.out | refine below_set ?_ GE451.out | refine below_set ?_ GE460.out | refine below_set ?_ GE468.out) | exact HB.out))))
                            have n9_ := Aside0.mk (Kd.R_lower (Kd.R_newB (Kd.R_newB ho1 (g := gb426) (o := .cells #[.int .i64 a1_0, .string a1_1] 79 (0, 0)) (by (with_reducible repeat (first | refine blk_drewN ?_ _ | refine blk_drew ?_ | refine blk_alloc ?_ _)); exact BK426.out)) (g := gb427) (o := .cells #[.int .i64 a2_0, .string a2_1] 79 (0, 0)) (by (with_reducible repeat (first | refine blk_drewN ?_ _ | refine blk_drew ?_ | refine blk_alloc ?_ _)); exact BK427.out)) (below_size (by repeat (first | (with_reducible first | exact HB.out | apply below_alloc | apply pw_below_drewN | apply below_drew1 | refine below_set ?_ GE425.out | refine below_set ?_ GE426.out | refine below_set ?_ GE427.out | refine below_set ?_ GE438.out | refine below_set ?_ GE451.out | refine below_set ?_ GE460.out | refine below_set ?_ GE468.out) | exact HB.out))))
                            have n10_ := Aside0.mk (blk_below (g := gb425) (o := .cells #[.slice A0_0 l0_0.length c0_0, .slice A0_1 l0_1.length c0_1] 63 (0, 0)) (by (with_reducible repeat (first | refine blk_drewN ?_ _ | refine blk_drew ?_ | refine blk_alloc ?_ _)); exact BK425.out) hb)
                            have n11_ := Aside0.mk (blk_below (g := gb426) (o := .cells #[.int .i64 a1_0, .string a1_1] 79 (0, 0)) (by (with_reducible repeat (first | refine blk_drewN ?_ _ | refine blk_drew ?_ | refine blk_alloc ?_ _)); exact BK426.out) hb)
                            have n12_ := Aside0.mk (blk_below (g := gb427) (o := .cells #[.int .i64 a2_0, .string a2_1] 79 (0, 0)) (by (with_reducible repeat (first | refine blk_drewN ?_ _ | refine blk_drew ?_ | refine blk_alloc ?_ _)); exact BK427.out) hb)
                            have n13_ := Aside0.mk (blk_below (g := gb438) (o := .cells #[.slice Ao52 t431.length co52, .slice Ao57 t434.length co57] 63 (0, 0)) (by (with_reducible repeat (first | refine blk_drewN ?_ _ | refine blk_drew ?_ | refine blk_alloc ?_ _)); exact BK438.out) hb)
                            have n14_ := Aside0.mk (blk_below (g := gb451) (o := .cells #[.slice Ao99 t444.length co99, .slice Ao105 t447.length co105] 63 (0, 0)) (by (with_reducible repeat (first | refine blk_drewN ?_ _ | refine blk_drew ?_ | refine blk_alloc ?_ _)); exact BK451.out) hb)
                            have n15_ := Aside0.mk (blk_below (g := gb460) (o := .cells #[.slice Ao144 t453.length co144, .slice Ao151 t456.length co151] 63 (0, 0)) (by (with_reducible repeat (first | refine blk_drewN ?_ _ | refine blk_drew ?_ | refine blk_alloc ?_ _)); exact BK460.out) hb)
                            have n16_ := Aside0.mk (blk_below (g := gb468) (o := .cells #[.slice Ao160 t461.length co160, .slice Ao168 t464.length co168] 63 (0, 0)) (by (with_reducible repeat (first | refine blk_drewN ?_ _ | refine blk_drew ?_ | refine blk_alloc ?_ _)); exact BK468.out) hb)
                            have n17_ := Aside0.mk (below_step (by repeat (first | (with_reducible first | exact HB.out | apply below_alloc | apply pw_below_drewN | apply below_drew1 | refine below_set ?_ GE425.out | refine below_set ?_ GE426.out | refine below_set ?_ GE427.out | refine below_set ?_ GE438.out | refine below_set ?_ GE451.out | refine below_set ?_ GE460.out | refine below_set ?_ GE468.out) | exact HB.out)) hb)
                            clear HO_439000
                            clear HO_439001
                            clear HO_452000
                            clear HO_452001
                            clear HO455
                            clear HO458
                            clear HO463
                            clear HO466
                            clear BK425
                            clear BK426
                            clear BK427
                            clear BK438
                            clear BK451
                            clear BK460
                            clear BK468
                            clear HB
                            have HO_439000 := n0_
                            have HO_439001 := n1_
                            have HO_452000 := n2_
                            have HO_452001 := n3_
                            have HO455 := n4_
                            have HO458 := n5_
                            have HO463 := n6_
                            have HO466 := n7_
                            have HO471 := n8_
                            have HO474 := n9_
                            have BK425 := n10_
                            have BK426 := n11_
                            have BK427 := n12_
                            have BK438 := n13_
                            have BK451 := n14_
                            have BK460 := n15_
                            have BK468 := n16_
                            have HB := n17_
                            clear n0_ n1_ n2_ n3_ n4_ n5_ n6_ n7_ n8_ n9_ n10_ n11_ n12_ n13_ n14_ n15_ n16_ n17_
                            (try clear hb)
                            (try clear hb2)
                            (try clear hk)
                            (try clear hi)
                            (try clear ho0)
                            (try clear ho1)
                            refine hK.out _ _ ⟨(blk_cell BK460.out 0).trans rfl, (blk_cell BK460.out 1).trans rfl, (blk_cell BK468.out 0).trans rfl, (blk_cell BK468.out 1).trans rfl⟩ (fun hHeld => ?_)
                            clear hK K
                            refine norm_ (a' := ?_) ?_ ?_
                            rotate_left
                            · show Act.put _ (some 164) _ = _
                              simp only [Act.put, List.setIfInBounds_toArray, List.set_cons_zero, List.set_cons_succ, i64_w, i32_w]
                              rfl
                            refine one_ (i := 13) (N := some 166) #[true, true, true, true, true, true, true, true, true, true, true, true, true, true, false, false, false] rfl rfl (one_of HT_.out (by kernel_rfl)) (by decide) (fun K hK => ?_)
                            refine goes_ Try.func48 (by kernel_rfl) rfl #[.agg #[.slice Ao160 t461.length co160, .slice Ao168 t464.length co168]] (by rfl) rfl rfl (by (try simp only [List.map_toArray, List.map_cons, List.map_nil]); first | done | rfl | (simp only [List.length_drop, List.length_take]; rfl)) ?_
                            with_reducible refine (disk_Flush.calls _ _ t461 _ _ t464 t475 t478 _ ?side1 ?side2 ?side3 ?side4 A131.out).mono ?_
                            (case side1 => repeat (first | exact (Kd.V_reads' HO463.out).2.2 | (with_reducible refine Kd.C_alloc ?_ _) | (with_reducible refine Kd.C_drewN ?_ _) | (with_reducible refine Kd.C_drew ?_)))
                            (case side2 => exact (Kd.V_reads' HO463.out).2.1)
                            (case side3 => repeat (first | exact (Kd.V_reads' HO466.out).2.2 | (with_reducible refine Kd.C_alloc ?_ _) | (with_reducible refine Kd.C_drewN ?_ _) | (with_reducible refine Kd.C_drew ?_)))
                            (case side4 => exact (Kd.V_reads' HO466.out).2.1)
                            rintro e w172 ⟨v476, v479, rfl, ho0, ho1, hb⟩
                            refine ⟨_, rfl, ?_⟩
                            have n0_ := Aside0.mk (Kd.V_mono (Kd.V_told (Kd.V_told (Kd.V_old (by (with_reducible repeat (first | apply Kd.V_alloc | apply Kd.V_drewN | apply Kd.V_drew)); exact HO_439000.out) hb) (Kd.R_base ho0)) (Kd.R_base ho1)) (fun _ h_ => h_.1))
                            have n1_ := Aside0.mk (Kd.V_mono (Kd.V_told (Kd.V_told (Kd.V_old (by (with_reducible repeat (first | apply Kd.V_alloc | apply Kd.V_drewN | apply Kd.V_drew)); exact HO_439001.out) hb) (Kd.R_base ho0)) (Kd.R_base ho1)) (fun _ h_ => h_.1))
                            have n2_ := Aside0.mk (Kd.V_mono (Kd.V_told (Kd.V_told (Kd.V_old (by (with_reducible repeat (first | apply Kd.V_alloc | apply Kd.V_drewN | apply Kd.V_drew)); exact HO_452000.out) hb) (Kd.R_base ho0)) (Kd.R_base ho1)) (fun _ h_ => h_.1))
                            have n3_ := Aside0.mk (Kd.V_mono (Kd.V_told (Kd.V_told (Kd.V_old (by (with_reducible repeat (first | apply Kd.V_alloc | apply Kd.V_drewN | apply Kd.V_drew)); exact HO_452001.out) hb) (Kd.R_base ho0)) (Kd.R_base ho1)) (fun _ h_ => h_.1))
                            have n4_ := Aside0.mk (Kd.V_mono (Kd.V_told (Kd.V_told (Kd.V_old (by (with_reducible repeat (first | apply Kd.V_alloc | apply Kd.V_drewN | apply Kd.V_drew)); exact HO455.out) hb) (Kd.R_base ho0)) (Kd.R_base ho1)) (fun _ h_ => h_.1))
                            have n5_ := Aside0.mk (Kd.V_mono (Kd.V_told (Kd.V_told (Kd.V_old (by (with_reducible repeat (first | apply Kd.V_alloc | apply Kd.V_drewN | apply Kd.V_drew)); exact HO458.out) hb) (Kd.R_base ho0)) (Kd.R_base ho1)) (fun _ h_ => h_.1))
                            have n6_ := Aside0.mk (Kd.V_mono (Kd.V_told (Kd.V_told (Kd.V_old (by (with_reducible repeat (first | apply Kd.V_alloc | apply Kd.V_drewN | apply Kd.V_drew)); exact HO463.out) hb) (Kd.R_base ho0)) (Kd.R_base ho1)) (fun _ h_ => h_.1))
                            have n7_ := Aside0.mk (Kd.V_mono (Kd.V_told (Kd.V_told (Kd.V_old (by (with_reducible repeat (first | apply Kd.V_alloc | apply Kd.V_drewN | apply Kd.V_drew)); exact HO466.out) hb) (Kd.R_base ho0)) (Kd.R_base ho1)) (fun _ h_ => h_.1))
                            have n8_ := Aside0.mk (Kd.R_elder' (by (with_reducible repeat (first | apply Kd.R_alloc | apply Kd.R_drewN | apply Kd.R_drew)); exact HO471.out) (Kd.R_base ho0) hb)
                            have n9_ := Aside0.mk (Kd.R_elder' (by (with_reducible repeat (first | apply Kd.R_alloc | apply Kd.R_drewN | apply Kd.R_drew)); exact HO474.out) (Kd.R_base ho1) hb)
                            have n10_ := Aside0.mk (Kd.R_lower (Kd.R_new' ho0 (Kd.R_lt (by (with_reducible repeat (first | apply Kd.R_alloc | apply Kd.R_drewN | apply Kd.R_drew)); exact HO471.out))) (below_size (by repeat (first | (with_reducible first | exact HB.out | apply below_alloc | apply pw_below_drewN | apply below_drew1 | refine below_set ?_ GE425.out | refine below_set ?_ GE426.out | refine below_set ?_ GE427.out | refine below_set ?_ GE438.out | refine below_set ?_ GE451.out | refine below_set ?_ GE460.out | refine below_set ?_ GE468.out) | exact HB.out))))
                            have n11_ := Aside0.mk (Kd.R_lower (Kd.R_newB (Kd.R_newB (Kd.R_new' ho1 (Kd.R_lt (by (with_reducible repeat (first | apply Kd.R_alloc | apply Kd.R_drewN | apply Kd.R_drew)); exact HO474.out))) (g := gb426) (o := .cells #[.int .i64 a1_0, .string a1_1] 79 (0, 0)) (by (with_reducible repeat (first | refine blk_drewN ?_ _ | refine blk_drew ?_ | refine blk_alloc ?_ _)); exact BK426.out)) (g := gb427) (o := .cells #[.int .i64 a2_0, .string a2_1] 79 (0, 0)) (by (with_reducible repeat (first | refine blk_drewN ?_ _ | refine blk_drew ?_ | refine blk_alloc ?_ _)); exact BK427.out)) (below_size (by repeat (first | (with_reducible first | exact HB.out | apply below_alloc | apply pw_below_drewN | apply below_drew1 | refine below_set ?_ GE425.out | refine below_set ?_ GE426.out | refine below_set ?_ GE427.out | refine below_set ?_ GE438.out | refine below_set ?_ GE451.out | refine below_set ?_ GE460.out | refine below_set ?_ GE468.out) | exact HB.out))))
                            have n12_ := Aside0.mk (blk_below (g := gb425) (o := .cells #[.slice A0_0 l0_0.length c0_0, .slice A0_1 l0_1.length c0_1] 63 (0, 0)) (by (with_reducible repeat (first | refine blk_drewN ?_ _ | refine blk_drew ?_ | refine blk_alloc ?_ _)); exact BK425.out) hb)
                            have n13_ := Aside0.mk (blk_below (g := gb426) (o := .cells #[.int .i64 a1_0, .string a1_1] 79 (0, 0)) (by (with_reducible repeat (first | refine blk_drewN ?_ _ | refine blk_drew ?_ | refine blk_alloc ?_ _)); exact BK426.out) hb)
                            have n14_ := Aside0.mk (blk_below (g := gb427) (o := .cells #[.int .i64 a2_0, .string a2_1] 79 (0, 0)) (by (with_reducible repeat (first | refine blk_drewN ?_ _ | refine blk_drew ?_ | refine blk_alloc ?_ _)); exact BK427.out) hb)
                            have n15_ := Aside0.mk (blk_below (g := gb438) (o := .cells #[.slice Ao52 t431.length co52, .slice Ao57 t434.length co57] 63 (0, 0)) (by (with_reducible repeat (first | refine blk_drewN ?_ _ | refine blk_drew ?_ | refine blk_alloc ?_ _)); exact BK438.out) hb)
                            have n16_ := Aside0.mk (blk_below (g := gb451) (o := .cells #[.slice Ao99 t444.length co99, .slice Ao105 t447.length co105] 63 (0, 0)) (by (with_reducible repeat (first | refine blk_drewN ?_ _ | refine blk_drew ?_ | refine blk_alloc ?_ _)); exact BK451.out) hb)
                            have n17_ := Aside0.mk (blk_below (g := gb460) (o := .cells #[.slice Ao144 t453.length co144, .slice Ao151 t456.length co151] 63 (0, 0)) (by (with_reducible repeat (first | refine blk_drewN ?_ _ | refine blk_drew ?_ | refine blk_alloc ?_ _)); exact BK460.out) hb)
                            have n18_ := Aside0.mk (blk_below (g := gb468) (o := .cells #[.slice Ao160 t461.length co160, .slice Ao168 t464.length co168] 63 (0, 0)) (by (with_reducible repeat (first | refine blk_drewN ?_ _ | refine blk_drew ?_ | refine blk_alloc ?_ _)); exact BK468.out) hb)
                            have n19_ := Aside0.mk (below_step (by repeat (first | (with_reducible first | exact HB.out | apply below_alloc | apply pw_below_drewN | apply below_drew1 | refine below_set ?_ GE425.out | refine below_set ?_ GE426.out | refine below_set ?_ GE427.out | refine below_set ?_ GE438.out | refine below_set ?_ GE451.out | refine below_set ?_ GE460.out | refine below_set ?_ GE468.out) | exact HB.out)) hb)
                            clear HO_439000
                            clear HO_439001
                            clear HO_452000
                            clear HO_452001
                            clear HO455
                            clear HO458
                            clear HO463
                            clear HO466
                            clear HO471
                            clear HO474
                            clear BK425
                            clear BK426
                            clear BK427
                            clear BK438
                            clear BK451
                            clear BK460
                            clear BK468
                            clear HB
                            have HO_439000 := n0_
                            have HO_439001 := n1_
                            have HO_452000 := n2_
                            have HO_452001 := n3_
                            have HO455 := n4_
                            have HO458 := n5_
                            have HO463 := n6_
                            have HO466 := n7_
                            have HO471 := n8_
                            have HO474 := n9_
                            have HO477 := n10_
                            have HO480 := n11_
                            have BK425 := n12_
                            have BK426 := n13_
                            have BK427 := n14_
                            have BK438 := n15_
                            have BK451 := n16_
                            have BK460 := n17_
                            have BK468 := n18_
                            have HB := n19_
                            clear n0_ n1_ n2_ n3_ n4_ n5_ n6_ n7_ n8_ n9_ n10_ n11_ n12_ n13_ n14_ n15_ n16_ n17_ n18_ n19_
                            (try clear hb)
                            (try clear hb2)
                            (try clear hk)
                            (try clear hi)
                            (try clear ho0)
                            (try clear ho1)
                            obtain ⟨Ao173, co173, eo173⟩ := Kd.R_slice HO471.out
                            (first | subst eo173 | (injection eo173 with f1_ f2_ f3_; have f4_ := f1_.symm; have f5_ := f3_.symm; clear f1_ f2_ f3_; subst f4_; subst f5_))
                            obtain ⟨Ao174, co174, eo174⟩ := Kd.R_slice HO474.out
                            (first | subst eo174 | (injection eo174 with f1_ f2_ f3_; have f4_ := f1_.symm; have f5_ := f3_.symm; clear f1_ f2_ f3_; subst f4_; subst f5_))
                            obtain ⟨Ao175, co175, eo175⟩ := Kd.R_slice HO477.out
                            (first | subst eo175 | (injection eo175 with f1_ f2_ f3_; have f4_ := f1_.symm; have f5_ := f3_.symm; clear f1_ f2_ f3_; subst f4_; subst f5_))
                            obtain ⟨Ao176, co176, eo176⟩ := Kd.R_slice HO480.out
                            (first | subst eo176 | (injection eo176 with f1_ f2_ f3_; have f4_ := f1_.symm; have f5_ := f3_.symm; clear f1_ f2_ f3_; subst f4_; subst f5_))
                            refine hK.out _ _ ⟨(blk_cell BK460.out 0).trans rfl, (blk_cell BK460.out 1).trans rfl, (blk_cell BK468.out 0).trans rfl, (blk_cell BK468.out 1).trans rfl⟩ (fun hHeld => ?_)
                            clear hK K
                            refine norm_ (a' := ?_) ?_ ?_
                            rotate_left
                            · show Act.put _ (some 166) _ = _
                              simp only [Act.put, List.setIfInBounds_toArray, List.set_cons_zero, List.set_cons_succ, i64_w, i32_w]
                              rfl
                            refine one_ (i := 14) (N := some 167) #[true, true, true, true, true, true, true, true, true, true, true, true, true, true, true, false, false] rfl rfl (one_of HT_.out (by kernel_rfl)) (by decide) (fun K hK => ?_)
                            refine goes_ Try.func38 (by kernel_rfl) rfl #[.agg #[.slice Ao173 t469.length co173, .slice Ao174 t472.length co174], .agg #[.slice Ao175 t475.length co175, .slice Ao176 t478.length co176]] (by rfl) rfl rfl (by (try simp only [List.map_toArray, List.map_cons, List.map_nil]); first | done | rfl | (simp only [List.length_drop, List.length_take]; rfl)) ?_
                            with_reducible refine (assartref02_Same.calls kj88 _ _ t469 _ _ t472 _ _ t475 _ _ t478 t481 _ ?side1 ?side2 ?side3 ?side4 ?side5 ?side6 ?side7 ?side8 A132.out).mono ?_
                            (case side1 => repeat (first | exact (Kd.R_reads' HO471.out).2.2 | (with_reducible refine Kd.C_alloc ?_ _) | (with_reducible refine Kd.C_drewN ?_ _) | (with_reducible refine Kd.C_drew ?_)))
                            (case side2 => exact (Kd.R_reads' HO471.out).2.1)
                            (case side3 => repeat (first | exact (Kd.R_reads' HO474.out).2.2 | (with_reducible refine Kd.C_alloc ?_ _) | (with_reducible refine Kd.C_drewN ?_ _) | (with_reducible refine Kd.C_drew ?_)))
                            (case side4 => exact (Kd.R_reads' HO474.out).2.1)
                            (case side5 => repeat (first | exact (Kd.R_reads' HO477.out).2.2 | (with_reducible refine Kd.C_alloc ?_ _) | (with_reducible refine Kd.C_drewN ?_ _) | (with_reducible refine Kd.C_drew ?_)))
                            (case side6 => exact (Kd.R_reads' HO477.out).2.1)
                            (case side7 => repeat (first | exact (Kd.R_reads' HO480.out).2.2 | (with_reducible refine Kd.C_alloc ?_ _) | (with_reducible refine Kd.C_drewN ?_ _) | (with_reducible refine Kd.C_drew ?_)))
                            (case side8 => exact (Kd.R_reads' HO480.out).2.1)
                            rintro e w177 ⟨rfl, hb⟩
                            refine ⟨_, rfl, ?_⟩
                            have n0_ := Aside0.mk (Kd.V_below (by (with_reducible repeat (first | apply Kd.V_alloc | apply Kd.V_drewN | apply Kd.V_drew)); exact HO_439000.out) hb)
                            have n1_ := Aside0.mk (Kd.V_below (by (with_reducible repeat (first | apply Kd.V_alloc | apply Kd.V_drewN | apply Kd.V_drew)); exact HO_439001.out) hb)
                            have n2_ := Aside0.mk (Kd.V_below (by (with_reducible repeat (first | apply Kd.V_alloc | apply Kd.V_drewN | apply Kd.V_drew)); exact HO_452000.out) hb)
                            have n3_ := Aside0.mk (Kd.V_below (by (with_reducible repeat (first | apply Kd.V_alloc | apply Kd.V_drewN | apply Kd.V_drew)); exact HO_452001.out) hb)
                            have n4_ := Aside0.mk (Kd.V_below (by (with_reducible repeat (first | apply Kd.V_alloc | apply Kd.V_drewN | apply Kd.V_drew)); exact HO455.out) hb)
                            have n5_ := Aside0.mk (Kd.V_below (by (with_reducible repeat (first | apply Kd.V_alloc | apply Kd.V_drewN | apply Kd.V_drew)); exact HO458.out) hb)
                            have n6_ := Aside0.mk (Kd.V_below (by (with_reducible repeat (first | apply Kd.V_alloc | apply Kd.V_drewN | apply Kd.V_drew)); exact HO463.out) hb)
                            have n7_ := Aside0.mk (Kd.V_below (by (with_reducible repeat (first | apply Kd.V_alloc | apply Kd.V_drewN | apply Kd.V_drew)); exact HO466.out) hb)
                            have n8_ := Aside0.mk (Kd.R_below (by (with_reducible repeat (first | apply Kd.R_alloc | apply Kd.R_drewN | apply Kd.R_drew)); exact HO471.out) hb)
                            have n9_ := Aside0.mk (Kd.R_below (by (with_reducible repeat (first | apply Kd.R_alloc | apply Kd.R_drewN | apply Kd.R_drew)); exact HO474.out) hb)
                            have n10_ := Aside0.mk (Kd.R_below (by (with_reducible repeat (first | apply Kd.R_alloc | apply Kd.R_drewN | apply Kd.R_drew)); exact HO477.out) hb)
                            have n11_ := Aside0.mk (Kd.R_below (by (with_reducible repeat (first | apply Kd.R_alloc | apply Kd.R_drewN | apply Kd.R_drew)); exact HO480.out) hb)
                            have n12_ := Aside0.mk (blk_below (g := gb425) (o := .cells #[.slice A0_0 l0_0.length c0_0, .slice A0_1 l0_1.length c0_1] 63 (0, 0)) (by (with_reducible repeat (first | refine blk_drewN ?_ _ | refine blk_drew ?_ | refine blk_alloc ?_ _)); exact BK425.out) hb)
                            have n13_ := Aside0.mk (blk_below (g := gb426) (o := .cells #[.int .i64 a1_0, .string a1_1] 79 (0, 0)) (by (with_reducible repeat (first | refine blk_drewN ?_ _ | refine blk_drew ?_ | refine blk_alloc ?_ _)); exact BK426.out) hb)
                            have n14_ := Aside0.mk (blk_below (g := gb427) (o := .cells #[.int .i64 a2_0, .string a2_1] 79 (0, 0)) (by (with_reducible repeat (first | refine blk_drewN ?_ _ | refine blk_drew ?_ | refine blk_alloc ?_ _)); exact BK427.out) hb)
                            have n15_ := Aside0.mk (blk_below (g := gb438) (o := .cells #[.slice Ao52 t431.length co52, .slice Ao57 t434.length co57] 63 (0, 0)) (by (with_reducible repeat (first | refine blk_drewN ?_ _ | refine blk_drew ?_ | refine blk_alloc ?_ _)); exact BK438.out) hb)
                            have n16_ := Aside0.mk (blk_below (g := gb451) (o := .cells #[.slice Ao99 t444.length co99, .slice Ao105 t447.length co105] 63 (0, 0)) (by (with_reducible repeat (first | refine blk_drewN ?_ _ | refine blk_drew ?_ | refine blk_alloc ?_ _)); exact BK451.out) hb)
                            have n17_ := Aside0.mk (blk_below (g := gb460) (o := .cells #[.slice Ao144 t453.length co144, .slice Ao151 t456.length co151] 63 (0, 0)) (by (with_reducible repeat (first | refine blk_drewN ?_ _ | refine blk_drew ?_ | refine blk_alloc ?_ _)); exact BK460.out) hb)
                            have n18_ := Aside0.mk (blk_below (g := gb468) (o := .cells #[.slice Ao160 t461.length co160, .slice Ao168 t464.length co168] 63 (0, 0)) (by (with_reducible repeat (first | refine blk_drewN ?_ _ | refine blk_drew ?_ | refine blk_alloc ?_ _)); exact BK468.out) hb)
                            have n19_ := Aside0.mk (below_step (by repeat (first | (with_reducible first | exact HB.out | apply below_alloc | apply pw_below_drewN | apply below_drew1 | refine below_set ?_ GE425.out | refine below_set ?_ GE426.out | refine below_set ?_ GE427.out | refine below_set ?_ GE438.out | refine below_set ?_ GE451.out | refine below_set ?_ GE460.out | refine below_set ?_ GE468.out) | exact HB.out)) hb)
                            clear HO_439000
                            clear HO_439001
                            clear HO_452000
                            clear HO_452001
                            clear HO455
                            clear HO458
                            clear HO463
                            clear HO466
                            clear HO471
                            clear HO474
                            clear HO477
                            clear HO480
                            clear BK425
                            clear BK426
                            clear BK427
                            clear BK438
                            clear BK451
                            clear BK460
                            clear BK468
                            clear HB
                            have HO_439000 := n0_
                            have HO_439001 := n1_
                            have HO_452000 := n2_
                            have HO_452001 := n3_
                            have HO455 := n4_
                            have HO458 := n5_
                            have HO463 := n6_
                            have HO466 := n7_
                            have HO471 := n8_
                            have HO474 := n9_
                            have HO477 := n10_
                            have HO480 := n11_
                            have BK425 := n12_
                            have BK426 := n13_
                            have BK427 := n14_
                            have BK438 := n15_
                            have BK451 := n16_
                            have BK460 := n17_
                            have BK468 := n18_
                            have HB := n19_
                            clear n0_ n1_ n2_ n3_ n4_ n5_ n6_ n7_ n8_ n9_ n10_ n11_ n12_ n13_ n14_ n15_ n16_ n17_ n18_ n19_
                            (try clear hb)
                            (try clear hb2)
                            (try clear hk)
                            (try clear hi)
                            refine hK.out _ _ ⟨(blk_cell BK460.out 0).trans rfl, (blk_cell BK460.out 1).trans rfl, (blk_cell BK468.out 0).trans rfl, (blk_cell BK468.out 1).trans rfl⟩ (fun hHeld => ?_)
                            clear hK K
                            refine norm_ (a' := ?_) ?_ ?_
                            rotate_left
                            · show Act.put _ (some 167) _ = _
                              simp only [Act.put, List.setIfInBounds_toArray, List.set_cons_zero, List.set_cons_succ, i64_w, i32_w]
                              rfl
                            refine pure_ (i := 15) (N := some 168) (v := ?_) (a' := ?_) #[true, true, true, true, true, true, true, true, true, true, true, true, true, true, true, true, false] rfl rfl (any_of HT_.out (by kernel_rfl)) (fun _ _ _ h => h) (Or.inl ⟨by rfl, ?_⟩) ?_ ?_
                            rotate_left
                            · intro w'
                              go_simp
                              with_reducible rfl
                            rotate_left
                            · simp only [Act.put, List.setIfInBounds_toArray, List.set_cons_zero, List.set_cons_succ, i64_w, i32_w]
                              rfl
                            refine pure_ (i := 16) (N := some 6) (v := ?_) (a' := ?_) #[true, true, true, true, true, true, true, true, true, true, true, true, true, true, true, true, true] rfl rfl (any_of HT_.out (by kernel_rfl)) (fun _ _ _ h => h) (Or.inl ⟨by rfl, ?_⟩) ?_ ?_
                            rotate_left
                            · intro w'
                              go_simp
                              with_reducible rfl
                            rotate_left
                            · simp only [Act.put, List.setIfInBounds_toArray, List.set_cons_zero, List.set_cons_succ, i64_w, i32_w]
                              rfl
                            refine done_ (done_of HT_.out (by kernel_rfl)) ?_
                            try go_wp2
                            go_ret
                            exact ⟨by first | rfl | (simp [errW_none, errW_some] <;> rfl) | (simp [*, errW_none, errW_some] <;> rfl), by repeat (first | (with_reducible first | exact HB.out | apply below_alloc | apply pw_below_drewN | apply below_drew1 | refine below_set ?_ GE425.out | refine below_set ?_ GE426.out | refine below_set ?_ GE427.out | refine below_set ?_ GE438.out | refine below_set ?_ GE451.out | refine below_set ?_ GE460.out | refine below_set ?_ GE468.out) | exact HB.out)⟩
                          · rw [if_neg c129] at H
                            have c129b0 : (t467 == 0) = false := beq_eq_false_iff_ne.mpr c129
                            have c129b1 : (t467 != 0) = true := bne_iff_ne.mpr c129
                            exact absurd H (by simp)
                        · rw [if_neg c128] at H
                          have c128b0 : (t459 == 0) = false := beq_eq_false_iff_ne.mpr c128
                          have c128b1 : (t459 != 0) = true := bne_iff_ne.mpr c128
                          exact absurd H (by simp)
                      · replace c127 := Bool.eq_false_iff.mpr c127
                        subst c127
                        have H1 : (none) = some r := by rw [if_neg (show ¬ (false = true) by decide)] at H; exact H
                        clear H
                        have H := H1
                        clear H1
                        exact absurd H (by simp)
        · rw [if_neg c44] at H
          have c44b0 : (t437 == 0) = false := beq_eq_false_iff_ne.mpr c44
          have c44b1 : (t437 != 0) = true := bne_iff_ne.mpr c44
          by_cases c178 : t428 = true
          · subst c178
            have H1 : (if t437 = 1 then ((assartref02_Same.f kj4 t431 t434 l0_0 l0_1).bind fun t439 => (some t439)) else (none)) = some r := by rw [if_pos rfl] at H; exact H
            clear H
            have H := H1
            clear H1
            by_cases c179 : t437 = 1
            · rw [if_pos c179] at H
              have c179b0 : (t437 == 1) = true := beq_iff_eq.mpr c179
              have c179b1 : (t437 != 1) = false := bne_eq_false_iff_eq.mpr c179
              clear c179
              replace H := Option.bind_eq_some_iff.mp H
              obtain ⟨t439, A1800, H⟩ := H
              replace H : (some t439) = some r := H
              have A180 := Aside0.mk A1800
              clear A1800
              obtain rfl := Option.some.inj H
              have hnb181 := NB425_426.out
              have hnc181 := NB426_425.out
              have hnb182 := NB425_427.out
              have hnc182 := NB427_425.out
              have hcz183_0 : wc.cell? ⟨gb425, 0, none⟩ = some (.slice A0_0 l0_0.length c0_0) := (blk_cell BK425.out 0).trans rfl
              have hcz183_1 : wc.cell? ⟨gb425, 1, none⟩ = some (.slice A0_1 l0_1.length c0_1) := (blk_cell BK425.out 1).trans rfl
              have hfz183_0 := blk_frozen BK425.out 0
              have hfz183_1 := blk_frozen BK425.out 1
              have hnb184 := NB426_427.out
              have hnc184 := NB427_426.out
              have hcz185_0 : wc.cell? ⟨gb426, 0, none⟩ = some (.int .i64 a1_0) := (blk_cell BK426.out 0).trans rfl
              have hcz185_1 : wc.cell? ⟨gb426, 1, none⟩ = some (.string a1_1) := (blk_cell BK426.out 1).trans rfl
              have hfz185_0 := blk_frozen BK426.out 0
              have hfz185_1 := blk_frozen BK426.out 1
              go_wp2_with (first | ((with_reducible refine gate_callee (f := 44) rfl ?_); refine goesL_ (some 49) rfl rfl Try.func44 (by kernel_rfl) rfl #[.agg #[.slice A0_0 l0_0.length c0_0, .slice A0_1 l0_1.length c0_1], .int .i64 a1_0, .string a1_1] rfl (by (try simp only [List.map_toArray, List.map_cons, List.map_nil]); first | done | rfl | (simp only [List.length_drop, List.length_take]; rfl)) ?_; (with_reducible refine (disk_Put.calls (fun k_ => k_ < w.heap.size) _ _ l0_0 (fun k_ => k_ < w.heap.size) _ _ l0_1 a1_0 a1_1 t431 t434 t437 _ ?side1 ?side2 A43.out).mono ?_); (case side1 => exact Kd.V_mk HC0_0.out (Kd.F_below (Kd.C_F Kd.heap_string HR0_0.out) (by repeat (first | (with_reducible first | exact HB.out | apply below_alloc | apply pw_below_drewN | apply below_drew1 | refine below_set ?_ GE425.out | refine below_set ?_ GE426.out | refine below_set ?_ GE427.out) | exact HB.out)))); (case side2 => exact Kd.V_mk HC0_1.out (Kd.F_below (Kd.C_F k79_heap HR0_1.out) (by repeat (first | (with_reducible first | exact HB.out | apply below_alloc | apply pw_below_drewN | apply below_drew1 | refine below_set ?_ GE425.out | refine below_set ?_ GE426.out | refine below_set ?_ GE427.out) | exact HB.out)))); rintro e w186 ⟨v432, v435, rfl, ho0, ho1, hb⟩; refine ⟨_, rfl, ?_⟩; have n0_ := Aside0.mk (Kd.V_lower (Kd.V_mono (ok' := fun k_ => k_ ≠ gb425 ∧ k_ ≠ gb426 ∧ k_ ≠ gb427) ho0 (fun k_ hk_ => ⟨Or.elim hk_ (fun hs_ => Or.elim hs_ (fun hs_ => fun e_ => Nat.not_le.2 hs_ (by rw [e_]; exact GW425.out)) (fun hs_ => fun e_ => Nat.not_le.2 hs_ (by rw [e_]; exact GW425.out))) (fun hn_ => (Kd.freshB (g := gb425) (o := .cells #[.slice A0_0 l0_0.length c0_0, .slice A0_1 l0_1.length c0_1] 63 (0, 0)) (by (with_reducible repeat (first | refine blk_drewN ?_ _ | refine blk_drew ?_ | refine blk_alloc ?_ _)); exact BK425.out) k_ hn_)), Or.elim hk_ (fun hs_ => Or.elim hs_ (fun hs_ => fun e_ => Nat.not_le.2 hs_ (by rw [e_]; exact GW426.out)) (fun hs_ => fun e_ => Nat.not_le.2 hs_ (by rw [e_]; exact GW426.out))) (fun hn_ => (Kd.freshB (g := gb426) (o := .cells #[.int .i64 a1_0, .string a1_1] 79 (0, 0)) (by (with_reducible repeat (first | refine blk_drewN ?_ _ | refine blk_drew ?_ | refine blk_alloc ?_ _)); exact BK426.out) k_ hn_)), Or.elim hk_ (fun hs_ => Or.elim hs_ (fun hs_ => fun e_ => Nat.not_le.2 hs_ (by rw [e_]; exact GW427.out)) (fun hs_ => fun e_ => Nat.not_le.2 hs_ (by rw [e_]; exact GW427.out))) (fun hn_ => (Kd.freshB (g := gb427) (o := .cells #[.int .i64 a2_0, .string a2_1] 79 (0, 0)) (by (with_reducible repeat (first | refine blk_drewN ?_ _ | refine blk_drew ?_ | refine blk_alloc ?_ _)); exact BK427.out) k_ hn_))⟩)) (below_size (by repeat (first | (with_reducible first | exact HB.out | apply below_alloc | apply pw_below_drewN | apply below_drew1 | refine below_set ?_ GE425.out | refine below_set ?_ GE426.out | refine below_set ?_ GE427.out) | exact HB.out)))); have n1_ := Aside0.mk (Kd.V_lower (Kd.V_mono (ok' := fun k_ => k_ ≠ gb425 ∧ k_ ≠ gb426 ∧ k_ ≠ gb427) ho1 (fun k_ hk_ => ⟨Or.elim hk_ (fun hs_ => Or.elim hs_ (fun hs_ => fun e_ => Nat.not_le.2 hs_ (by rw [e_]; exact GW425.out)) (fun hs_ => fun e_ => Nat.not_le.2 hs_ (by rw [e_]; exact GW425.out))) (fun hn_ => (Kd.freshB (g := gb425) (o := .cells #[.slice A0_0 l0_0.length c0_0, .slice A0_1 l0_1.length c0_1] 63 (0, 0)) (by (with_reducible repeat (first | refine blk_drewN ?_ _ | refine blk_drew ?_ | refine blk_alloc ?_ _)); exact BK425.out) k_ hn_)), Or.elim hk_ (fun hs_ => Or.elim hs_ (fun hs_ => fun e_ => Nat.not_le.2 hs_ (by rw [e_]; exact GW426.out)) (fun hs_ => fun e_ => Nat.not_le.2 hs_ (by rw [e_]; exact GW426.out))) (fun hn_ => (Kd.freshB (g := gb426) (o := .cells #[.int .i64 a1_0, .string a1_1] 79 (0, 0)) (by (with_reducible repeat (first | refine blk_drewN ?_ _ | refine blk_drew ?_ | refine blk_alloc ?_ _)); exact BK426.out) k_ hn_)), Or.elim hk_ (fun hs_ => Or.elim hs_ (fun hs_ => fun e_ => Nat.not_le.2 hs_ (by rw [e_]; exact GW427.out)) (fun hs_ => fun e_ => Nat.not_le.2 hs_ (by rw [e_]; exact GW427.out))) (fun hn_ => (Kd.freshB (g := gb427) (o := .cells #[.int .i64 a2_0, .string a2_1] 79 (0, 0)) (by (with_reducible repeat (first | refine blk_drewN ?_ _ | refine blk_drew ?_ | refine blk_alloc ?_ _)); exact BK427.out) k_ hn_))⟩)) (below_size (by repeat (first | (with_reducible first | exact HB.out | apply below_alloc | apply pw_below_drewN | apply below_drew1 | refine below_set ?_ GE425.out | refine below_set ?_ GE426.out | refine below_set ?_ GE427.out) | exact HB.out)))); have n2_ := Aside0.mk (blk_below (g := gb425) (o := .cells #[.slice A0_0 l0_0.length c0_0, .slice A0_1 l0_1.length c0_1] 63 (0, 0)) (by (with_reducible repeat (first | refine blk_drewN ?_ _ | refine blk_drew ?_ | refine blk_alloc ?_ _)); exact BK425.out) hb); have n3_ := Aside0.mk (blk_below (g := gb426) (o := .cells #[.int .i64 a1_0, .string a1_1] 79 (0, 0)) (by (with_reducible repeat (first | refine blk_drewN ?_ _ | refine blk_drew ?_ | refine blk_alloc ?_ _)); exact BK426.out) hb); have n4_ := Aside0.mk (blk_below (g := gb427) (o := .cells #[.int .i64 a2_0, .string a2_1] 79 (0, 0)) (by (with_reducible repeat (first | refine blk_drewN ?_ _ | refine blk_drew ?_ | refine blk_alloc ?_ _)); exact BK427.out) hb); have n5_ := Aside0.mk (below_step (by repeat (first | (with_reducible first | exact HB.out | apply below_alloc | apply pw_below_drewN | apply below_drew1 | refine below_set ?_ GE425.out | refine below_set ?_ GE426.out | refine below_set ?_ GE427.out) | exact HB.out)) hb); clear BK425; clear BK426; clear BK427; clear HB; have HO433 := n0_; have HO436 := n1_; have BK425 := n2_; have BK426 := n3_; have BK427 := n4_; have HB := n5_; clear n0_ n1_ n2_ n3_ n4_ n5_; (try clear hb); (try clear hb2); (try clear hk); (try clear hi); (try clear ho0); (try clear ho1)) | ((with_reducible refine gate_dst (N := 8) rfl ?_); (try (refine gate_guard (by rfl) ?_; dsimp only)); refine box_event ?hg (N := 8) ?hd (cs := #[.slice none 0 0, .slice none 0 0]) (t := 63) ?hr ?_; (case hd => rfl); (case hg => rfl); (case hr => first | (go_simp; done) | (go_simp; rfl)); intro gb438 hg w187 hbox hb; have n0_ := Aside0.mk (Kd.V_below (Kd.V_elderB (by (with_reducible repeat (first | apply Kd.V_alloc | apply Kd.V_drewN | apply Kd.V_drew)); exact HO433.out) gb438 (Nat.le_of_eq hg.symm)) hb); have n1_ := Aside0.mk (Kd.V_below (Kd.V_elderB (by (with_reducible repeat (first | apply Kd.V_alloc | apply Kd.V_drewN | apply Kd.V_drew)); exact HO436.out) gb438 (Nat.le_of_eq hg.symm)) hb); have n2_ := Aside0.mk (blk_below (g := gb425) (o := .cells #[.slice A0_0 l0_0.length c0_0, .slice A0_1 l0_1.length c0_1] 63 (0, 0)) (by (with_reducible repeat (first | refine blk_drewN ?_ _ | refine blk_drew ?_ | refine blk_alloc ?_ _)); exact BK425.out) hb); have n3_ := Aside0.mk (blk_below (g := gb426) (o := .cells #[.int .i64 a1_0, .string a1_1] 79 (0, 0)) (by (with_reducible repeat (first | refine blk_drewN ?_ _ | refine blk_drew ?_ | refine blk_alloc ?_ _)); exact BK426.out) hb); have n4_ := Aside0.mk (blk_below (g := gb427) (o := .cells #[.int .i64 a2_0, .string a2_1] 79 (0, 0)) (by (with_reducible repeat (first | refine blk_drewN ?_ _ | refine blk_drew ?_ | refine blk_alloc ?_ _)); exact BK427.out) hb); have n5_ := Aside0.mk (below_step (by repeat (first | (with_reducible first | exact HB.out | apply below_alloc | apply pw_below_drewN | apply below_drew1 | refine below_set ?_ GE425.out | refine below_set ?_ GE426.out | refine below_set ?_ GE427.out) | exact HB.out)) hb); have n6_ := Aside0.mk (hbox); have n7_ := Aside0.mk ((by rw [hg]; exact (below_size (by repeat (first | (with_reducible first | exact HB.out | apply below_alloc | apply pw_below_drewN | apply below_drew1 | refine below_set ?_ GE425.out | refine below_set ?_ GE426.out | refine below_set ?_ GE427.out) | exact HB.out))) : w.heap.size ≤ gb438)); have n8_ := Aside0.mk ((by rw [hg]; exact (below_size (by repeat (first | (with_reducible first | exact HB.out | apply below_alloc | apply pw_below_drewN | apply below_drew1 | refine below_set ?_ GE425.out | refine below_set ?_ GE426.out | refine below_set ?_ GE427.out) | exact HB.out))) : w.heap.size ≤ gb438)); have n9_ := Aside0.mk ((by rw [hg]; exact Nat.ne_of_lt (blk_lt (g := gb425) (o := .cells #[.slice A0_0 l0_0.length c0_0, .slice A0_1 l0_1.length c0_1] 63 (0, 0)) (by (with_reducible repeat (first | refine blk_drewN ?_ _ | refine blk_drew ?_ | refine blk_alloc ?_ _)); exact BK425.out)) : gb425 ≠ gb438)); have n10_ := Aside0.mk ((by rw [hg]; exact Nat.ne_of_gt (blk_lt (g := gb425) (o := .cells #[.slice A0_0 l0_0.length c0_0, .slice A0_1 l0_1.length c0_1] 63 (0, 0)) (by (with_reducible repeat (first | refine blk_drewN ?_ _ | refine blk_drew ?_ | refine blk_alloc ?_ _)); exact BK425.out)) : gb438 ≠ gb425)); have n11_ := Aside0.mk ((by rw [hg]; exact Nat.ne_of_lt (blk_lt (g := gb426) (o := .cells #[.int .i64 a1_0, .string a1_1] 79 (0, 0)) (by (with_reducible repeat (first | refine blk_drewN ?_ _ | refine blk_drew ?_ | refine blk_alloc ?_ _)); exact BK426.out)) : gb426 ≠ gb438)); have n12_ := Aside0.mk ((by rw [hg]; exact Nat.ne_of_gt (blk_lt (g := gb426) (o := .cells #[.int .i64 a1_0, .string a1_1] 79 (0, 0)) (by (with_reducible repeat (first | refine blk_drewN ?_ _ | refine blk_drew ?_ | refine blk_alloc ?_ _)); exact BK426.out)) : gb438 ≠ gb426)); have n13_ := Aside0.mk ((by rw [hg]; exact Nat.ne_of_lt (blk_lt (g := gb427) (o := .cells #[.int .i64 a2_0, .string a2_1] 79 (0, 0)) (by (with_reducible repeat (first | refine blk_drewN ?_ _ | refine blk_drew ?_ | refine blk_alloc ?_ _)); exact BK427.out)) : gb427 ≠ gb438)); have n14_ := Aside0.mk ((by rw [hg]; exact Nat.ne_of_gt (blk_lt (g := gb427) (o := .cells #[.int .i64 a2_0, .string a2_1] 79 (0, 0)) (by (with_reducible repeat (first | refine blk_drewN ?_ _ | refine blk_drew ?_ | refine blk_alloc ?_ _)); exact BK427.out)) : gb438 ≠ gb427)); clear HO433; clear HO436; clear BK425; clear BK426; clear BK427; clear HB; have HO433 := n0_; have HO436 := n1_; have BK425 := n2_; have BK426 := n3_; have BK427 := n4_; have HB := n5_; have BK438 := n6_; have GW438 := n7_; have GE438 := n8_; have NB425_438 := n9_; have NB438_425 := n10_; have NB426_438 := n11_; have NB438_426 := n12_; have NB427_438 := n13_; have NB438_427 := n14_; clear n0_ n1_ n2_ n3_ n4_ n5_ n6_ n7_ n8_ n9_ n10_ n11_ n12_ n13_ n14_; clear hb hbox hg; obtain ⟨Ao188, co188, eo188⟩ := Kd.V_slice HO433.out; subst eo188; have hnb189 := NB438_425.out; have hnc189 := NB425_438.out; have hnb190 := NB438_426.out; have hnc190 := NB426_438.out; have hnb191 := NB438_427.out; have hnc191 := NB427_438.out; have hcz192_0 : w187.cell? ⟨gb438, 0, none⟩ = some (.slice none 0 0) := (blk_cell BK438.out 0).trans rfl; have hcz192_1 : w187.cell? ⟨gb438, 1, none⟩ = some (.slice none 0 0) := (blk_cell BK438.out 1).trans rfl; have hfz192_0 := blk_frozen BK438.out 0; have hfz192_1 := blk_frozen BK438.out 1; obtain ⟨Ao193, co193, eo193⟩ := Kd.V_slice HO436.out; subst eo193; have hcz194_0 : w187.cell? ⟨gb425, 0, none⟩ = some (.slice A0_0 l0_0.length c0_0) := (blk_cell BK425.out 0).trans rfl; have hcz194_1 : w187.cell? ⟨gb425, 1, none⟩ = some (.slice A0_1 l0_1.length c0_1) := (blk_cell BK425.out 1).trans rfl; have hfz194_0 := blk_frozen BK425.out 0; have hfz194_1 := blk_frozen BK425.out 1) | (go_at_call 38; (with_reducible refine (assartref02_Same.calls kj4 _ _ t431 _ _ t434 _ _ l0_0 _ _ l0_1 t439 _ ?side1 ?side2 ?side3 ?side4 ?side5 ?side6 ?side7 ?side8 A180.out).mono ?_); (case side1 => refine (Kd.V_reads' (e := 9) (base := w.heap.size) (ok := fun k_ => ((k_ ≠ gb425 ∧ (k_ ≠ gb426 ∧ k_ ≠ gb427)) ∧ k_ ≠ gb438)) (n := t431.length) (c := co188) ?_).2.2; exact (by (with_reducible repeat (first | apply Kd.V_alloc | apply Kd.V_drewN | apply Kd.V_drew)); exact (Kd.V_mono (Kd.V_far (p := ⟨gb438, 1, none⟩) (Kd.V_far (p := ⟨gb438, 0, none⟩) (Kd.V_mono HO433.out (fun k_ hk => (⟨hk, hk.2⟩ : _ ∧ k_ ≠ gb438))) (fun _ hk => hk.2) (.slice Ao188 t431.length co188)) (fun _ hk => hk.2) (.slice Ao193 t434.length co193)) (fun _ h_ => h_.1)))); (case side2 => exact (Kd.V_reads' HO433.out).2.1); (case side3 => refine (Kd.V_reads' (e := 79) (base := w.heap.size) (ok := fun k_ => ((k_ ≠ gb425 ∧ (k_ ≠ gb426 ∧ k_ ≠ gb427)) ∧ k_ ≠ gb438)) (n := t434.length) (c := co193) ?_).2.2; exact (by (with_reducible repeat (first | apply Kd.V_alloc | apply Kd.V_drewN | apply Kd.V_drew)); exact (Kd.V_mono (Kd.V_far (p := ⟨gb438, 1, none⟩) (Kd.V_far (p := ⟨gb438, 0, none⟩) (Kd.V_mono HO436.out (fun k_ hk => (⟨hk, hk.2⟩ : _ ∧ k_ ≠ gb438))) (fun _ hk => hk.2) (.slice Ao188 t431.length co188)) (fun _ hk => hk.2) (.slice Ao193 t434.length co193)) (fun _ h_ => h_.1)))); (case side4 => exact (Kd.V_reads' HO436.out).2.1); (case side5 => exact Kd.C_below HR0_0.out (by repeat (first | (with_reducible first | exact HB.out | apply below_alloc | apply pw_below_drewN | apply below_drew1 | refine below_set ?_ GE425.out | refine below_set ?_ GE426.out | refine below_set ?_ GE427.out | refine below_set ?_ GE438.out) | exact HB.out))); (case side6 => exact HC0_0.out); (case side7 => exact Kd.C_below HR0_1.out (by repeat (first | (with_reducible first | exact HB.out | apply below_alloc | apply pw_below_drewN | apply below_drew1 | refine below_set ?_ GE425.out | refine below_set ?_ GE426.out | refine below_set ?_ GE427.out | refine below_set ?_ GE438.out) | exact HB.out))); (case side8 => exact HC0_1.out); rintro e w195 ⟨rfl, hb⟩; have n0_ := Aside0.mk (Kd.V_below (by (with_reducible repeat (first | apply Kd.V_alloc | apply Kd.V_drewN | apply Kd.V_drew)); exact (Kd.V_mono (Kd.V_far (p := ⟨gb438, 1, none⟩) (Kd.V_far (p := ⟨gb438, 0, none⟩) (Kd.V_mono HO433.out (fun k_ hk => (⟨hk, hk.2⟩ : _ ∧ k_ ≠ gb438))) (fun _ hk => hk.2) (.slice Ao188 t431.length co188)) (fun _ hk => hk.2) (.slice Ao193 t434.length co193)) (fun _ h_ => h_.1))) hb); have n1_ := Aside0.mk (Kd.V_below (by (with_reducible repeat (first | apply Kd.V_alloc | apply Kd.V_drewN | apply Kd.V_drew)); exact (Kd.V_mono (Kd.V_far (p := ⟨gb438, 1, none⟩) (Kd.V_far (p := ⟨gb438, 0, none⟩) (Kd.V_mono HO436.out (fun k_ hk => (⟨hk, hk.2⟩ : _ ∧ k_ ≠ gb438))) (fun _ hk => hk.2) (.slice Ao188 t431.length co188)) (fun _ hk => hk.2) (.slice Ao193 t434.length co193)) (fun _ h_ => h_.1))) hb); have n2_ := Aside0.mk (blk_below (g := gb425) (o := .cells #[.slice A0_0 l0_0.length c0_0, .slice A0_1 l0_1.length c0_1] 63 (0, 0)) (by (with_reducible repeat (first | refine blk_drewN ?_ _ | refine blk_drew ?_ | refine blk_alloc ?_ _)); refine blk_far ?_ NB425_438.out _; (with_reducible repeat (first | refine blk_drewN ?_ _ | refine blk_drew ?_ | refine blk_alloc ?_ _)); refine blk_far ?_ NB425_438.out _; (with_reducible repeat (first | refine blk_drewN ?_ _ | refine blk_drew ?_ | refine blk_alloc ?_ _)); exact BK425.out) hb); have n3_ := Aside0.mk (blk_below (g := gb426) (o := .cells #[.int .i64 a1_0, .string a1_1] 79 (0, 0)) (by (with_reducible repeat (first | refine blk_drewN ?_ _ | refine blk_drew ?_ | refine blk_alloc ?_ _)); refine blk_far ?_ NB426_438.out _; (with_reducible repeat (first | refine blk_drewN ?_ _ | refine blk_drew ?_ | refine blk_alloc ?_ _)); refine blk_far ?_ NB426_438.out _; (with_reducible repeat (first | refine blk_drewN ?_ _ | refine blk_drew ?_ | refine blk_alloc ?_ _)); exact BK426.out) hb); have n4_ := Aside0.mk (blk_below (g := gb427) (o := .cells #[.int .i64 a2_0, .string a2_1] 79 (0, 0)) (by (with_reducible repeat (first | refine blk_drewN ?_ _ | refine blk_drew ?_ | refine blk_alloc ?_ _)); refine blk_far ?_ NB427_438.out _; (with_reducible repeat (first | refine blk_drewN ?_ _ | refine blk_drew ?_ | refine blk_alloc ?_ _)); refine blk_far ?_ NB427_438.out _; (with_reducible repeat (first | refine blk_drewN ?_ _ | refine blk_drew ?_ | refine blk_alloc ?_ _)); exact BK427.out) hb); have n5_ := Aside0.mk (blk_below (g := gb438) (o := .cells #[.slice Ao188 t431.length co188, .slice Ao193 t434.length co193] 63 (0, 0)) (by (with_reducible repeat (first | refine blk_drewN ?_ _ | refine blk_drew ?_ | refine blk_alloc ?_ _)); refine blk_put (cs := #[.slice Ao188 t431.length co188, .slice none 0 0]) ?_ 1 _ rfl; (with_reducible repeat (first | refine blk_drewN ?_ _ | refine blk_drew ?_ | refine blk_alloc ?_ _)); refine blk_put (cs := #[.slice none 0 0, .slice none 0 0]) ?_ 0 _ rfl; (with_reducible repeat (first | refine blk_drewN ?_ _ | refine blk_drew ?_ | refine blk_alloc ?_ _)); exact BK438.out) hb); have n6_ := Aside0.mk (below_step (by repeat (first | (with_reducible first | exact HB.out | apply below_alloc | apply pw_below_drewN | apply below_drew1 | refine below_set ?_ GE425.out | refine below_set ?_ GE426.out | refine below_set ?_ GE427.out | refine below_set ?_ GE438.out) | exact HB.out)) hb); clear HO433; clear HO436; clear BK425; clear BK426; clear BK427; clear BK438; clear HB; have HO433 := n0_; have HO436 := n1_; have BK425 := n2_; have BK426 := n3_; have BK427 := n4_; have BK438 := n5_; have HB := n6_; clear n0_ n1_ n2_ n3_ n4_ n5_ n6_; (try clear hb); (try clear hb2); (try clear hk); (try clear hi)))
              go_ret
              exact ⟨by first | rfl | (simp [errW_none, errW_some] <;> rfl) | (simp [*, errW_none, errW_some] <;> rfl), by repeat (first | (with_reducible first | exact HB.out | apply below_alloc | apply pw_below_drewN | apply below_drew1 | refine below_set ?_ GE425.out | refine below_set ?_ GE426.out | refine below_set ?_ GE427.out | refine below_set ?_ GE438.out) | exact HB.out)⟩
            · rw [if_neg c179] at H
              exact absurd H (by simp)
          · replace c178 := Bool.eq_false_iff.mpr c178
            subst c178
            have H1 : (none) = some r := by rw [if_neg (show ¬ (false = true) by decide)] at H; exact H
            clear H
            have H := H1
            clear H1
            exact absurd H (by simp)
end Go.Proofs.Ytgjjcgemelafaaa.P
