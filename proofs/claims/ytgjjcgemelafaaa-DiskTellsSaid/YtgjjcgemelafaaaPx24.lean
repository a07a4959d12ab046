-- By wip/tools/drive.py: the kit's print, with contracts of this session's own among the functions.
import Derived.Test.YtgjjcgemelafaaaPx0
import Derived.Test.YtgjjcgemelafaaaPx7
import Derived.Test.YtgjjcgemelafaaaPx8
import Derived.Test.YtgjjcgemelafaaaPx10
import Derived.Test.YtgjjcgemelafaaaPx11
import Derived.Test.YtgjjcgemelafaaaPx20
import Derived.Test.YtgjjcgemelafaaaPx21
import Derived.Test.YtgjjcgemelafaaaPx22
import Derived.Test.YtgjjcgemelafaaaPx23
namespace Go.Proofs.Ytgjjcgemelafaaa.P
open Go.RowKit Go.Proofs.YtgjjcgemelafaaaW.PrintWords Go.Proofs.YtgjjcgemelafaaaW.PrintLast Go.Proofs.YtgjjcgemelafaaaW.PrintMore
attribute [local go_sem] max2_int min2_int max_two min_two max_three min_three max_four min_four   -- for this text's walks alone
set_option linter.unusedVariables false
set_option linter.unusedSimpArgs false
mutual
def assartlaw02_DiskTells.j0 : Nat → Int → Int → Bool → Bool → List ByteArray → List (S79) → List ByteArray → List (S79) → Option (Bool)
  | 0, _, _, _, _, _, _, _, _ => none
  | k + 1, x5, x6, x7, x34, x215000, x215001, x216000, x216001 => if x34 = true then (some x7) else ((disk_New.f k x5).bind fun bt219 => ((assartref02_New.f k x5).bind fun bt227 => ((assartref02_Right.f k x215000 x215001).bind fun t235 => ((assartref02_Same.f k bt219.1 bt219.2.1 bt227.1 bt227.2.1).bind fun t236 => (if t236 = true then (if bt219.2.2 = bt227.2.2 then ((disk_Right.f x215000 x215001).bind fun t237 => (assartlaw02_DiskTells.j1 k x6 x7 t235 (t237 != t235) x215000 x215001 x216000 x216001)) else (assartlaw02_DiskTells.j1 k x6 x7 t235 true x215000 x215001 x216000 x216001)) else (assartlaw02_DiskTells.j1 k x6 x7 t235 true x215000 x215001 x216000 x216001))))))
def assartlaw02_DiskTells.j1 : Nat → Int → Bool → Bool → Bool → List ByteArray → List (S79) → List ByteArray → List (S79) → Option (Bool)
  | 0, _, _, _, _, _, _, _, _ => none
  | k + 1, x6, x7, x12, x62, x215000, x215001, x216000, x216001 => if x62 = true then (none) else (if x12 = true then ((disk_Read.f x215000 x215001 x6).bind fun bt238 => ((assartref02_Read.f k x215000 x215001 x6).bind fun bt240 => ((assartref02_Right.f k x216000 x216001).bind fun t242 => (if t242 = true then ((disk_Same.f k x215000 x215001 x216000 x216001).bind fun t243 => ((assartref02_Same.f k x215000 x215001 x216000 x216001).bind fun t244 => (if x7 = true then (if bt238.1.toList = bt240.1.toList then (if bt238.2 = bt240.2 then (some (t243 == t244)) else (none)) else (none)) else (none)))) else (if x7 = true then (if bt238.1.toList = bt240.1.toList then (if bt238.2 = bt240.2 then (some true) else (none)) else (none)) else (none)))))) else (some x7))
end
def assartlaw02_DiskTells.f (k : Nat) (l0_0 : List ByteArray) (l0_1 : List (S79)) (l0_2 : List ByteArray) (l0_3 : List (S79)) (a0_4 : Int) (a0_5 : Int) : Option (Bool) := (assartlaw02_shown.f k).bind fun t216 => ((assartref02_Small.f k l0_0 l0_1 60).bind fun t217 => (if t217 = true then ((assartref02_Small.f k l0_2 l0_3 60).bind fun t218 => (assartlaw02_DiskTells.j0 k a0_4 a0_5 t216 (!t218) l0_0 l0_1 l0_2 l0_3)) else (assartlaw02_DiskTells.j0 k a0_4 a0_5 t216 true l0_0 l0_1 l0_2 l0_3)))
def assartlaw02_DiskTells.T17 : Bool × List (List Nat × List Nat) := (true, [([], []), ([0], [0]), ([1], [1]), ([2, 1], [2]), ([3], [3]), ([3], [3]), ([4, 5, 3, 3], [3, 4, 5]), ([3], [3]), ([3], [3]), ([7, 8, 6, 3], [3, 7, 8]), ([6, 9, 3], [3, 6, 9]), ([3, 10], [3, 10]), ([11, 9, 0, 1, 2, 3, 4, 5, 6, 7, 8, 9, 10, 11], [11])])
def assartlaw02_DiskTells.B17 : List Nat := [0, 1, 3, 7, 15, 15, 63, 15, 15, 511, 1023, 2047, 4095]
theorem assartlaw02_DiskTells.tab17 : rtab .any (opsOf Try.f7 17) = assartlaw02_DiskTells.T17 := by kernel_rfl
theorem assartlaw02_DiskTells.bits17 : waitsOk assartlaw02_DiskTells.T17.2 assartlaw02_DiskTells.B17 = true := by kernel_rfl
set_option maxHeartbeats 8000000 in
set_option maxRecDepth 100000 in
theorem assartlaw02_DiskTells.calls (k : Nat) (A0_0 : Option Addr) (c0_0 : Nat) (l0_0 : List ByteArray) (A0_1 : Option Addr) (c0_1 : Nat) (l0_1 : List (S79)) (A0_2 : Option Addr) (c0_2 : Nat) (l0_2 : List ByteArray) (A0_3 : Option Addr) (c0_3 : Nat) (l0_3 : List (S79)) (a0_4 : Int) (a0_5 : Int) (r : Bool) (w : World) (hr0_0 : Kd.C Kd.string w A0_0 l0_0.length l0_0) (hc0_0 : l0_0.length ≤ c0_0) (hr0_1 : Kd.C k79 w A0_1 l0_1.length l0_1) (hc0_1 : l0_1.length ≤ c0_1) (hr0_2 : Kd.C Kd.string w A0_2 l0_2.length l0_2) (hc0_2 : l0_2.length ≤ c0_2) (hr0_3 : Kd.C k79 w A0_3 l0_3.length l0_3) (hc0_3 : l0_3.length ≤ c0_3) (h : assartlaw02_DiskTells.f k l0_0 l0_1 l0_2 l0_3 a0_4 a0_5 = some r) :
    Calls Try.prog 7 #[.agg #[.slice A0_0 l0_0.length c0_0, .slice A0_1 l0_1.length c0_1, .slice A0_2 l0_2.length c0_2, .slice A0_3 l0_3.length c0_3, .int .i64 a0_4, .int .i64 a0_5]] w fun e w' => e = .returned (.bool r) ∧ Below w.heap.size w w' := by
  have hu65 := Try.underlying65
  have hu63 := Try.underlying63
  have HR0_0 := Aside0.mk hr0_0
  have HC0_0 := Aside0.mk hc0_0
  clear hr0_0 hc0_0
  have HR0_1 := Aside0.mk hr0_1
  have HC0_1 := Aside0.mk hc0_1
  clear hr0_1 hc0_1
  have HR0_2 := Aside0.mk hr0_2
  have HC0_2 := Aside0.mk hc0_2
  clear hr0_2 hc0_2
  have HR0_3 := Aside0.mk hr0_3
  have HC0_3 := Aside0.mk hc0_3
  clear hr0_3 hc0_3
  have HB := Aside0.mk (Below.refl w.heap.size w)
  have H : ((assartlaw02_shown.f k).bind fun t216 => ((assartref02_Small.f k l0_0 l0_1 60).bind fun t217 => (if t217 = true then ((assartref02_Small.f k l0_2 l0_3 60).bind fun t218 => (assartlaw02_DiskTells.j0 k a0_4 a0_5 t216 (!t218) l0_0 l0_1 l0_2 l0_3)) else (assartlaw02_DiskTells.j0 k a0_4 a0_5 t216 true l0_0 l0_1 l0_2 l0_3)))) = some r := h
  clear h
  replace H := Option.bind_eq_some_iff.mp H
  obtain ⟨t216, A20, H⟩ := H
  replace H : ((assartref02_Small.f k l0_0 l0_1 60).bind fun t217 => (if t217 = true then ((assartref02_Small.f k l0_2 l0_3 60).bind fun t218 => (assartlaw02_DiskTells.j0 k a0_4 a0_5 t216 (!t218) l0_0 l0_1 l0_2 l0_3)) else (assartlaw02_DiskTells.j0 k a0_4 a0_5 t216 true l0_0 l0_1 l0_2 l0_3))) = some r := H
  have A2 := Aside0.mk A20
  clear A20
  have HC3 := Aside0.mk H
  clear H
  go_enter Try.func7, Try.ntmps7
  go_upto_region 6 with (first | ((with_reducible refine gate_dst (N := 1) rfl ?_); refine box_event ?hg (N := 1) ?hd (cs := #[.slice A0_0 l0_0.length c0_0, .slice A0_1 l0_1.length c0_1, .slice A0_2 l0_2.length c0_2, .slice A0_3 l0_3.length c0_3, .int .i64 a0_4, .int .i64 a0_5]) (t := 65) ?hr ?_; (case hd => rfl); (case hg => rfl); (case hr => first | (go_simp; done) | (go_simp; rfl)); intro gb213 hg w4 hbox hb; have n0_ := Aside0.mk (below_step (by repeat (first | (with_reducible first | exact HB.out | apply below_alloc | apply pw_below_drewN | apply below_drew1) | exact HB.out)) hb); have n1_ := Aside0.mk (hbox); have n2_ := Aside0.mk ((by rw [hg]; exact (below_size (by repeat (first | (with_reducible first | exact HB.out | apply below_alloc | apply pw_below_drewN | apply below_drew1) | exact HB.out))) : w.heap.size ≤ gb213)); have n3_ := Aside0.mk ((by rw [hg]; exact (below_size (by repeat (first | (with_reducible first | exact HB.out | apply below_alloc | apply pw_below_drewN | apply below_drew1) | exact HB.out))) : w.heap.size ≤ gb213)); clear HB; have HB := n0_; have BK213 := n1_; have GW213 := n2_; have GE213 := n3_; clear n0_ n1_ n2_ n3_; clear hb hbox hg; have hcz5_0 : w4.cell? ⟨gb213, 0, none⟩ = some (.slice A0_0 l0_0.length c0_0) := (blk_cell BK213.out 0).trans rfl; have hcz5_1 : w4.cell? ⟨gb213, 1, none⟩ = some (.slice A0_1 l0_1.length c0_1) := (blk_cell BK213.out 1).trans rfl; have hcz5_2 : w4.cell? ⟨gb213, 2, none⟩ = some (.slice A0_2 l0_2.length c0_2) := (blk_cell BK213.out 2).trans rfl; have hcz5_3 : w4.cell? ⟨gb213, 3, none⟩ = some (.slice A0_3 l0_3.length c0_3) := (blk_cell BK213.out 3).trans rfl; have hcz5_4 : w4.cell? ⟨gb213, 4, none⟩ = some (.int .i64 a0_4) := (blk_cell BK213.out 4).trans rfl; have hcz5_5 : w4.cell? ⟨gb213, 5, none⟩ = some (.int .i64 a0_5) := (blk_cell BK213.out 5).trans rfl; have hfz5_0 := blk_frozen BK213.out 0; have hfz5_1 := blk_frozen BK213.out 1; have hfz5_2 := blk_frozen BK213.out 2; have hfz5_3 := blk_frozen BK213.out 3; have hfz5_4 := blk_frozen BK213.out 4; have hfz5_5 := blk_frozen BK213.out 5) | ((with_reducible refine gate_dst (N := 3) rfl ?_); refine box_event ?hg (N := 3) ?hd (cs := #[.slice none 0 0, .slice none 0 0]) (t := 63) ?hr ?_; (case hd => rfl); (case hg => rfl); (case hr => first | (go_simp; done) | (go_simp; rfl)); intro gb214 hg w6 hbox hb; have n0_ := Aside0.mk (blk_below (g := gb213) (o := .cells #[.slice A0_0 l0_0.length c0_0, .slice A0_1 l0_1.length c0_1, .slice A0_2 l0_2.length c0_2, .slice A0_3 l0_3.length c0_3, .int .i64 a0_4, .int .i64 a0_5] 65 (0, 0)) (by (with_reducible repeat (first | refine blk_drewN ?_ _ | refine blk_drew ?_ | refine blk_alloc ?_ _)); exact BK213.out) hb); have n1_ := Aside0.mk (below_step (by repeat (first | (with_reducible first | exact HB.out | apply below_alloc | apply pw_below_drewN | apply below_drew1 | refine below_set ?_ GE213.out) | exact HB.out)) hb); have n2_ := Aside0.mk (hbox); have n3_ := Aside0.mk ((by rw [hg]; exact (below_size (by repeat (first | (with_reducible first | exact HB.out | apply below_alloc | apply pw_below_drewN | apply below_drew1 | refine below_set ?_ GE213.out) | exact HB.out))) : w.heap.size ≤ gb214)); have n4_ := Aside0.mk ((by rw [hg]; exact (below_size (by repeat (first | (with_reducible first | exact HB.out | apply below_alloc | apply pw_below_drewN | apply below_drew1 | refine below_set ?_ GE213.out) | exact HB.out))) : w.heap.size ≤ gb214)); have n5_ := Aside0.mk ((by rw [hg]; exact Nat.ne_of_lt (blk_lt (g := gb213) (o := .cells #[.slice A0_0 l0_0.length c0_0, .slice A0_1 l0_1.length c0_1, .slice A0_2 l0_2.length c0_2, .slice A0_3 l0_3.length c0_3, .int .i64 a0_4, .int .i64 a0_5] 65 (0, 0)) (by (with_reducible repeat (first | refine blk_drewN ?_ _ | refine blk_drew ?_ | refine blk_alloc ?_ _)); exact BK213.out)) : gb213 ≠ gb214)); have n6_ := Aside0.mk ((by rw [hg]; exact Nat.ne_of_gt (blk_lt (g := gb213) (o := .cells #[.slice A0_0 l0_0.length c0_0, .slice A0_1 l0_1.length c0_1, .slice A0_2 l0_2.length c0_2, .slice A0_3 l0_3.length c0_3, .int .i64 a0_4, .int .i64 a0_5] 65 (0, 0)) (by (with_reducible repeat (first | refine blk_drewN ?_ _ | refine blk_drew ?_ | refine blk_alloc ?_ _)); exact BK213.out)) : gb214 ≠ gb213)); clear BK213; clear HB; have BK213 := n0_; have HB := n1_; have BK214 := n2_; have GW214 := n3_; have GE214 := n4_; have NB213_214 := n5_; have NB214_213 := n6_; clear n0_ n1_ n2_ n3_ n4_ n5_ n6_; clear hb hbox hg; have hnb7 := NB214_213.out; have hnc7 := NB213_214.out; have hcz8_0 : w6.cell? ⟨gb214, 0, none⟩ = some (.slice none 0 0) := (blk_cell BK214.out 0).trans rfl; have hcz8_1 : w6.cell? ⟨gb214, 1, none⟩ = some (.slice none 0 0) := (blk_cell BK214.out 1).trans rfl; have hfz8_0 := blk_frozen BK214.out 0; have hfz8_1 := blk_frozen BK214.out 1; have hcz9_0 : w6.cell? ⟨gb213, 0, none⟩ = some (.slice A0_0 l0_0.length c0_0) := (blk_cell BK213.out 0).trans rfl; have hcz9_1 : w6.cell? ⟨gb213, 1, none⟩ = some (.slice A0_1 l0_1.length c0_1) := (blk_cell BK213.out 1).trans rfl; have hcz9_2 : w6.cell? ⟨gb213, 2, none⟩ = some (.slice A0_2 l0_2.length c0_2) := (blk_cell BK213.out 2).trans rfl; have hcz9_3 : w6.cell? ⟨gb213, 3, none⟩ = some (.slice A0_3 l0_3.length c0_3) := (blk_cell BK213.out 3).trans rfl; have hcz9_4 : w6.cell? ⟨gb213, 4, none⟩ = some (.int .i64 a0_4) := (blk_cell BK213.out 4).trans rfl; have hcz9_5 : w6.cell? ⟨gb213, 5, none⟩ = some (.int .i64 a0_5) := (blk_cell BK213.out 5).trans rfl; have hfz9_0 := blk_frozen BK213.out 0; have hfz9_1 := blk_frozen BK213.out 1; have hfz9_2 := blk_frozen BK213.out 2; have hfz9_3 := blk_frozen BK213.out 3; have hfz9_4 := blk_frozen BK213.out 4; have hfz9_5 := blk_frozen BK213.out 5) | ((with_reducible refine gate_dst (N := 4) rfl ?_); refine box_event ?hg (N := 4) ?hd (cs := #[.slice none 0 0, .slice none 0 0]) (t := 63) ?hr ?_; (case hd => rfl); (case hg => rfl); (case hr => first | (go_simp; done) | (go_simp; rfl)); intro gb215 hg w10 hbox hb; have n0_ := Aside0.mk (blk_below (g := gb213) (o := .cells #[.slice A0_0 l0_0.length c0_0, .slice A0_1 l0_1.length c0_1, .slice A0_2 l0_2.length c0_2, .slice A0_3 l0_3.length c0_3, .int .i64 a0_4, .int .i64 a0_5] 65 (0, 0)) (by (with_reducible repeat (first | refine blk_drewN ?_ _ | refine blk_drew ?_ | refine blk_alloc ?_ _)); refine blk_far ?_ NB213_214.out _; (with_reducible repeat (first | refine blk_drewN ?_ _ | refine blk_drew ?_ | refine blk_alloc ?_ _)); refine blk_far ?_ NB213_214.out _; (with_reducible repeat (first | refine blk_drewN ?_ _ | refine blk_drew ?_ | refine blk_alloc ?_ _)); exact BK213.out) hb); have n1_ := Aside0.mk (blk_below (g := gb214) (o := .cells #[.slice A0_0 l0_0.length c0_0, .slice A0_1 l0_1.length c0_1] 63 (0, 0)) (by (with_reducible repeat (first | refine blk_drewN ?_ _ | refine blk_drew ?_ | refine blk_alloc ?_ _)); refine blk_put (cs := #[.slice A0_0 l0_0.length c0_0, .slice none 0 0]) ?_ 1 _ rfl; (with_reducible repeat (first | refine blk_drewN ?_ _ | refine blk_drew ?_ | refine blk_alloc ?_ _)); refine blk_put (cs := #[.slice none 0 0, .slice none 0 0]) ?_ 0 _ rfl; (with_reducible repeat (first | refine blk_drewN ?_ _ | refine blk_drew ?_ | refine blk_alloc ?_ _)); exact BK214.out) hb); have n2_ := Aside0.mk (below_step (by repeat (first | (with_reducible first | exact HB.out | apply below_alloc | apply pw_below_drewN | apply below_drew1 | refine below_set ?_ GE213.out | refine below_set ?_ GE214.out) | exact HB.out)) hb); have n3_ := Aside0.mk (hbox); have n4_ := Aside0.mk ((by rw [hg]; exact (below_size (by repeat (first | (with_reducible first | exact HB.out | apply below_alloc | apply pw_below_drewN | apply below_drew1 | refine below_set ?_ GE213.out | refine below_set ?_ GE214.out) | exact HB.out))) : w.heap.size ≤ gb215)); have n5_ := Aside0.mk ((by rw [hg]; exact (below_size (by repeat (first | (with_reducible first | exact HB.out | apply below_alloc | apply pw_below_drewN | apply below_drew1 | refine below_set ?_ GE213.out | refine below_set ?_ GE214.out) | exact HB.out))) : w.heap.size ≤ gb215)); have n6_ := Aside0.mk ((by rw [hg]; exact Nat.ne_of_lt (blk_lt (g := gb213) (o := .cells #[.slice A0_0 l0_0.length c0_0, .slice A0_1 l0_1.length c0_1, .slice A0_2 l0_2.length c0_2, .slice A0_3 l0_3.length c0_3, .int .i64 a0_4, .int .i64 a0_5] 65 (0, 0)) (by (with_reducible repeat (first | refine blk_drewN ?_ _ | refine blk_drew ?_ | refine blk_alloc ?_ _)); refine blk_far ?_ NB213_214.out _; (with_reducible repeat (first | refine blk_drewN ?_ _ | refine blk_drew ?_ | refine blk_alloc ?_ _)); refine blk_far ?_ NB213_214.out _; (with_reducible repeat (first | refine blk_drewN ?_ _ | refine blk_drew ?_ | refine blk_alloc ?_ _)); exact BK213.out)) : gb213 ≠ gb215)); have n7_ := Aside0.mk ((by rw [hg]; exact Nat.ne_of_gt (blk_lt (g := gb213) (o := .cells #[.slice A0_0 l0_0.length c0_0, .slice A0_1 l0_1.length c0_1, .slice A0_2 l0_2.length c0_2, .slice A0_3 l0_3.length c0_3, .int .i64 a0_4, .int .i64 a0_5] 65 (0, 0)) (by (with_reducible repeat (first | refine blk_drewN ?_ _ | refine blk_drew ?_ | refine blk_alloc ?_ _)); refine blk_far ?_ NB213_214.out _; (with_reducible repeat (first | refine blk_drewN ?_ _ | refine blk_drew ?_ | refine blk_alloc ?_ _)); refine blk_far ?_ NB213_214.out _; (with_reducible repeat (first | refine blk_drewN ?_ _ | refine blk_drew ?_ | refine blk_alloc ?_ _)); exact BK213.out)) : gb215 ≠ gb213)); have n8_ := Aside0.mk ((by rw [hg]; exact Nat.ne_of_lt (blk_lt (g := gb214) (o := .cells #[.slice A0_0 l0_0.length c0_0, .slice A0_1 l0_1.length c0_1] 63 (0, 0)) (by (with_reducible repeat (first | refine blk_drewN ?_ _ | refine blk_drew ?_ | refine blk_alloc ?_ _)); refine blk_put (cs := #[.slice A0_0 l0_0.length c0_0, .slice none 0 0]) ?_ 1 _ rfl; (with_reducible repeat (first | refine blk_drewN ?_ _ | refine blk_drew ?_ | refine blk_alloc ?_ _)); refine blk_put (cs := #[.slice none 0 0, .slice none 0 0]) ?_ 0 _ rfl; (with_reducible repeat (first | refine blk_drewN ?_ _ | refine blk_drew ?_ | refine blk_alloc ?_ _)); exact BK214.out)) : gb214 ≠ gb215)); have n9_ := Aside0.mk ((by rw [hg]; exact Nat.ne_of_gt (blk_lt (g := gb214) (o := .cells #[.slice A0_0 l0_0.length c0_0, .slice A0_1 l0_1.length c0_1] 63 (0, 0)) (by (with_reducible repeat (first | refine blk_drewN ?_ _ | refine blk_drew ?_ | refine blk_alloc ?_ _)); refine blk_put (cs := #[.slice A0_0 l0_0.length c0_0, .slice none 0 0]) ?_ 1 _ rfl; (with_reducible repeat (first | refine blk_drewN ?_ _ | refine blk_drew ?_ | refine blk_alloc ?_ _)); refine blk_put (cs := #[.slice none 0 0, .slice none 0 0]) ?_ 0 _ rfl; (with_reducible repeat (first | refine blk_drewN ?_ _ | refine blk_drew ?_ | refine blk_alloc ?_ _)); exact BK214.out)) : gb215 ≠ gb214)); clear BK213; clear BK214; clear HB; have BK213 := n0_; have BK214 := n1_; have HB := n2_; have BK215 := n3_; have GW215 := n4_; have GE215 := n5_; have NB213_215 := n6_; have NB215_213 := n7_; have NB214_215 := n8_; have NB215_214 := n9_; clear n0_ n1_ n2_ n3_ n4_ n5_ n6_ n7_ n8_ n9_; clear hb hbox hg; have hnb11 := NB215_213.out; have hnc11 := NB213_215.out; have hnb12 := NB215_214.out; have hnc12 := NB214_215.out; have hcz13_0 : w10.cell? ⟨gb215, 0, none⟩ = some (.slice none 0 0) := (blk_cell BK215.out 0).trans rfl; have hcz13_1 : w10.cell? ⟨gb215, 1, none⟩ = some (.slice none 0 0) := (blk_cell BK215.out 1).trans rfl; have hfz13_0 := blk_frozen BK215.out 0; have hfz13_1 := blk_frozen BK215.out 1; have hcz14_0 : w10.cell? ⟨gb213, 0, none⟩ = some (.slice A0_0 l0_0.length c0_0) := (blk_cell BK213.out 0).trans rfl; have hcz14_1 : w10.cell? ⟨gb213, 1, none⟩ = some (.slice A0_1 l0_1.length c0_1) := (blk_cell BK213.out 1).trans rfl; have hcz14_2 : w10.cell? ⟨gb213, 2, none⟩ = some (.slice A0_2 l0_2.length c0_2) := (blk_cell BK213.out 2).trans rfl; have hcz14_3 : w10.cell? ⟨gb213, 3, none⟩ = some (.slice A0_3 l0_3.length c0_3) := (blk_cell BK213.out 3).trans rfl; have hcz14_4 : w10.cell? ⟨gb213, 4, none⟩ = some (.int .i64 a0_4) := (blk_cell BK213.out 4).trans rfl; have hcz14_5 : w10.cell? ⟨gb213, 5, none⟩ = some (.int .i64 a0_5) := (blk_cell BK213.out 5).trans rfl; have hfz14_0 := blk_frozen BK213.out 0; have hfz14_1 := blk_frozen BK213.out 1; have hfz14_2 := blk_frozen BK213.out 2; have hfz14_3 := blk_frozen BK213.out 3; have hfz14_4 := blk_frozen BK213.out 4; have hfz14_5 := blk_frozen BK213.out 5) | ((with_reducible refine gate_callee (f := 33) rfl ?_); refine goesL_ (some 26) rfl rfl Try.func33 (by kernel_rfl) rfl #[] rfl (by (try simp only [List.map_toArray, List.map_cons, List.map_nil]); first | done | rfl | (simp only [List.length_drop, List.length_take]; rfl)) ?_; (with_reducible refine (assartlaw02_shown.calls k  t216 _ A2.out).mono ?_); rintro e w15 ⟨rfl, hb⟩; refine ⟨_, rfl, ?_⟩; have n0_ := Aside0.mk (blk_below (g := gb213) (o := .cells #[.slice A0_0 l0_0.length c0_0, .slice A0_1 l0_1.length c0_1, .slice A0_2 l0_2.length c0_2, .slice A0_3 l0_3.length c0_3, .int .i64 a0_4, .int .i64 a0_5] 65 (0, 0)) (by (with_reducible repeat (first | refine blk_drewN ?_ _ | refine blk_drew ?_ | refine blk_alloc ?_ _)); refine blk_far ?_ NB213_215.out _; (with_reducible repeat (first | refine blk_drewN ?_ _ | refine blk_drew ?_ | refine blk_alloc ?_ _)); refine blk_far ?_ NB213_215.out _; (with_reducible repeat (first | refine blk_drewN ?_ _ | refine blk_drew ?_ | refine blk_alloc ?_ _)); exact BK213.out) hb); have n1_ := Aside0.mk (blk_below (g := gb214) (o := .cells #[.slice A0_0 l0_0.length c0_0, .slice A0_1 l0_1.length c0_1] 63 (0, 0)) (by (with_reducible repeat (first | refine blk_drewN ?_ _ | refine blk_drew ?_ | refine blk_alloc ?_ _)); refine blk_far ?_ NB214_215.out _; (with_reducible repeat (first | refine blk_drewN ?_ _ | refine blk_drew ?_ | refine blk_alloc ?_ _)); refine blk_far ?_ NB214_215.out _; (with_reducible repeat (first | refine blk_drewN ?_ _ | refine blk_drew ?_ | refine blk_alloc ?_ _)); exact BK214.out) hb); have n2_ := Aside0.mk (blk_below (g := gb215) (o := .cells #[.slice A0_2 l0_2.length c0_2, .slice A0_3 l0_3.length c0_3] 63 (0, 0)) (by (with_reducible repeat (first | refine blk_drewN ?_ _ | refine blk_drew ?_ | refine blk_alloc ?_ _)); refine blk_put (cs := #[.slice A0_2 l0_2.length c0_2, .slice none 0 0]) ?_ 1 _ rfl; (with_reducible repeat (first | refine blk_drewN ?_ _ | refine blk_drew ?_ | refine blk_alloc ?_ _)); refine blk_put (cs := #[.slice none 0 0, .slice none 0 0]) ?_ 0 _ rfl; (with_reducible repeat (first | refine blk_drewN ?_ _ | refine blk_drew ?_ | refine blk_alloc ?_ _)); exact BK215.out) hb); have n3_ := Aside0.mk (below_step (by repeat (first | (with_reducible first | exact HB.out | apply below_alloc | apply pw_below_drewN | apply below_drew1 | refine below_set ?_ GE213.out | refine below_set ?_ GE214.out | refine below_set ?_ GE215.out) | exact HB.out)) hb); clear BK213; clear BK214; clear BK215; clear HB; have BK213 := n0_; have BK214 := n1_; have BK215 := n2_; have HB := n3_; clear n0_ n1_ n2_ n3_; (try clear hb); (try clear hb2); (try clear hk); (try clear hi)))
  (try simp only [Act.put, List.setIfInBounds_toArray, List.set_cons_zero, List.set_cons_succ])
  go_cut [34] (fun v34 wc => ∃ (kq : Nat) (x34_2 : Bool), v34 = .bool x34_2 ∧ Aside0 (assartlaw02_DiskTells.j0 kq a0_4 a0_5 t216 x34_2 l0_0 l0_1 l0_2 l0_3 = some r) ∧ Aside0 (kq ≤ k) ∧ Aside0 (wc.heap[gb213]? = some (.cells #[(.slice A0_0 l0_0.length c0_0), (.slice A0_1 l0_1.length c0_1), (.slice A0_2 l0_2.length c0_2), (.slice A0_3 l0_3.length c0_3), .int .i64 a0_4, .int .i64 a0_5] 65 (0, 0))) ∧ Aside0 (wc.heap[gb214]? = some (.cells #[(.slice A0_0 l0_0.length c0_0), (.slice A0_1 l0_1.length c0_1)] 63 (0, 0))) ∧ Aside0 (wc.heap[gb215]? = some (.cells #[(.slice A0_2 l0_2.length c0_2), (.slice A0_3 l0_3.length c0_3)] 63 (0, 0))) ∧ Aside0 (Below w.heap.size w wc))
  case first =>
    have H := HC3.out
    clear HC3
    replace H := Option.bind_eq_some_iff.mp H
    obtain ⟨t217, A160, H⟩ := H
    replace H : (if t217 = true then ((assartref02_Small.f k l0_2 l0_3 60).bind fun t218 => (assartlaw02_DiskTells.j0 k a0_4 a0_5 t216 (!t218) l0_0 l0_1 l0_2 l0_3)) else (assartlaw02_DiskTells.j0 k a0_4 a0_5 t216 true l0_0 l0_1 l0_2 l0_3)) = some r := H
    have A16 := Aside0.mk A160
    clear A160
    by_cases c17 : t217 = true
    · subst c17
      have H1 : ((assartref02_Small.f k l0_2 l0_3 60).bind fun t218 => (assartlaw02_DiskTells.j0 k a0_4 a0_5 t216 (!t218) l0_0 l0_1 l0_2 l0_3)) = some r := by rw [if_pos rfl] at H; exact H
      clear H
      have H := H1
      clear H1
      replace H := Option.bind_eq_some_iff.mp H
      obtain ⟨t218, A180, H⟩ := H
      replace H : (assartlaw02_DiskTells.j0 k a0_4 a0_5 t216 (!t218) l0_0 l0_1 l0_2 l0_3) = some r := H
      have A18 := Aside0.mk A180
      clear A180
      have H' := Aside0.mk H
      clear H
      have hnb19 := NB214_213.out
      have hnc19 := NB213_214.out
      have hnb20 := NB214_215.out
      have hnc20 := NB215_214.out
      have hcz21_0 : w15.cell? ⟨gb214, 0, none⟩ = some (.slice A0_0 l0_0.length c0_0) := (blk_cell BK214.out 0).trans rfl
      have hcz21_1 : w15.cell? ⟨gb214, 1, none⟩ = some (.slice A0_1 l0_1.length c0_1) := (blk_cell BK214.out 1).trans rfl
      have hfz21_0 := blk_frozen BK214.out 0
      have hfz21_1 := blk_frozen BK214.out 1
      go_wp2_with (first | ((with_reducible refine gate_callee (f := 34) rfl ?_); refine goesL_ (some 28) rfl rfl Try.func34 (by kernel_rfl) rfl #[.agg #[.slice A0_0 l0_0.length c0_0, .slice A0_1 l0_1.length c0_1], .int .i64 60] rfl (by (try simp only [List.map_toArray, List.map_cons, List.map_nil]); first | done | rfl | (simp only [List.length_drop, List.length_take]; rfl)) ?_; (with_reducible refine (assartref02_Small.calls k _ _ l0_0 _ _ l0_1 60 true _ ?side1 ?side2 ?side3 ?side4 A16.out).mono ?_); (case side1 => repeat (first | exact (Kd.C_below HR0_0.out HB.out) | (with_reducible refine Kd.C_alloc ?_ _) | (with_reducible refine Kd.C_drewN ?_ _) | (with_reducible refine Kd.C_drew ?_))); (case side2 => exact HC0_0.out); (case side3 => repeat (first | exact (Kd.C_below HR0_1.out HB.out) | (with_reducible refine Kd.C_alloc ?_ _) | (with_reducible refine Kd.C_drewN ?_ _) | (with_reducible refine Kd.C_drew ?_))); (case side4 => exact HC0_1.out); rintro e w22 ⟨rfl, hb⟩; refine ⟨_, rfl, ?_⟩; have n0_ := Aside0.mk (blk_below (g := gb213) (o := .cells #[.slice A0_0 l0_0.length c0_0, .slice A0_1 l0_1.length c0_1, .slice A0_2 l0_2.length c0_2, .slice A0_3 l0_3.length c0_3, .int .i64 a0_4, .int .i64 a0_5] 65 (0, 0)) (by (with_reducible repeat (first | refine blk_drewN ?_ _ | refine blk_drew ?_ | refine blk_alloc ?_ _)); exact BK213.out) hb); have n1_ := Aside0.mk (blk_below (g := gb214) (o := .cells #[.slice A0_0 l0_0.length c0_0, .slice A0_1 l0_1.length c0_1] 63 (0, 0)) (by (with_reducible repeat (first | refine blk_drewN ?_ _ | refine blk_drew ?_ | refine blk_alloc ?_ _)); exact BK214.out) hb); have n2_ := Aside0.mk (blk_below (g := gb215) (o := .cells #[.slice A0_2 l0_2.length c0_2, .slice A0_3 l0_3.length c0_3] 63 (0, 0)) (by (with_reducible repeat (first | refine blk_drewN ?_ _ | refine blk_drew ?_ | refine blk_alloc ?_ _)); exact BK215.out) hb); have n3_ := Aside0.mk (below_step (by repeat (first | (with_reducible first | exact HB.out | apply below_alloc | apply pw_below_drewN | apply below_drew1 | refine below_set ?_ GE213.out | refine below_set ?_ GE214.out | refine below_set ?_ GE215.out) | exact HB.out)) hb); clear BK213; clear BK214; clear BK215; clear HB; have BK213 := n0_; have BK214 := n1_; have BK215 := n2_; have HB := n3_; clear n0_ n1_ n2_ n3_; (try clear hb); (try clear hb2); (try clear hk); (try clear hi); have hnb23 := NB215_213.out; have hnc23 := NB213_215.out; have hcz24_0 : w22.cell? ⟨gb215, 0, none⟩ = some (.slice A0_2 l0_2.length c0_2) := (blk_cell BK215.out 0).trans rfl; have hcz24_1 : w22.cell? ⟨gb215, 1, none⟩ = some (.slice A0_3 l0_3.length c0_3) := (blk_cell BK215.out 1).trans rfl; have hfz24_0 := blk_frozen BK215.out 0; have hfz24_1 := blk_frozen BK215.out 1) | (go_at_call 34; (with_reducible refine (assartref02_Small.calls k _ _ l0_2 _ _ l0_3 60 t218 _ ?side1 ?side2 ?side3 ?side4 A18.out).mono ?_); (case side1 => repeat (first | exact (Kd.C_below HR0_2.out HB.out) | (with_reducible refine Kd.C_alloc ?_ _) | (with_reducible refine Kd.C_drewN ?_ _) | (with_reducible refine Kd.C_drew ?_))); (case side2 => exact HC0_2.out); (case side3 => repeat (first | exact (Kd.C_below HR0_3.out HB.out) | (with_reducible refine Kd.C_alloc ?_ _) | (with_reducible refine Kd.C_drewN ?_ _) | (with_reducible refine Kd.C_drew ?_))); (case side4 => exact HC0_3.out); rintro e w25 ⟨rfl, hb⟩; have n0_ := Aside0.mk (blk_below (g := gb213) (o := .cells #[.slice A0_0 l0_0.length c0_0, .slice A0_1 l0_1.length c0_1, .slice A0_2 l0_2.length c0_2, .slice A0_3 l0_3.length c0_3, .int .i64 a0_4, .int .i64 a0_5] 65 (0, 0)) (by (with_reducible repeat (first | refine blk_drewN ?_ _ | refine blk_drew ?_ | refine blk_alloc ?_ _)); exact BK213.out) hb); have n1_ := Aside0.mk (blk_below (g := gb214) (o := .cells #[.slice A0_0 l0_0.length c0_0, .slice A0_1 l0_1.length c0_1] 63 (0, 0)) (by (with_reducible repeat (first | refine blk_drewN ?_ _ | refine blk_drew ?_ | refine blk_alloc ?_ _)); exact BK214.out) hb); have n2_ := Aside0.mk (blk_below (g := gb215) (o := .cells #[.slice A0_2 l0_2.length c0_2, .slice A0_3 l0_3.length c0_3] 63 (0, 0)) (by (with_reducible repeat (first | refine blk_drewN ?_ _ | refine blk_drew ?_ | refine blk_alloc ?_ _)); exact BK215.out) hb); have n3_ := Aside0.mk (below_step (by repeat (first | (with_reducible first | exact HB.out | apply below_alloc | apply pw_below_drewN | apply below_drew1 | refine below_set ?_ GE213.out | refine below_set ?_ GE214.out | refine below_set ?_ GE215.out) | exact HB.out)) hb); clear BK213; clear BK214; clear BK215; clear HB; have BK213 := n0_; have BK214 := n1_; have BK215 := n2_; have HB := n3_; clear n0_ n1_ n2_ n3_; (try clear hb); (try clear hb2); (try clear hk); (try clear hi)))
      go_meet
      case rel => exact ⟨_, (!t218), (by first | rfl | (simp; done) | (simp [*]; done)), H', ⟨by first | omega | exact Nat.le_refl _⟩, ⟨by (with_reducible repeat (first | refine blk_drewN ?_ _ | refine blk_drew ?_ | refine blk_alloc ?_ _)); exact BK213.out⟩, ⟨by (with_reducible repeat (first | refine blk_drewN ?_ _ | refine blk_drew ?_ | refine blk_alloc ?_ _)); exact BK214.out⟩, ⟨by (with_reducible repeat (first | refine blk_drewN ?_ _ | refine blk_drew ?_ | refine blk_alloc ?_ _)); exact BK215.out⟩, ⟨by repeat (first | (with_reducible first | exact HB.out | apply below_alloc | apply pw_below_drewN | apply below_drew1 | refine below_set ?_ GE213.out | refine below_set ?_ GE214.out | refine below_set ?_ GE215.out) | exact HB.out)⟩⟩
    · replace c17 := Bool.eq_false_iff.mpr c17
      subst c17
      have H1 : (assartlaw02_DiskTells.j0 k a0_4 a0_5 t216 true l0_0 l0_1 l0_2 l0_3) = some r := by rw [if_neg (show ¬ (false = true) by decide)] at H; exact H
      clear H
      have H := H1
      clear H1
      have H' := Aside0.mk H
      clear H
      have hnb26 := NB214_213.out
      have hnc26 := NB213_214.out
      have hnb27 := NB214_215.out
      have hnc27 := NB215_214.out
      have hcz28_0 : w15.cell? ⟨gb214, 0, none⟩ = some (.slice A0_0 l0_0.length c0_0) := (blk_cell BK214.out 0).trans rfl
      have hcz28_1 : w15.cell? ⟨gb214, 1, none⟩ = some (.slice A0_1 l0_1.length c0_1) := (blk_cell BK214.out 1).trans rfl
      have hfz28_0 := blk_frozen BK214.out 0
      have hfz28_1 := blk_frozen BK214.out 1
      go_wp2_with (first | ((with_reducible refine gate_callee (f := 34) rfl ?_); refine goesL_ (some 28) rfl rfl Try.func34 (by kernel_rfl) rfl #[.agg #[.slice A0_0 l0_0.length c0_0, .slice A0_1 l0_1.length c0_1], .int .i64 60] rfl (by (try simp only [List.map_toArray, List.map_cons, List.map_nil]); first | done | rfl | (simp only [List.length_drop, List.length_take]; rfl)) ?_; (with_reducible refine (assartref02_Small.calls k _ _ l0_0 _ _ l0_1 60 false _ ?side1 ?side2 ?side3 ?side4 A16.out).mono ?_); (case side1 => repeat (first | exact (Kd.C_below HR0_0.out HB.out) | (with_reducible refine Kd.C_alloc ?_ _) | (with_reducible refine Kd.C_drewN ?_ _) | (with_reducible refine Kd.C_drew ?_))); (case side2 => exact HC0_0.out); (case side3 => repeat (first | exact (Kd.C_below HR0_1.out HB.out) | (with_reducible refine Kd.C_alloc ?_ _) | (with_reducible refine Kd.C_drewN ?_ _) | (with_reducible refine Kd.C_drew ?_))); (case side4 => exact HC0_1.out); rintro e w29 ⟨rfl, hb⟩; refine ⟨_, rfl, ?_⟩; have n0_ := Aside0.mk (blk_below (g := gb213) (o := .cells #[.slice A0_0 l0_0.length c0_0, .slice A0_1 l0_1.length c0_1, .slice A0_2 l0_2.length c0_2, .slice A0_3 l0_3.length c0_3, .int .i64 a0_4, .int .i64 a0_5] 65 (0, 0)) (by (with_reducible repeat (first | refine blk_drewN ?_ _ | refine blk_drew ?_ | refine blk_alloc ?_ _)); exact BK213.out) hb); have n1_ := Aside0.mk (blk_below (g := gb214) (o := .cells #[.slice A0_0 l0_0.length c0_0, .slice A0_1 l0_1.length c0_1] 63 (0, 0)) (by (with_reducible repeat (first | refine blk_drewN ?_ _ | refine blk_drew ?_ | refine blk_alloc ?_ _)); exact BK214.out) hb); have n2_ := Aside0.mk (blk_below (g := gb215) (o := .cells #[.slice A0_2 l0_2.length c0_2, .slice A0_3 l0_3.length c0_3] 63 (0, 0)) (by (with_reducible repeat (first | refine blk_drewN ?_ _ | refine blk_drew ?_ | refine blk_alloc ?_ _)); exact BK215.out) hb); have n3_ := Aside0.mk (below_step (by repeat (first | (with_reducible first | exact HB.out | apply below_alloc | apply pw_below_drewN | apply below_drew1 | refine below_set ?_ GE213.out | refine below_set ?_ GE214.out | refine below_set ?_ GE215.out) | exact HB.out)) hb); clear BK213; clear BK214; clear BK215; clear HB; have BK213 := n0_; have BK214 := n1_; have BK215 := n2_; have HB := n3_; clear n0_ n1_ n2_ n3_; (try clear hb); (try clear hb2); (try clear hk); (try clear hi)))
      go_meet
      case rel => exact ⟨_, (true), (by first | rfl | (simp; done) | (simp [*]; done)), H', ⟨by first | omega | exact Nat.le_refl _⟩, ⟨by (with_reducible repeat (first | refine blk_drewN ?_ _ | refine blk_drew ?_ | refine blk_alloc ?_ _)); exact BK213.out⟩, ⟨by (with_reducible repeat (first | refine blk_drewN ?_ _ | refine blk_drew ?_ | refine blk_alloc ?_ _)); exact BK214.out⟩, ⟨by (with_reducible repeat (first | refine blk_drewN ?_ _ | refine blk_drew ?_ | refine blk_alloc ?_ _)); exact BK215.out⟩, ⟨by repeat (first | (with_reducible first | exact HB.out | apply below_alloc | apply pw_below_drewN | apply below_drew1 | refine below_set ?_ GE213.out | refine below_set ?_ GE214.out | refine below_set ?_ GE215.out) | exact HB.out)⟩⟩
  case rest =>
    clear HC3
    try clear c1
    try clear c2
    try clear p2
    try clear c3
    try clear c7
    try clear c11
    try clear c12
    try clear c17
    try clear c19
    try clear c20
    try clear c23
    try clear c26
    try clear c27
    try clear hcz13_0
    try clear hcz13_1
    try clear hcz14_0
    try clear hcz14_1
    try clear hcz14_2
    try clear hcz14_3
    try clear hcz14_4
    try clear hcz14_5
    try clear hcz21_0
    try clear hcz21_1
    try clear hcz24_0
    try clear hcz24_1
    try clear hcz28_0
    try clear hcz28_1
    try clear hcz5_0
    try clear hcz5_1
    try clear hcz5_2
    try clear hcz5_3
    try clear hcz5_4
    try clear hcz5_5
    try clear hcz8_0
    try clear hcz8_1
    try clear hcz9_0
    try clear hcz9_1
    try clear hcz9_2
    try clear hcz9_3
    try clear hcz9_4
    try clear hcz9_5
    try clear hfz13_0
    try clear hfz13_1
    try clear hfz14_0
    try clear hfz14_1
    try clear hfz14_2
    try clear hfz14_3
    try clear hfz14_4
    try clear hfz14_5
    try clear hfz21_0
    try clear hfz21_1
    try clear hfz24_0
    try clear hfz24_1
    try clear hfz28_0
    try clear hfz28_1
    try clear hfz5_0
    try clear hfz5_1
    try clear hfz5_2
    try clear hfz5_3
    try clear hfz5_4
    try clear hfz5_5
    try clear hfz8_0
    try clear hfz8_1
    try clear hfz9_0
    try clear hfz9_1
    try clear hfz9_2
    try clear hfz9_3
    try clear hfz9_4
    try clear hfz9_5
    obtain ⟨kq, x34_2, rfl, HA, HJ2, BK213, BK214, BK215, HB⟩ := hcut
    cases kq with
    | zero => exact absurd HA.out (by simp [assartlaw02_DiskTells.j0])
    | succ kj2 =>
      have H := HA.out
      clear HA
      simp only [assartlaw02_DiskTells.j0] at H
      by_cases c30 : x34_2 = true
      · subst c30
        have H1 : (some t216) = some r := by rw [if_pos rfl] at H; exact H
        clear H
        have H := H1
        clear H1
        obtain rfl := Option.some.inj H
        go_wp2
        go_ret
        exact ⟨by first | rfl | (simp [errW_none, errW_some] <;> rfl) | (simp [*, errW_none, errW_some] <;> rfl), by repeat (first | (with_reducible first | exact HB.out | apply below_alloc | apply pw_below_drewN | apply below_drew1 | refine below_set ?_ GE213.out | refine below_set ?_ GE214.out | refine below_set ?_ GE215.out) | exact HB.out)⟩
      · replace c30 := Bool.eq_false_iff.mpr c30
        subst c30
        have H1 : ((disk_New.f kj2 a0_4).bind fun bt219 => ((assartref02_New.f kj2 a0_4).bind fun bt227 => ((assartref02_Right.f kj2 l0_0 l0_1).bind fun t235 => ((assartref02_Same.f kj2 bt219.1 bt219.2.1 bt227.1 bt227.2.1).bind fun t236 => (if t236 = true then (if bt219.2.2 = bt227.2.2 then ((disk_Right.f l0_0 l0_1).bind fun t237 => (assartlaw02_DiskTells.j1 kj2 a0_5 t216 t235 (t237 != t235) l0_0 l0_1 l0_2 l0_3)) else (assartlaw02_DiskTells.j1 kj2 a0_5 t216 t235 true l0_0 l0_1 l0_2 l0_3)) else (assartlaw02_DiskTells.j1 kj2 a0_5 t216 t235 true l0_0 l0_1 l0_2 l0_3)))))) = some r := by rw [if_neg (show ¬ (false = true) by decide)] at H; exact H
        clear H
        have H := H1
        clear H1
        replace H := Option.bind_eq_some_iff.mp H
        obtain ⟨⟨t219, t222, t225⟩, A310, H⟩ := H
        replace H : ((assartref02_New.f kj2 a0_4).bind fun bt227 => ((assartref02_Right.f kj2 l0_0 l0_1).bind fun t235 => ((assartref02_Same.f kj2 t219 t222 bt227.1 bt227.2.1).bind fun t236 => (if t236 = true then (if t225 = bt227.2.2 then ((disk_Right.f l0_0 l0_1).bind fun t237 => (assartlaw02_DiskTells.j1 kj2 a0_5 t216 t235 (t237 != t235) l0_0 l0_1 l0_2 l0_3)) else (assartlaw02_DiskTells.j1 kj2 a0_5 t216 t235 true l0_0 l0_1 l0_2 l0_3)) else (assartlaw02_DiskTells.j1 kj2 a0_5 t216 t235 true l0_0 l0_1 l0_2 l0_3))))) = some r := H
        have A31 := Aside0.mk A310
        clear A310
        replace H := Option.bind_eq_some_iff.mp H
        obtain ⟨⟨t227, t230, t233⟩, A320, H⟩ := H
        replace H : ((assartref02_Right.f kj2 l0_0 l0_1).bind fun t235 => ((assartref02_Same.f kj2 t219 t222 t227 t230).bind fun t236 => (if t236 = true then (if t225 = t233 then ((disk_Right.f l0_0 l0_1).bind fun t237 => (assartlaw02_DiskTells.j1 kj2 a0_5 t216 t235 (t237 != t235) l0_0 l0_1 l0_2 l0_3)) else (assartlaw02_DiskTells.j1 kj2 a0_5 t216 t235 true l0_0 l0_1 l0_2 l0_3)) else (assartlaw02_DiskTells.j1 kj2 a0_5 t216 t235 true l0_0 l0_1 l0_2 l0_3)))) = some r := H
        have A32 := Aside0.mk A320
        clear A320
        replace H := Option.bind_eq_some_iff.mp H
        obtain ⟨t235, A330, H⟩ := H
        replace H : ((assartref02_Same.f kj2 t219 t222 t227 t230).bind fun t236 => (if t236 = true then (if t225 = t233 then ((disk_Right.f l0_0 l0_1).bind fun t237 => (assartlaw02_DiskTells.j1 kj2 a0_5 t216 t235 (t237 != t235) l0_0 l0_1 l0_2 l0_3)) else (assartlaw02_DiskTells.j1 kj2 a0_5 t216 t235 true l0_0 l0_1 l0_2 l0_3)) else (assartlaw02_DiskTells.j1 kj2 a0_5 t216 t235 true l0_0 l0_1 l0_2 l0_3))) = some r := H
        have A33 := Aside0.mk A330
        clear A330
        have HC34 := Aside0.mk H
        clear H
        go_upto_region 11 with (first | ((with_reducible refine gate_callee (f := 35) rfl ?_); refine goesL_ (some 38) rfl rfl Try.func35 (by kernel_rfl) rfl #[.int .i64 a0_4] rfl (by (try simp only [List.map_toArray, List.map_cons, List.map_nil]); first | done | rfl | (simp only [List.length_drop, List.length_take]; rfl)) ?_; (with_reducible refine (disk_New.calls kj2 a0_4 t219 t222 t225 _ A31.out).mono ?_); rintro e w35 ⟨v220, v223, rfl, ho0, ho1, hb⟩; refine ⟨_, rfl, ?_⟩; have n0_ := Aside0.mk (Kd.R_lower ho0 (below_size (by repeat (first | (with_reducible first | exact HB.out | apply below_alloc | apply pw_below_drewN | apply below_drew1 | refine below_set ?_ GE213.out | refine below_set ?_ GE214.out | refine below_set ?_ GE215.out) | exact HB.out)))); have n1_ := Aside0.mk (Kd.R_lower ho1 (below_size (by repeat (first | (with_reducible first | exact HB.out | apply below_alloc | apply pw_below_drewN | apply below_drew1 | refine below_set ?_ GE213.out | refine below_set ?_ GE214.out | refine below_set ?_ GE215.out) | exact HB.out)))); have n2_ := Aside0.mk (blk_below (g := gb213) (o := .cells #[.slice A0_0 l0_0.length c0_0, .slice A0_1 l0_1.length c0_1, .slice A0_2 l0_2.length c0_2, .slice A0_3 l0_3.length c0_3, .int .i64 a0_4, .int .i64 a0_5] 65 (0, 0)) (by (with_reducible repeat (first | refine blk_drewN ?_ _ | refine blk_drew ?_ | refine blk_alloc ?_ _)); exact BK213.out) hb); have n3_ := Aside0.mk (blk_below (g := gb214) (o := .cells #[.slice A0_0 l0_0.length c0_0, .slice A0_1 l0_1.length c0_1] 63 (0, 0)) (by (with_reducible repeat (first | refine blk_drewN ?_ _ | refine blk_drew ?_ | refine blk_alloc ?_ _)); exact BK214.out) hb); have n4_ := Aside0.mk (blk_below (g := gb215) (o := .cells #[.slice A0_2 l0_2.length c0_2, .slice A0_3 l0_3.length c0_3] 63 (0, 0)) (by (with_reducible repeat (first | refine blk_drewN ?_ _ | refine blk_drew ?_ | refine blk_alloc ?_ _)); exact BK215.out) hb); have n5_ := Aside0.mk (below_step (by repeat (first | (with_reducible first | exact HB.out | apply below_alloc | apply pw_below_drewN | apply below_drew1 | refine below_set ?_ GE213.out | refine below_set ?_ GE214.out | refine below_set ?_ GE215.out) | exact HB.out)) hb); clear BK213; clear BK214; clear BK215; clear HB; have HO221 := n0_; have HO224 := n1_; have BK213 := n2_; have BK214 := n3_; have BK215 := n4_; have HB := n5_; clear n0_ n1_ n2_ n3_ n4_ n5_; (try clear hb); (try clear hb2); (try clear hk); (try clear hi); (try clear ho0); (try clear ho1)) | ((with_reducible refine gate_dst (N := 8) rfl ?_); refine box_event ?hg (N := 8) ?hd (cs := #[.slice none 0 0, .slice none 0 0]) (t := 63) ?hr ?_; (case hd => rfl); (case hg => rfl); (case hr => first | (go_simp; done) | (go_simp; rfl)); intro gb226 hg w36 hbox hb; have n0_ := Aside0.mk (Kd.R_below (by (with_reducible repeat (first | apply Kd.R_alloc | apply Kd.R_drewN | apply Kd.R_drew)); exact HO221.out) hb); have n1_ := Aside0.mk (Kd.R_below (by (with_reducible repeat (first | apply Kd.R_alloc | apply Kd.R_drewN | apply Kd.R_drew)); exact HO224.out) hb); have n2_ := Aside0.mk (blk_below (g := gb213) (o := .cells #[.slice A0_0 l0_0.length c0_0, .slice A0_1 l0_1.length c0_1, .slice A0_2 l0_2.length c0_2, .slice A0_3 l0_3.length c0_3, .int .i64 a0_4, .int .i64 a0_5] 65 (0, 0)) (by (with_reducible repeat (first | refine blk_drewN ?_ _ | refine blk_drew ?_ | refine blk_alloc ?_ _)); exact BK213.out) hb); have n3_ := Aside0.mk (blk_below (g := gb214) (o := .cells #[.slice A0_0 l0_0.length c0_0, .slice A0_1 l0_1.length c0_1] 63 (0, 0)) (by (with_reducible repeat (first | refine blk_drewN ?_ _ | refine blk_drew ?_ | refine blk_alloc ?_ _)); exact BK214.out) hb); have n4_ := Aside0.mk (blk_below (g := gb215) (o := .cells #[.slice A0_2 l0_2.length c0_2, .slice A0_3 l0_3.length c0_3] 63 (0, 0)) (by (with_reducible repeat (first | refine blk_drewN ?_ _ | refine blk_drew ?_ | refine blk_alloc ?_ _)); exact BK215.out) hb); have n5_ := Aside0.mk (below_step (by repeat (first | (with_reducible first | exact HB.out | apply below_alloc | apply pw_below_drewN | apply below_drew1 | refine below_set ?_ GE213.out | refine below_set ?_ GE214.out | refine below_set ?_ GE215.out) | exact HB.out)) hb); have n6_ := Aside0.mk (hbox); have n7_ := Aside0.mk ((by rw [hg]; exact (below_size (by repeat (first | (with_reducible first | exact HB.out | apply below_alloc | apply pw_below_drewN | apply below_drew1 | refine below_set ?_ GE213.out | refine below_set ?_ GE214.out | refine below_set ?_ GE215.out) | exact HB.out))) : w.heap.size ≤ gb226)); have n8_ := Aside0.mk ((by rw [hg]; exact (below_size (by repeat (first | (with_reducible first | exact HB.out | apply below_alloc | apply pw_below_drewN | apply below_drew1 | refine below_set ?_ GE213.out | refine below_set ?_ GE214.out | refine below_set ?_ GE215.out) | exact HB.out))) : w.heap.size ≤ gb226)); have n9_ := Aside0.mk ((by rw [hg]; exact Nat.ne_of_lt (blk_lt (g := gb213) (o := .cells #[.slice A0_0 l0_0.length c0_0, .slice A0_1 l0_1.length c0_1, .slice A0_2 l0_2.length c0_2, .slice A0_3 l0_3.length c0_3, .int .i64 a0_4, .int .i64 a0_5] 65 (0, 0)) (by (with_reducible repeat (first | refine blk_drewN ?_ _ | refine blk_drew ?_ | refine blk_alloc ?_ _)); exact BK213.out)) : gb213 ≠ gb226)); have n10_ := Aside0.mk ((by rw [hg]; exact Nat.ne_of_gt (blk_lt (g := gb213) (o := .cells #[.slice A0_0 l0_0.length c0_0, .slice A0_1 l0_1.length c0_1, .slice A0_2 l0_2.length c0_2, .slice A0_3 l0_3.length c0_3, .int .i64 a0_4, .int .i64 a0_5] 65 (0, 0)) (by (with_reducible repeat (first | refine blk_drewN ?_ _ | refine blk_drew ?_ | refine blk_alloc ?_ _)); exact BK213.out)) : gb226 ≠ gb213)); have n11_ := Aside0.mk ((by rw [hg]; exact Nat.ne_of_lt (blk_lt (g := gb214) (o := .cells #[.slice A0_0 l0_0.length c0_0, .slice A0_1 l0_1.length c0_1] 63 (0, 0)) (by (with_reducible repeat (first | refine blk_drewN ?_ _ | refine blk_drew ?_ | refine blk_alloc ?_ _)); exact BK214.out)) : gb214 ≠ gb226)); have n12_ := Aside0.mk ((by rw [hg]; exact Nat.ne_of_gt (blk_lt (g := gb214) (o := .cells #[.slice A0_0 l0_0.length c0_0, .slice A0_1 l0_1.length c0_1] 63 (0, 0)) (by (with_reducible repeat (first | refine blk_drewN ?_ _ | refine blk_drew ?_ | refine blk_alloc ?_ _)); exact BK214.out)) : gb226 ≠ gb214)); have n13_ := Aside0.mk ((by rw [hg]; exact Nat.ne_of_lt (blk_lt (g := gb215) (o := .cells #[.slice A0_2 l0_2.length c0_2, .slice A0_3 l0_3.length c0_3] 63 (0, 0)) (by (with_reducible repeat (first | refine blk_drewN ?_ _ | refine blk_drew ?_ | refine blk_alloc ?_ _)); exact BK215.out)) : gb215 ≠ gb226)); have n14_ := Aside0.mk ((by rw [hg]; exact Nat.ne_of_gt (blk_lt (g := gb215) (o := .cells #[.slice A0_2 l0_2.length c0_2, .slice A0_3 l0_3.length c0_3] 63 (0, 0)) (by (with_reducible repeat (first | refine blk_drewN ?_ _ | refine blk_drew ?_ | refine blk_alloc ?_ _)); exact BK215.out)) : gb226 ≠ gb215)); clear HO221; clear HO224; clear BK213; clear BK214; clear BK215; clear HB; have HO221 := n0_; have HO224 := n1_; have BK213 := n2_; have BK214 := n3_; have BK215 := n4_; have HB := n5_; have BK226 := n6_; have GW226 := n7_; have GE226 := n8_; have NB213_226 := n9_; have NB226_213 := n10_; have NB214_226 := n11_; have NB226_214 := n12_; have NB215_226 := n13_; have NB226_215 := n14_; clear n0_ n1_ n2_ n3_ n4_ n5_ n6_ n7_ n8_ n9_ n10_ n11_ n12_ n13_ n14_; clear hb hbox hg; obtain ⟨Ao37, co37, eo37⟩ := Kd.R_slice HO221.out; subst eo37; have hnb38 := NB226_213.out; have hnc38 := NB213_226.out; have hnb39 := NB226_214.out; have hnc39 := NB214_226.out; have hnb40 := NB226_215.out; have hnc40 := NB215_226.out; have hcz41_0 : w36.cell? ⟨gb226, 0, none⟩ = some (.slice none 0 0) := (blk_cell BK226.out 0).trans rfl; have hcz41_1 : w36.cell? ⟨gb226, 1, none⟩ = some (.slice none 0 0) := (blk_cell BK226.out 1).trans rfl; have hfz41_0 := blk_frozen BK226.out 0; have hfz41_1 := blk_frozen BK226.out 1; obtain ⟨Ao42, co42, eo42⟩ := Kd.R_slice HO224.out; subst eo42) | ((with_reducible refine gate_callee (f := 36) rfl ?_); refine goesL_ (some 43) rfl rfl Try.func36 (by kernel_rfl) rfl #[.int .i64 a0_4] rfl (by (try simp only [List.map_toArray, List.map_cons, List.map_nil]); first | done | rfl | (simp only [List.length_drop, List.length_take]; rfl)) ?_; (with_reducible refine (assartref02_New.calls kj2 a0_4 t227 t230 t233 _ A32.out).mono ?_); rintro e w43 ⟨v228, v231, rfl, ho0, ho1, hb⟩; refine ⟨_, rfl, ?_⟩; have n0_ := Aside0.mk (Kd.R_elder' (by (with_reducible repeat (first | apply Kd.R_alloc | apply Kd.R_drewN | apply Kd.R_drew)); exact (Kd.R_mono (Kd.R_far (p := ⟨gb226, 1, none⟩) (Kd.R_far (p := ⟨gb226, 0, none⟩) (Kd.R_types HO221.out BK226.out (by decide)) (fun _ hk => hk.2) (.slice Ao37 t219.length co37)) (fun _ hk => hk.2) (.slice Ao42 t222.length co42)) (fun _ h_ => h_.1))) (Kd.R_base ho0) hb); have n1_ := Aside0.mk (Kd.R_elder' (by (with_reducible repeat (first | apply Kd.R_alloc | apply Kd.R_drewN | apply Kd.R_drew)); exact (Kd.R_mono (Kd.R_far (p := ⟨gb226, 1, none⟩) (Kd.R_far (p := ⟨gb226, 0, none⟩) (Kd.R_types HO224.out BK226.out (by decide)) (fun _ hk => hk.2) (.slice Ao37 t219.length co37)) (fun _ hk => hk.2) (.slice Ao42 t222.length co42)) (fun _ h_ => h_.1))) (Kd.R_base ho1) hb); have n2_ := Aside0.mk (Kd.R_lower (Kd.R_new' ho0 (Kd.R_lt (by (with_reducible repeat (first | apply Kd.R_alloc | apply Kd.R_drewN | apply Kd.R_drew)); exact (Kd.R_mono (Kd.R_far (p := ⟨gb226, 1, none⟩) (Kd.R_far (p := ⟨gb226, 0, none⟩) (Kd.R_types HO221.out BK226.out (by decide)) (fun _ hk => hk.2) (.slice Ao37 t219.length co37)) (fun _ hk => hk.2) (.slice Ao42 t222.length co42)) (fun _ h_ => h_.1))))) (below_size (by repeat (first | (with_reducible first | exact HB.out | apply below_alloc | apply pw_below_drewN | apply below_drew1 | refine below_set ?_ GE213.out | refine below_set ?_ GE214.out | refine below_set ?_ GE215.out | refine below_set ?_ GE226.out) | exact HB.out)))); have n3_ := Aside0.mk (Kd.R_lower (Kd.R_new' ho1 (Kd.R_lt (by (with_reducible repeat (first | apply Kd.R_alloc | apply Kd.R_drewN | apply Kd.R_drew)); exact (Kd.R_mono (Kd.R_far (p := ⟨gb226, 1, none⟩) (Kd.R_far (p := ⟨gb226, 0, none⟩) (Kd.R_types HO224.out BK226.out (by decide)) (fun _ hk => hk.2) (.slice Ao37 t219.length co37)) (fun _ hk => hk.2) (.slice Ao42 t222.length co42)) (fun _ h_ => h_.1))))) (below_size (by repeat (first | (with_reducible first | exact HB.out | apply below_alloc | apply pw_below_drewN | apply below_drew1 | refine below_set ?_ GE213.out | refine below_set ?_ GE214.out | refine below_set ?_ GE215.out | refine below_set ?_ GE226.out) | exact HB.out)))); have n4_ := Aside0.mk (blk_below (g := gb213) (o := .cells #[.slice A0_0 l0_0.length c0_0, .slice A0_1 l0_1.length c0_1, .slice A0_2 l0_2.length c0_2, .slice A0_3 l0_3.length c0_3, .int .i64 a0_4, .int .i64 a0_5] 65 (0, 0)) (by (with_reducible repeat (first | refine blk_drewN ?_ _ | refine blk_drew ?_ | refine blk_alloc ?_ _)); refine blk_far ?_ NB213_226.out _; (with_reducible repeat (first | refine blk_drewN ?_ _ | refine blk_drew ?_ | refine blk_alloc ?_ _)); refine blk_far ?_ NB213_226.out _; (with_reducible repeat (first | refine blk_drewN ?_ _ | refine blk_drew ?_ | refine blk_alloc ?_ _)); exact BK213.out) hb); have n5_ := Aside0.mk (blk_below (g := gb214) (o := .cells #[.slice A0_0 l0_0.length c0_0, .slice A0_1 l0_1.length c0_1] 63 (0, 0)) (by (with_reducible repeat (first | refine blk_drewN ?_ _ | refine blk_drew ?_ | refine blk_alloc ?_ _)); refine blk_far ?_ NB214_226.out _; (with_reducible repeat (first | refine blk_drewN ?_ _ | refine blk_drew ?_ | refine blk_alloc ?_ _)); refine blk_far ?_ NB214_226.out _; (with_reducible repeat (first | refine blk_drewN ?_ _ | refine blk_drew ?_ | refine blk_alloc ?_ _)); exact BK214.out) hb); have n6_ := Aside0.mk (blk_below (g := gb215) (o := .cells #[.slice A0_2 l0_2.length c0_2, .slice A0_3 l0_3.length c0_3] 63 (0, 0)) (by (with_reducible repeat (first | refine blk_drewN ?_ _ | refine blk_drew ?_ | refine blk_alloc ?_ _)); refine blk_far ?_ NB215_226.out _; (with_reducible repeat (first | refine blk_drewN ?_ _ | refine blk_drew ?_ | refine blk_alloc ?_ _)); refine blk_far ?_ NB215_226.out _; (with_reducible repeat (first | refine blk_drewN ?_ _ | refine blk_drew ?_ | refine blk_alloc ?_ _)); exact BK215.out) hb); have n7_ := Aside0.mk (blk_below (g := gb226) (o := .cells #[.slice Ao37 t219.length co37, .slice Ao42 t222.length co42] 63 (0, 0)) (by (with_reducible repeat (first | refine blk_drewN ?_ _ | refine blk_drew ?_ | refine blk_alloc ?_ _)); refine blk_put (cs := #[.slice Ao37 t219.length co37, .slice none 0 0]) ?_ 1 _ rfl; (with_reducible repeat (first | refine blk_drewN ?_ _ | refine blk_drew ?_ | refine blk_alloc ?_ _)); refine blk_put (cs := #[.slice none 0 0, .slice none 0 0]) ?_ 0 _ rfl; (with_reducible repeat (first | refine blk_drewN ?_ _ | refine blk_drew ?_ | refine blk_alloc ?_ _)); exact BK226.out) hb); have n8_ := Aside0.mk (below_step (by repeat (first | (with_reducible first | exact HB.out | apply below_alloc | apply pw_below_drewN | apply below_drew1 | refine below_set ?_ GE213.out | refine below_set ?_ GE214.out | refine below_set ?_ GE215.out | refine below_set ?_ GE226.out) | exact HB.out)) hb); clear HO221; clear HO224; clear BK213; clear BK214; clear BK215; clear BK226; clear HB; have HO221 := n0_; have HO224 := n1_; have HO229 := n2_; have HO232 := n3_; have BK213 := n4_; have BK214 := n5_; have BK215 := n6_; have BK226 := n7_; have HB := n8_; clear n0_ n1_ n2_ n3_ n4_ n5_ n6_ n7_ n8_; (try clear hb); (try clear hb2); (try clear hk); (try clear hi); (try clear ho0); (try clear ho1)) | ((with_reducible refine gate_dst (N := 10) rfl ?_); refine box_event ?hg (N := 10) ?hd (cs := #[.slice none 0 0, .slice none 0 0]) (t := 63) ?hr ?_; (case hd => rfl); (case hg => rfl); (case hr => first | (go_simp; done) | (go_simp; rfl)); intro gb234 hg w44 hbox hb; have n0_ := Aside0.mk (Kd.R_below (by (with_reducible repeat (first | apply Kd.R_alloc | apply Kd.R_drewN | apply Kd.R_drew)); exact HO221.out) hb); have n1_ := Aside0.mk (Kd.R_below (by (with_reducible repeat (first | apply Kd.R_alloc | apply Kd.R_drewN | apply Kd.R_drew)); exact HO224.out) hb); have n2_ := Aside0.mk (Kd.R_below (by (with_reducible repeat (first | apply Kd.R_alloc | apply Kd.R_drewN | apply Kd.R_drew)); exact HO229.out) hb); have n3_ := Aside0.mk (Kd.R_below (by (with_reducible repeat (first | apply Kd.R_alloc | apply Kd.R_drewN | apply Kd.R_drew)); exact HO232.out) hb); have n4_ := Aside0.mk (blk_below (g := gb213) (o := .cells #[.slice A0_0 l0_0.length c0_0, .slice A0_1 l0_1.length c0_1, .slice A0_2 l0_2.length c0_2, .slice A0_3 l0_3.length c0_3, .int .i64 a0_4, .int .i64 a0_5] 65 (0, 0)) (by (with_reducible repeat (first | refine blk_drewN ?_ _ | refine blk_drew ?_ | refine blk_alloc ?_ _)); exact BK213.out) hb); have n5_ := Aside0.mk (blk_below (g := gb214) (o := .cells #[.slice A0_0 l0_0.length c0_0, .slice A0_1 l0_1.length c0_1] 63 (0, 0)) (by (with_reducible repeat (first | refine blk_drewN ?_ _ | refine blk_drew ?_ | refine blk_alloc ?_ _)); exact BK214.out) hb); have n6_ := Aside0.mk (blk_below (g := gb215) (o := .cells #[.slice A0_2 l0_2.length c0_2, .slice A0_3 l0_3.length c0_3] 63 (0, 0)) (by (with_reducible repeat (first | refine blk_drewN ?_ _ | refine blk_drew ?_ | refine blk_alloc ?_ _)); exact BK215.out) hb); have n7_ := Aside0.mk (blk_below (g := gb226) (o := .cells #[.slice Ao37 t219.length co37, .slice Ao42 t222.length co42] 63 (0, 0)) (by (with_reducible repeat (first | refine blk_drewN ?_ _ | refine blk_drew ?_ | refine blk_alloc ?_ _)); exact BK226.out) hb); have n8_ := Aside0.mk (below_step (by repeat (first | (with_reducible first | exact HB.out | apply below_alloc | apply pw_below_drewN | apply below_drew1 | refine below_set ?_ GE213.out | refine below_set ?_ GE214.out | refine below_set ?_ GE215.out | refine below_set ?_ GE226.out) | exact HB.out)) hb); have n9_ := Aside0.mk (hbox); have n10_ := Aside0.mk ((by rw [hg]; exact (below_size (by repeat (first | (with_reducible first | exact HB.out | apply below_alloc | apply pw_below_drewN | apply below_drew1 | refine below_set ?_ GE213.out | refine below_set ?_ GE214.out | refine below_set ?_ GE215.out | refine below_set ?_ GE226.out) | exact HB.out))) : w.heap.size ≤ gb234)); have n11_ := Aside0.mk ((by rw [hg]; exact (below_size (by repeat (first | (with_reducible first | exact HB.out | apply below_alloc | apply pw_below_drewN | apply below_drew1 | refine below_set ?_ GE213.out | refine below_set ?_ GE214.out | refine below_set ?_ GE215.out | refine below_set ?_ GE226.out) | exact HB.out))) : w.heap.size ≤ gb234)); have n12_ := Aside0.mk ((by rw [hg]; exact Nat.ne_of_lt (blk_lt (g := gb213) (o := .cells #[.slice A0_0 l0_0.length c0_0, .slice A0_1 l0_1.length c0_1, .slice A0_2 l0_2.length c0_2, .slice A0_3 l0_3.length c0_3, .int .i64 a0_4, .int .i64 a0_5] 65 (0, 0)) (by (with_reducible repeat (first | refine blk_drewN ?_ _ | refine blk_drew ?_ | refine blk_alloc ?_ _)); exact BK213.out)) : gb213 ≠ gb234)); have n13_ := Aside0.mk ((by rw [hg]; exact Nat.ne_of_gt (blk_lt (g := gb213) (o := .cells #[.slice A0_0 l0_0.length c0_0, .slice A0_1 l0_1.length c0_1, .slice A0_2 l0_2.length c0_2, .slice A0_3 l0_3.length c0_3, .int .i64 a0_4, .int .i64 a0_5] 65 (0, 0)) (by (with_reducible repeat (first | refine blk_drewN ?_ _ | refine blk_drew ?_ | refine blk_alloc ?_ _)); exact BK213.out)) : gb234 ≠ gb213)); have n14_ := Aside0.mk ((by rw [hg]; exact Nat.ne_of_lt (blk_lt (g := gb214) (o := .cells #[.slice A0_0 l0_0.length c0_0, .slice A0_1 l0_1.length c0_1] 63 (0, 0)) (by (with_reducible repeat (first | refine blk_drewN ?_ _ | refine blk_drew ?_ | refine blk_alloc ?_ _)); exact BK214.out)) : gb214 ≠ gb234)); have n15_ := Aside0.mk ((by rw [hg]; exact Nat.ne_of_gt (blk_lt (g := gb214) (o := .cells #[.slice A0_0 l0_0.length c0_0, .slice A0_1 l0_1.length c0_1] 63 (0, 0)) (by (with_reducible repeat (first | refine blk_drewN ?_ _ | refine blk_drew ?_ | refine blk_alloc ?_ _)); exact BK214.out)) : gb234 ≠ gb214)); have n16_ := Aside0.mk ((by rw [hg]; exact Nat.ne_of_lt (blk_lt (g := gb215) (o := .cells #[.slice A0_2 l0_2.length c0_2, .slice A0_3 l0_3.length c0_3] 63 (0, 0)) (by (with_reducible repeat (first | refine blk_drewN ?_ _ | refine blk_drew ?_ | refine blk_alloc ?_ _)); exact BK215.out)) : gb215 ≠ gb234)); have n17_ := Aside0.mk ((by rw [hg]; exact Nat.ne_of_gt (blk_lt (g := gb215) (o := .cells #[.slice A0_2 l0_2.length c0_2, .slice A0_3 l0_3.length c0_3] 63 (0, 0)) (by (with_reducible repeat (first | refine blk_drewN ?_ _ | refine blk_drew ?_ | refine blk_alloc ?_ _)); exact BK215.out)) : gb234 ≠ gb215)); have n18_ := Aside0.mk ((by rw [hg]; exact Nat.ne_of_lt (blk_lt (g := gb226) (o := .cells #[.slice Ao37 t219.length co37, .slice Ao42 t222.length co42] 63 (0, 0)) (by (with_reducible repeat (first | refine blk_drewN ?_ _ | refine blk_drew ?_ | refine blk_alloc ?_ _)); exact BK226.out)) : gb226 ≠ gb234)); have n19_ := Aside0.mk ((by rw [hg]; exact Nat.ne_of_gt (blk_lt (g := gb226) (o := .cells #[.slice Ao37 t219.length co37, .slice Ao42 t222.length co42] 63 (0, 0)) (by (with_reducible repeat (first | refine blk_drewN ?_ _ | refine blk_drew ?_ | refine blk_alloc ?_ _)); exact BK226.out)) : gb234 ≠ gb226)); clear HO221; clear HO224; clear HO229; clear HO232; clear BK213; clear BK214; clear BK215; clear BK226; clear HB; have HO221 := n0_; have HO224 := n1_; have HO229 := n2_; have HO232 := n3_; have BK213 := n4_; have BK214 := n5_; have BK215 := n6_; have BK226 := n7_; have HB := n8_; have BK234 := n9_; have GW234 := n10_; have GE234 := n11_; have NB213_234 := n12_; have NB234_213 := n13_; have NB214_234 := n14_; have NB234_214 := n15_; have NB215_234 := n16_; have NB234_215 := n17_; have NB226_234 := n18_; have NB234_226 := n19_; clear n0_ n1_ n2_ n3_ n4_ n5_ n6_ n7_ n8_ n9_ n10_ n11_ n12_ n13_ n14_ n15_ n16_ n17_ n18_ n19_; clear hb hbox hg; obtain ⟨Ao45, co45, eo45⟩ := Kd.R_slice HO229.out; subst eo45; have hnb46 := NB234_213.out; have hnc46 := NB213_234.out; have hnb47 := NB234_214.out; have hnc47 := NB214_234.out; have hnb48 := NB234_215.out; have hnc48 := NB215_234.out; have hnb49 := NB234_226.out; have hnc49 := NB226_234.out; have hcz50_0 : w44.cell? ⟨gb234, 0, none⟩ = some (.slice none 0 0) := (blk_cell BK234.out 0).trans rfl; have hcz50_1 : w44.cell? ⟨gb234, 1, none⟩ = some (.slice none 0 0) := (blk_cell BK234.out 1).trans rfl; have hfz50_0 := blk_frozen BK234.out 0; have hfz50_1 := blk_frozen BK234.out 1; obtain ⟨Ao51, co51, eo51⟩ := Kd.R_slice HO232.out; subst eo51; have hnb52 := NB214_213.out; have hnc52 := NB213_214.out; have hnb53 := NB214_215.out; have hnc53 := NB215_214.out; have hcz54_0 : w44.cell? ⟨gb214, 0, none⟩ = some (.slice A0_0 l0_0.length c0_0) := (blk_cell BK214.out 0).trans rfl; have hcz54_1 : w44.cell? ⟨gb214, 1, none⟩ = some (.slice A0_1 l0_1.length c0_1) := (blk_cell BK214.out 1).trans rfl; have hfz54_0 := blk_frozen BK214.out 0; have hfz54_1 := blk_frozen BK214.out 1) | ((with_reducible refine gate_callee (f := 37) rfl ?_); refine goesL_ (some 47) rfl rfl Try.func37 (by kernel_rfl) rfl #[.agg #[.slice A0_0 l0_0.length c0_0, .slice A0_1 l0_1.length c0_1]] rfl (by (try simp only [List.map_toArray, List.map_cons, List.map_nil]); first | done | rfl | (simp only [List.length_drop, List.length_take]; rfl)) ?_; (with_reducible refine (assartref02_Right.calls kj2 _ _ l0_0 _ _ l0_1 t235 _ ?side1 ?side2 ?side3 ?side4 A33.out).mono ?_); (case side1 => exact Kd.C_below HR0_0.out (by repeat (first | (with_reducible first | exact HB.out | apply below_alloc | apply pw_below_drewN | apply below_drew1 | refine below_set ?_ GE213.out | refine below_set ?_ GE214.out | refine below_set ?_ GE215.out | refine below_set ?_ GE226.out | refine below_set ?_ GE234.out) | exact HB.out))); (case side2 => exact HC0_0.out); (case side3 => exact Kd.C_below HR0_1.out (by repeat (first | (with_reducible first | exact HB.out | apply below_alloc | apply pw_below_drewN | apply below_drew1 | refine below_set ?_ GE213.out | refine below_set ?_ GE214.out | refine below_set ?_ GE215.out | refine below_set ?_ GE226.out | refine below_set ?_ GE234.out) | exact HB.out))); (case side4 => exact HC0_1.out); rintro e w55 ⟨rfl, hb⟩; refine ⟨_, rfl, ?_⟩; have n0_ := Aside0.mk (Kd.R_below (by (with_reducible repeat (first | apply Kd.R_alloc | apply Kd.R_drewN | apply Kd.R_drew)); exact (Kd.R_mono (Kd.R_far (p := ⟨gb234, 1, none⟩) (Kd.R_far (p := ⟨gb234, 0, none⟩) (Kd.R_types HO221.out BK234.out (by decide)) (fun _ hk => hk.2) (.slice Ao45 t227.length co45)) (fun _ hk => hk.2) (.slice Ao51 t230.length co51)) (fun _ h_ => h_.1))) hb); have n1_ := Aside0.mk (Kd.R_below (by (with_reducible repeat (first | apply Kd.R_alloc | apply Kd.R_drewN | apply Kd.R_drew)); exact (Kd.R_mono (Kd.R_far (p := ⟨gb234, 1, none⟩) (Kd.R_far (p := ⟨gb234, 0, none⟩) (Kd.R_types HO224.out BK234.out (by decide)) (fun _ hk => hk.2) (.slice Ao45 t227.length co45)) (fun _ hk => hk.2) (.slice Ao51 t230.length co51)) (fun _ h_ => h_.1))) hb); have n2_ := Aside0.mk (Kd.R_below (by (with_reducible repeat (first | apply Kd.R_alloc | apply Kd.R_drewN | apply Kd.R_drew)); exact (Kd.R_mono (Kd.R_far (p := ⟨gb234, 1, none⟩) (Kd.R_far (p := ⟨gb234, 0, none⟩) (Kd.R_types HO229.out BK234.out (by decide)) (fun _ hk => hk.2) (.slice Ao45 t227.length co45)) (fun _ hk => hk.2) (.slice Ao51 t230.length co51)) (fun _ h_ => h_.1))) hb); have n3_ := Aside0.mk (Kd.R_below (by (with_reducible repeat (first | apply Kd.R_alloc | apply Kd.R_drewN | apply Kd.R_drew)); exact (Kd.R_mono (Kd.R_far (p := ⟨gb234, 1, none⟩) (Kd.R_far (p := ⟨gb234, 0, none⟩) (Kd.R_types HO232.out BK234.out (by decide)) (fun _ hk => hk.2) (.slice Ao45 t227.length co45)) (fun _ hk => hk.2) (.slice Ao51 t230.length co51)) (fun _ h_ => h_.1))) hb); have n4_ := Aside0.mk (blk_below (g := gb213) (o := .cells #[.slice A0_0 l0_0.length c0_0, .slice A0_1 l0_1.length c0_1, .slice A0_2 l0_2.length c0_2, .slice A0_3 l0_3.length c0_3, .int .i64 a0_4, .int .i64 a0_5] 65 (0, 0)) (by (with_reducible repeat (first | refine blk_drewN ?_ _ | refine blk_drew ?_ | refine blk_alloc ?_ _)); refine blk_far ?_ NB213_234.out _; (with_reducible repeat (first | refine blk_drewN ?_ _ | refine blk_drew ?_ | refine blk_alloc ?_ _)); refine blk_far ?_ NB213_234.out _; (with_reducible repeat (first | refine blk_drewN ?_ _ | refine blk_drew ?_ | refine blk_alloc ?_ _)); exact BK213.out) hb); have n5_ := Aside0.mk (blk_below (g := gb214) (o := .cells #[.slice A0_0 l0_0.length c0_0, .slice A0_1 l0_1.length c0_1] 63 (0, 0)) (by (with_reducible repeat (first | refine blk_drewN ?_ _ | refine blk_drew ?_ | refine blk_alloc ?_ _)); refine blk_far ?_ NB214_234.out _; (with_reducible repeat (first | refine blk_drewN ?_ _ | refine blk_drew ?_ | refine blk_alloc ?_ _)); refine blk_far ?_ NB214_234.out _; (with_reducible repeat (first | refine blk_drewN ?_ _ | refine blk_drew ?_ | refine blk_alloc ?_ _)); exact BK214.out) hb); have n6_ := Aside0.mk (blk_below (g := gb215) (o := .cells #[.slice A0_2 l0_2.length c0_2, .slice A0_3 l0_3.length c0_3] 63 (0, 0)) (by (with_reducible repeat (first | refine blk_drewN ?_ _ | refine blk_drew ?_ | refine blk_alloc ?_ _)); refine blk_far ?_ NB215_234.out _; (with_reducible repeat (first | refine blk_drewN ?_ _ | refine blk_drew ?_ | refine blk_alloc ?_ _)); refine blk_far ?_ NB215_234.out _; (with_reducible repeat (first | refine blk_drewN ?_ _ | refine blk_drew ?_ | refine blk_alloc ?_ _)); exact BK215.out) hb); have n7_ := Aside0.mk (blk_below (g := gb226) (o := .cells #[.slice Ao37 t219.length co37, .slice Ao42 t222.length co42] 63 (0, 0)) (by (with_reducible repeat (first | refine blk_drewN ?_ _ | refine blk_drew ?_ | refine blk_alloc ?_ _)); refine blk_far ?_ NB226_234.out _; (with_reducible repeat (first | refine blk_drewN ?_ _ | refine blk_drew ?_ | refine blk_alloc ?_ _)); refine blk_far ?_ NB226_234.out _; (with_reducible repeat (first | refine blk_drewN ?_ _ | refine blk_drew ?_ | refine blk_alloc ?_ _)); exact BK226.out) hb); have n8_ := Aside0.mk (blk_below (g := gb234) (o := .cells #[.slice Ao45 t227.length co45, .slice Ao51 t230.length co51] 63 (0, 0)) (by (with_reducible repeat (first | refine blk_drewN ?_ _ | refine blk_drew ?_ | refine blk_alloc ?_ _)); refine blk_put (cs := #[.slice Ao45 t227.length co45, .slice none 0 0]) ?_ 1 _ rfl; (with_reducible repeat (first | refine blk_drewN ?_ _ | refine blk_drew ?_ | refine blk_alloc ?_ _)); refine blk_put (cs := #[.slice none 0 0, .slice none 0 0]) ?_ 0 _ rfl; (with_reducible repeat (first | refine blk_drewN ?_ _ | refine blk_drew ?_ | refine blk_alloc ?_ _)); exact BK234.out) hb); have n9_ := Aside0.mk (below_step (by repeat (first | (with_reducible first | exact HB.out | apply below_alloc | apply pw_below_drewN | apply below_drew1 | refine below_set ?_ GE213.out | refine below_set ?_ GE214.out | refine below_set ?_ GE215.out | refine below_set ?_ GE226.out | refine below_set ?_ GE234.out) | exact HB.out)) hb); clear HO221; clear HO224; clear HO229; clear HO232; clear BK213; clear BK214; clear BK215; clear BK226; clear BK234; clear HB; have HO221 := n0_; have HO224 := n1_; have HO229 := n2_; have HO232 := n3_; have BK213 := n4_; have BK214 := n5_; have BK215 := n6_; have BK226 := n7_; have BK234 := n8_; have HB := n9_; clear n0_ n1_ n2_ n3_ n4_ n5_ n6_ n7_ n8_ n9_; (try clear hb); (try clear hb2); (try clear hk); (try clear hi)))
        (try simp only [Act.put, List.setIfInBounds_toArray, List.set_cons_zero, List.set_cons_succ])
        go_cut [62] (fun v62 wc => ∃ (kq : Nat) (x62_33 : Bool), v62 = .bool x62_33 ∧ Aside0 (assartlaw02_DiskTells.j1 kq a0_5 t216 t235 x62_33 l0_0 l0_1 l0_2 l0_3 = some r) ∧ Aside0 (kq ≤ kj2) ∧ Aside0 (Kd.R Kd.string 9 wc w.heap.size (fun k_ => some k_ ≠ ((.slice Ao45 t227.length co45) : Value).ownBlock) (.slice Ao37 t219.length co37) t219) ∧ Aside0 (Kd.R k79 79 wc w.heap.size (fun k_ => some k_ ≠ ((.slice Ao51 t230.length co51) : Value).ownBlock) (.slice Ao42 t222.length co42) t222) ∧ Aside0 (Kd.R Kd.string 9 wc w.heap.size (fun k_ => some k_ ≠ ((.slice Ao37 t219.length co37) : Value).ownBlock) (.slice Ao45 t227.length co45) t227) ∧ Aside0 (Kd.R k79 79 wc w.heap.size (fun k_ => some k_ ≠ ((.slice Ao42 t222.length co42) : Value).ownBlock) (.slice Ao51 t230.length co51) t230) ∧ Aside0 (wc.heap[gb213]? = some (.cells #[(.slice A0_0 l0_0.length c0_0), (.slice A0_1 l0_1.length c0_1), (.slice A0_2 l0_2.length c0_2), (.slice A0_3 l0_3.length c0_3), .int .i64 a0_4, .int .i64 a0_5] 65 (0, 0))) ∧ Aside0 (wc.heap[gb214]? = some (.cells #[(.slice A0_0 l0_0.length c0_0), (.slice A0_1 l0_1.length c0_1)] 63 (0, 0))) ∧ Aside0 (wc.heap[gb215]? = some (.cells #[(.slice A0_2 l0_2.length c0_2), (.slice A0_3 l0_3.length c0_3)] 63 (0, 0))) ∧ Aside0 (wc.heap[gb226]? = some (.cells #[(.slice Ao37 t219.length co37), (.slice Ao42 t222.length co42)] 63 (0, 0))) ∧ Aside0 (wc.heap[gb234]? = some (.cells #[(.slice Ao45 t227.length co45), (.slice Ao51 t230.length co51)] 63 (0, 0))) ∧ Aside0 (Below w.heap.size w wc))
        case first =>
          have H := HC34.out
          clear HC34
          replace H := Option.bind_eq_some_iff.mp H
          obtain ⟨t236, A560, H⟩ := H
          replace H : (if t236 = true then (if t225 = t233 then ((disk_Right.f l0_0 l0_1).bind fun t237 => (assartlaw02_DiskTells.j1 kj2 a0_5 t216 t235 (t237 != t235) l0_0 l0_1 l0_2 l0_3)) else (assartlaw02_DiskTells.j1 kj2 a0_5 t216 t235 true l0_0 l0_1 l0_2 l0_3)) else (assartlaw02_DiskTells.j1 kj2 a0_5 t216 t235 true l0_0 l0_1 l0_2 l0_3)) = some r := H
          have A56 := Aside0.mk A560
          clear A560
          by_cases c57 : t236 = true
          · subst c57
            have H1 : (if t225 = t233 then ((disk_Right.f l0_0 l0_1).bind fun t237 => (assartlaw02_DiskTells.j1 kj2 a0_5 t216 t235 (t237 != t235) l0_0 l0_1 l0_2 l0_3)) else (assartlaw02_DiskTells.j1 kj2 a0_5 t216 t235 true l0_0 l0_1 l0_2 l0_3)) = some r := by rw [if_pos rfl] at H; exact H
            clear H
            have H := H1
            clear H1
            by_cases c58 : t225 = t233
            · rw [if_pos c58] at H
              have c58b0 : (t225 == t233) = true := beq_iff_eq.mpr c58
              have c58b1 : (t225 != t233) = false := bne_eq_false_iff_eq.mpr c58
              clear c58
              (first | rw [c58b0] | (simp only [i64_w, i32_w]; rw [c58b0]) | skip)
              replace H := Option.bind_eq_some_iff.mp H
              obtain ⟨t237, A590, H⟩ := H
              replace H : (assartlaw02_DiskTells.j1 kj2 a0_5 t216 t235 (t237 != t235) l0_0 l0_1 l0_2 l0_3) = some r := H
              have A59 := Aside0.mk A590
              clear A590
              have H' := Aside0.mk H
              clear H
              have hnb60 := NB226_213.out
              have hnc60 := NB213_226.out
              have hnb61 := NB226_214.out
              have hnc61 := NB214_226.out
              have hnb62 := NB226_215.out
              have hnc62 := NB215_226.out
              have hnb63 := NB226_234.out
              have hnc63 := NB234_226.out
              have hcz64_0 : w55.cell? ⟨gb226, 0, none⟩ = some (.slice Ao37 t219.length co37) := (blk_cell BK226.out 0).trans rfl
              have hcz64_1 : w55.cell? ⟨gb226, 1, none⟩ = some (.slice Ao42 t222.length co42) := (blk_cell BK226.out 1).trans rfl
              have hfz64_0 := blk_frozen BK226.out 0
              have hfz64_1 := blk_frozen BK226.out 1
              have hnb65 := NB234_213.out
              have hnc65 := NB213_234.out
              have hnb66 := NB234_214.out
              have hnc66 := NB214_234.out
              have hnb67 := NB234_215.out
              have hnc67 := NB215_234.out
              have hcz68_0 : w55.cell? ⟨gb234, 0, none⟩ = some (.slice Ao45 t227.length co45) := (blk_cell BK234.out 0).trans rfl
              have hcz68_1 : w55.cell? ⟨gb234, 1, none⟩ = some (.slice Ao51 t230.length co51) := (blk_cell BK234.out 1).trans rfl
              have hfz68_0 := blk_frozen BK234.out 0
              have hfz68_1 := blk_frozen BK234.out 1
              go_wp2_with (first | ((with_reducible refine gate_callee (f := 38) rfl ?_); refine goesL_ (some 50) rfl rfl Try.func38 (by kernel_rfl) rfl #[.agg #[.slice Ao37 t219.length co37, .slice Ao42 t222.length co42], .agg #[.slice Ao45 t227.length co45, .slice Ao51 t230.length co51]] rfl (by (try simp only [List.map_toArray, List.map_cons, List.map_nil]); first | done | rfl | (simp only [List.length_drop, List.length_take]; rfl)) ?_; (with_reducible refine (assartref02_Same.calls kj2 _ _ t219 _ _ t222 _ _ t227 _ _ t230 true _ ?side1 ?side2 ?side3 ?side4 ?side5 ?side6 ?side7 ?side8 A56.out).mono ?_); (case side1 => repeat (first | exact (Kd.R_reads' HO221.out).2.2 | (with_reducible refine Kd.C_alloc ?_ _) | (with_reducible refine Kd.C_drewN ?_ _) | (with_reducible refine Kd.C_drew ?_))); (case side2 => exact (Kd.R_reads' HO221.out).2.1); (case side3 => repeat (first | exact (Kd.R_reads' HO224.out).2.2 | (with_reducible refine Kd.C_alloc ?_ _) | (with_reducible refine Kd.C_drewN ?_ _) | (with_reducible refine Kd.C_drew ?_))); (case side4 => exact (Kd.R_reads' HO224.out).2.1); (case side5 => repeat (first | exact (Kd.R_reads' HO229.out).2.2 | (with_reducible refine Kd.C_alloc ?_ _) | (with_reducible refine Kd.C_drewN ?_ _) | (with_reducible refine Kd.C_drew ?_))); (case side6 => exact (Kd.R_reads' HO229.out).2.1); (case side7 => repeat (first | exact (Kd.R_reads' HO232.out).2.2 | (with_reducible refine Kd.C_alloc ?_ _) | (with_reducible refine Kd.C_drewN ?_ _) | (with_reducible refine Kd.C_drew ?_))); (case side8 => exact (Kd.R_reads' HO232.out).2.1); rintro e w69 ⟨rfl, hb⟩; refine ⟨_, rfl, ?_⟩; have n0_ := Aside0.mk (Kd.R_below (by (with_reducible repeat (first | apply Kd.R_alloc | apply Kd.R_drewN | apply Kd.R_drew)); exact HO221.out) hb); have n1_ := Aside0.mk (Kd.R_below (by (with_reducible repeat (first | apply Kd.R_alloc | apply Kd.R_drewN | apply Kd.R_drew)); exact HO224.out) hb); have n2_ := Aside0.mk (Kd.R_below (by (with_reducible repeat (first | apply Kd.R_alloc | apply Kd.R_drewN | apply Kd.R_drew)); exact HO229.out) hb); have n3_ := Aside0.mk (Kd.R_below (by (with_reducible repeat (first | apply Kd.R_alloc | apply Kd.R_drewN | apply Kd.R_drew)); exact HO232.out) hb); have n4_ := Aside0.mk (blk_below (g := gb213) (o := .cells #[.slice A0_0 l0_0.length c0_0, .slice A0_1 l0_1.length c0_1, .slice A0_2 l0_2.length c0_2, .slice A0_3 l0_3.length c0_3, .int .i64 a0_4, .int .i64 a0_5] 65 (0, 0)) (by (with_reducible repeat (first | refine blk_drewN ?_ _ | refine blk_drew ?_ | refine blk_alloc ?_ _)); exact BK213.out) hb); have n5_ := Aside0.mk (blk_below (g := gb214) (o := .cells #[.slice A0_0 l0_0.length c0_0, .slice A0_1 l0_1.length c0_1] 63 (0, 0)) (by (with_reducible repeat (first | refine blk_drewN ?_ _ | refine blk_drew ?_ | refine blk_alloc ?_ _)); exact BK214.out) hb); have n6_ := Aside0.mk (blk_below (g := gb215) (o := .cells #[.slice A0_2 l0_2.length c0_2, .slice A0_3 l0_3.length c0_3] 63 (0, 0)) (by (with_reducible repeat (first | refine blk_drewN ?_ _ | refine blk_drew ?_ | refine blk_alloc ?_ _)); exact BK215.out) hb); have n7_ := Aside0.mk (blk_below (g := gb226) (o := .cells #[.slice Ao37 t219.length co37, .slice Ao42 t222.length co42] 63 (0, 0)) (by (with_reducible repeat (first | refine blk_drewN ?_ _ | refine blk_drew ?_ | refine blk_alloc ?_ _)); exact BK226.out) hb); have n8_ := Aside0.mk (blk_below (g := gb234) (o := .cells #[.slice Ao45 t227.length co45, .slice Ao51 t230.length co51] 63 (0, 0)) (by (with_reducible repeat (first | refine blk_drewN ?_ _ | refine blk_drew ?_ | refine blk_alloc ?_ _)); exact BK234.out) hb); have n9_ := Aside0.mk (below_step (by repeat (first | (with_reducible first | exact HB.out | apply below_alloc | apply pw_below_drewN | apply below_drew1 | refine below_set ?_ GE213.out | refine below_set ?_ GE214.out | refine below_set ?_ GE215.out | refine below_set ?_ GE226.out | refine below_set ?_ GE234.out) | exact HB.out)) hb); clear HO221; clear HO224; clear HO229; clear HO232; clear BK213; clear BK214; clear BK215; clear BK226; clear BK234; clear HB; have HO221 := n0_; have HO224 := n1_; have HO229 := n2_; have HO232 := n3_; have BK213 := n4_; have BK214 := n5_; have BK215 := n6_; have BK226 := n7_; have BK234 := n8_; have HB := n9_; clear n0_ n1_ n2_ n3_ n4_ n5_ n6_ n7_ n8_ n9_; (try clear hb); (try clear hb2); (try clear hk); (try clear hi); have hnb70 := NB214_213.out; have hnc70 := NB213_214.out; have hnb71 := NB214_215.out; have hnc71 := NB215_214.out; have hcz72_0 : w69.cell? ⟨gb214, 0, none⟩ = some (.slice A0_0 l0_0.length c0_0) := (blk_cell BK214.out 0).trans rfl; have hcz72_1 : w69.cell? ⟨gb214, 1, none⟩ = some (.slice A0_1 l0_1.length c0_1) := (blk_cell BK214.out 1).trans rfl; have hfz72_0 := blk_frozen BK214.out 0; have hfz72_1 := blk_frozen BK214.out 1) | (go_at_call 39; (with_reducible refine (disk_Right.calls _ _ l0_0 _ _ l0_1 t237 _ ?side1 ?side2 ?side3 ?side4 A59.out).mono ?_); (case side1 => repeat (first | exact (Kd.C_below HR0_0.out HB.out) | (with_reducible refine Kd.C_alloc ?_ _) | (with_reducible refine Kd.C_drewN ?_ _) | (with_reducible refine Kd.C_drew ?_))); (case side2 => exact HC0_0.out); (case side3 => repeat (first | exact (Kd.C_below HR0_1.out HB.out) | (with_reducible refine Kd.C_alloc ?_ _) | (with_reducible refine Kd.C_drewN ?_ _) | (with_reducible refine Kd.C_drew ?_))); (case side4 => exact HC0_1.out); rintro e w73 ⟨rfl, hb⟩; have n0_ := Aside0.mk (Kd.R_below (by (with_reducible repeat (first | apply Kd.R_alloc | apply Kd.R_drewN | apply Kd.R_drew)); exact HO221.out) hb); have n1_ := Aside0.mk (Kd.R_below (by (with_reducible repeat (first | apply Kd.R_alloc | apply Kd.R_drewN | apply Kd.R_drew)); exact HO224.out) hb); have n2_ := Aside0.mk (Kd.R_below (by (with_reducible repeat (first | apply Kd.R_alloc | apply Kd.R_drewN | apply Kd.R_drew)); exact HO229.out) hb); have n3_ := Aside0.mk (Kd.R_below (by (with_reducible repeat (first | apply Kd.R_alloc | apply Kd.R_drewN | apply Kd.R_drew)); exact HO232.out) hb); have n4_ := Aside0.mk (blk_below (g := gb213) (o := .cells #[.slice A0_0 l0_0.length c0_0, .slice A0_1 l0_1.length c0_1, .slice A0_2 l0_2.length c0_2, .slice A0_3 l0_3.length c0_3, .int .i64 a0_4, .int .i64 a0_5] 65 (0, 0)) (by (with_reducible repeat (first | refine blk_drewN ?_ _ | refine blk_drew ?_ | refine blk_alloc ?_ _)); exact BK213.out) hb); have n5_ := Aside0.mk (blk_below (g := gb214) (o := .cells #[.slice A0_0 l0_0.length c0_0, .slice A0_1 l0_1.length c0_1] 63 (0, 0)) (by (with_reducible repeat (first | refine blk_drewN ?_ _ | refine blk_drew ?_ | refine blk_alloc ?_ _)); exact BK214.out) hb); have n6_ := Aside0.mk (blk_below (g := gb215) (o := .cells #[.slice A0_2 l0_2.length c0_2, .slice A0_3 l0_3.length c0_3] 63 (0, 0)) (by (with_reducible repeat (first | refine blk_drewN ?_ _ | refine blk_drew ?_ | refine blk_alloc ?_ _)); exact BK215.out) hb); have n7_ := Aside0.mk (blk_below (g := gb226) (o := .cells #[.slice Ao37 t219.length co37, .slice Ao42 t222.length co42] 63 (0, 0)) (by (with_reducible repeat (first | refine blk_drewN ?_ _ | refine blk_drew ?_ | refine blk_alloc ?_ _)); exact BK226.out) hb); have n8_ := Aside0.mk (blk_below (g := gb234) (o := .cells #[.slice Ao45 t227.length co45, .slice Ao51 t230.length co51] 63 (0, 0)) (by (with_reducible repeat (first | refine blk_drewN ?_ _ | refine blk_drew ?_ | refine blk_alloc ?_ _)); exact BK234.out) hb); have n9_ := Aside0.mk (below_step (by repeat (first | (with_reducible first | exact HB.out | apply below_alloc | apply pw_below_drewN | apply below_drew1 | refine below_set ?_ GE213.out | refine below_set ?_ GE214.out | refine below_set ?_ GE215.out | refine below_set ?_ GE226.out | refine below_set ?_ GE234.out) | exact HB.out)) hb); clear HO221; clear HO224; clear HO229; clear HO232; clear BK213; clear BK214; clear BK215; clear BK226; clear BK234; clear HB; have HO221 := n0_; have HO224 := n1_; have HO229 := n2_; have HO232 := n3_; have BK213 := n4_; have BK214 := n5_; have BK215 := n6_; have BK226 := n7_; have BK234 := n8_; have HB := n9_; clear n0_ n1_ n2_ n3_ n4_ n5_ n6_ n7_ n8_ n9_; (try clear hb); (try clear hb2); (try clear hk); (try clear hi)))
              go_meet
              case rel => exact ⟨_, ((t237 != t235)), (by first | rfl | (simp; done) | (simp [*]; done)), H', ⟨by have := HJ2.out; first | omega | exact Nat.le_refl _⟩, ⟨by (with_reducible repeat (first | apply Kd.R_alloc | apply Kd.R_drewN | apply Kd.R_drew)); exact Kd.R_mono HO221.out (fun _ hk => hk.2)⟩, ⟨by (with_reducible repeat (first | apply Kd.R_alloc | apply Kd.R_drewN | apply Kd.R_drew)); exact Kd.R_mono HO224.out (fun _ hk => hk.2)⟩, ⟨by (with_reducible repeat (first | apply Kd.R_alloc | apply Kd.R_drewN | apply Kd.R_drew)); exact Kd.R_mono HO229.out (fun _ hk => hk.2)⟩, ⟨by (with_reducible repeat (first | apply Kd.R_alloc | apply Kd.R_drewN | apply Kd.R_drew)); exact Kd.R_mono HO232.out (fun _ hk => hk.2)⟩, ⟨by (with_reducible repeat (first | refine blk_drewN ?_ _ | refine blk_drew ?_ | refine blk_alloc ?_ _)); exact BK213.out⟩, ⟨by (with_reducible repeat (first | refine blk_drewN ?_ _ | refine blk_drew ?_ | refine blk_alloc ?_ _)); exact BK214.out⟩, ⟨by (with_reducible repeat (first | refine blk_drewN ?_ _ | refine blk_drew ?_ | refine blk_alloc ?_ _)); exact BK215.out⟩, ⟨by (with_reducible repeat (first | refine blk_drewN ?_ _ | refine blk_drew ?_ | refine blk_alloc ?_ _)); exact BK226.out⟩, ⟨by (with_reducible repeat (first | refine blk_drewN ?_ _ | refine blk_drew ?_ | refine blk_alloc ?_ _)); exact BK234.out⟩, ⟨by repeat (first | (with_reducible first | exact HB.out | apply below_alloc | apply pw_below_drewN | apply below_drew1 | refine below_set ?_ GE213.out | refine below_set ?_ GE214.out | refine below_set ?_ GE215.out | refine below_set ?_ GE226.out | refine below_set ?_ GE234.out) | exact HB.out)⟩⟩
            · rw [if_neg c58] at H
              have c58b0 : (t225 == t233) = false := beq_eq_false_iff_ne.mpr c58
              have c58b1 : (t225 != t233) = true := bne_iff_ne.mpr c58
              (first | rw [c58b0] | (simp only [i64_w, i32_w]; rw [c58b0]) | skip)
              have H' := Aside0.mk H
              clear H
              have hnb74 := NB226_213.out
              have hnc74 := NB213_226.out
              have hnb75 := NB226_214.out
              have hnc75 := NB214_226.out
              have hnb76 := NB226_215.out
              have hnc76 := NB215_226.out
              have hnb77 := NB226_234.out
              have hnc77 := NB234_226.out
              have hcz78_0 : w55.cell? ⟨gb226, 0, none⟩ = some (.slice Ao37 t219.length co37) := (blk_cell BK226.out 0).trans rfl
              have hcz78_1 : w55.cell? ⟨gb226, 1, none⟩ = some (.slice Ao42 t222.length co42) := (blk_cell BK226.out 1).trans rfl
              have hfz78_0 := blk_frozen BK226.out 0
              have hfz78_1 := blk_frozen BK226.out 1
              have hnb79 := NB234_213.out
              have hnc79 := NB213_234.out
              have hnb80 := NB234_214.out
              have hnc80 := NB214_234.out
              have hnb81 := NB234_215.out
              have hnc81 := NB215_234.out
              have hcz82_0 : w55.cell? ⟨gb234, 0, none⟩ = some (.slice Ao45 t227.length co45) := (blk_cell BK234.out 0).trans rfl
              have hcz82_1 : w55.cell? ⟨gb234, 1, none⟩ = some (.slice Ao51 t230.length co51) := (blk_cell BK234.out 1).trans rfl
              have hfz82_0 := blk_frozen BK234.out 0
              have hfz82_1 := blk_frozen BK234.out 1
              go_wp2_with (first | ((with_reducible refine gate_callee (f := 38) rfl ?_); refine goesL_ (some 50) rfl rfl Try.func38 (by kernel_rfl) rfl #[.agg #[.slice Ao37 t219.length co37, .slice Ao42 t222.length co42], .agg #[.slice Ao45 t227.length co45, .slice Ao51 t230.length co51]] rfl (by (try simp only [List.map_toArray, List.map_cons, List.map_nil]); first | done | rfl | (simp only [List.length_drop, List.length_take]; rfl)) ?_; (with_reducible refine (assartref02_Same.calls kj2 _ _ t219 _ _ t222 _ _ t227 _ _ t230 true _ ?side1 ?side2 ?side3 ?side4 ?side5 ?side6 ?side7 ?side8 A56.out).mono ?_); (case side1 => repeat (first | exact (Kd.R_reads' HO221.out).2.2 | (with_reducible refine Kd.C_alloc ?_ _) | (with_reducible refine Kd.C_drewN ?_ _) | (with_reducible refine Kd.C_drew ?_))); (case side2 => exact (Kd.R_reads' HO221.out).2.1); (case side3 => repeat (first | exact (Kd.R_reads' HO224.out).2.2 | (with_reducible refine Kd.C_alloc ?_ _) | (with_reducible refine Kd.C_drewN ?_ _) | (with_reducible refine Kd.C_drew ?_))); (case side4 => exact (Kd.R_reads' HO224.out).2.1); (case side5 => repeat (first | exact (Kd.R_reads' HO229.out).2.2 | (with_reducible refine Kd.C_alloc ?_ _) | (with_reducible refine Kd.C_drewN ?_ _) | (with_reducible refine Kd.C_drew ?_))); (case side6 => exact (Kd.R_reads' HO229.out).2.1); (case side7 => repeat (first | exact (Kd.R_reads' HO232.out).2.2 | (with_reducible refine Kd.C_alloc ?_ _) | (with_reducible refine Kd.C_drewN ?_ _) | (with_reducible refine Kd.C_drew ?_))); (case side8 => exact (Kd.R_reads' HO232.out).2.1); rintro e w83 ⟨rfl, hb⟩; refine ⟨_, rfl, ?_⟩; have n0_ := Aside0.mk (Kd.R_below (by (with_reducible repeat (first | apply Kd.R_alloc | apply Kd.R_drewN | apply Kd.R_drew)); exact HO221.out) hb); have n1_ := Aside0.mk (Kd.R_below (by (with_reducible repeat (first | apply Kd.R_alloc | apply Kd.R_drewN | apply Kd.R_drew)); exact HO224.out) hb); have n2_ := Aside0.mk (Kd.R_below (by (with_reducible repeat (first | apply Kd.R_alloc | apply Kd.R_drewN | apply Kd.R_drew)); exact HO229.out) hb); have n3_ := Aside0.mk (Kd.R_below (by (with_reducible repeat (first | apply Kd.R_alloc | apply Kd.R_drewN | apply Kd.R_drew)); exact HO232.out) hb); have n4_ := Aside0.mk (blk_below (g := gb213) (o := .cells #[.slice A0_0 l0_0.length c0_0, .slice A0_1 l0_1.length c0_1, .slice A0_2 l0_2.length c0_2, .slice A0_3 l0_3.length c0_3, .int .i64 a0_4, .int .i64 a0_5] 65 (0, 0)) (by (with_reducible repeat (first | refine blk_drewN ?_ _ | refine blk_drew ?_ | refine blk_alloc ?_ _)); exact BK213.out) hb); have n5_ := Aside0.mk (blk_below (g := gb214) (o := .cells #[.slice A0_0 l0_0.length c0_0, .slice A0_1 l0_1.length c0_1] 63 (0, 0)) (by (with_reducible repeat (first | refine blk_drewN ?_ _ | refine blk_drew ?_ | refine blk_alloc ?_ _)); exact BK214.out) hb); have n6_ := Aside0.mk (blk_below (g := gb215) (o := .cells #[.slice A0_2 l0_2.length c0_2, .slice A0_3 l0_3.length c0_3] 63 (0, 0)) (by (with_reducible repeat (first | refine blk_drewN ?_ _ | refine blk_drew ?_ | refine blk_alloc ?_ _)); exact BK215.out) hb); have n7_ := Aside0.mk (blk_below (g := gb226) (o := .cells #[.slice Ao37 t219.length co37, .slice Ao42 t222.length co42] 63 (0, 0)) (by (with_reducible repeat (first | refine blk_drewN ?_ _ | refine blk_drew ?_ | refine blk_alloc ?_ _)); exact BK226.out) hb); have n8_ := Aside0.mk (blk_below (g := gb234) (o := .cells #[.slice Ao45 t227.length co45, .slice Ao51 t230.length co51] 63 (0, 0)) (by (with_reducible repeat (first | refine blk_drewN ?_ _ | refine blk_drew ?_ | refine blk_alloc ?_ _)); exact BK234.out) hb); have n9_ := Aside0.mk (below_step (by repeat (first | (with_reducible first | exact HB.out | apply below_alloc | apply pw_below_drewN | apply below_drew1 | refine below_set ?_ GE213.out | refine below_set ?_ GE214.out | refine below_set ?_ GE215.out | refine below_set ?_ GE226.out | refine below_set ?_ GE234.out) | exact HB.out)) hb); clear HO221; clear HO224; clear HO229; clear HO232; clear BK213; clear BK214; clear BK215; clear BK226; clear BK234; clear HB; have HO221 := n0_; have HO224 := n1_; have HO229 := n2_; have HO232 := n3_; have BK213 := n4_; have BK214 := n5_; have BK215 := n6_; have BK226 := n7_; have BK234 := n8_; have HB := n9_; clear n0_ n1_ n2_ n3_ n4_ n5_ n6_ n7_ n8_ n9_; (try clear hb); (try clear hb2); (try clear hk); (try clear hi)))
              go_meet
              case rel => exact ⟨_, (true), (by first | rfl | (simp; done) | (simp [*]; done)), H', ⟨by have := HJ2.out; first | omega | exact Nat.le_refl _⟩, ⟨by (with_reducible repeat (first | apply Kd.R_alloc | apply Kd.R_drewN | apply Kd.R_drew)); exact Kd.R_mono HO221.out (fun _ hk => hk.2)⟩, ⟨by (with_reducible repeat (first | apply Kd.R_alloc | apply Kd.R_drewN | apply Kd.R_drew)); exact Kd.R_mono HO224.out (fun _ hk => hk.2)⟩, ⟨by (with_reducible repeat (first | apply Kd.R_alloc | apply Kd.R_drewN | apply Kd.R_drew)); exact Kd.R_mono HO229.out (fun _ hk => hk.2)⟩, ⟨by (with_reducible repeat (first | apply Kd.R_alloc | apply Kd.R_drewN | apply Kd.R_drew)); exact Kd.R_mono HO232.out (fun _ hk => hk.2)⟩, ⟨by (with_reducible repeat (first | refine blk_drewN ?_ _ | refine blk_drew ?_ | refine blk_alloc ?_ _)); exact BK213.out⟩, ⟨by (with_reducible repeat (first | refine blk_drewN ?_ _ | refine blk_drew ?_ | refine blk_alloc ?_ _)); exact BK214.out⟩, ⟨by (with_reducible repeat (first | refine blk_drewN ?_ _ | refine blk_drew ?_ | refine blk_alloc ?_ _)); exact BK215.out⟩, ⟨by (with_reducible repeat (first | refine blk_drewN ?_ _ | refine blk_drew ?_ | refine blk_alloc ?_ _)); exact BK226.out⟩, ⟨by (with_reducible repeat (first | refine blk_drewN ?_ _ | refine blk_drew ?_ | refine blk_alloc ?_ _)); exact BK234.out⟩, ⟨by repeat (first | (with_reducible first | exact HB.out | apply below_alloc | apply pw_below_drewN | apply below_drew1 | refine below_set ?_ GE213.out | refine below_set ?_ GE214.out | refine below_set ?_ GE215.out | refine below_set ?_ GE226.out | refine below_set ?_ GE234.out) | exact HB.out)⟩⟩
          · replace c57 := Bool.eq_false_iff.mpr c57
            subst c57
            have H1 : (assartlaw02_DiskTells.j1 kj2 a0_5 t216 t235 true l0_0 l0_1 l0_2 l0_3) = some r := by rw [if_neg (show ¬ (false = true) by decide)] at H; exact H
            clear H
            have H := H1
            clear H1
            have H' := Aside0.mk H
            clear H
            have hnb84 := NB226_213.out
            have hnc84 := NB213_226.out
            have hnb85 := NB226_214.out
            have hnc85 := NB214_226.out
            have hnb86 := NB226_215.out
            have hnc86 := NB215_226.out
            have hnb87 := NB226_234.out
            have hnc87 := NB234_226.out
            have hcz88_0 : w55.cell? ⟨gb226, 0, none⟩ = some (.slice Ao37 t219.length co37) := (blk_cell BK226.out 0).trans rfl
            have hcz88_1 : w55.cell? ⟨gb226, 1, none⟩ = some (.slice Ao42 t222.length co42) := (blk_cell BK226.out 1).trans rfl
            have hfz88_0 := blk_frozen BK226.out 0
            have hfz88_1 := blk_frozen BK226.out 1
            have hnb89 := NB234_213.out
            have hnc89 := NB213_234.out
            have hnb90 := NB234_214.out
            have hnc90 := NB214_234.out
            have hnb91 := NB234_215.out
            have hnc91 := NB215_234.out
            have hcz92_0 : w55.cell? ⟨gb234, 0, none⟩ = some (.slice Ao45 t227.length co45) := (blk_cell BK234.out 0).trans rfl
            have hcz92_1 : w55.cell? ⟨gb234, 1, none⟩ = some (.slice Ao51 t230.length co51) := (blk_cell BK234.out 1).trans rfl
            have hfz92_0 := blk_frozen BK234.out 0
            have hfz92_1 := blk_frozen BK234.out 1
            go_wp2_with (first | ((with_reducible refine gate_callee (f := 38) rfl ?_); refine goesL_ (some 50) rfl rfl Try.func38 (by kernel_rfl) rfl #[.agg #[.slice Ao37 t219.length co37, .slice Ao42 t222.length co42], .agg #[.slice Ao45 t227.length co45, .slice Ao51 t230.length co51]] rfl (by (try simp only [List.map_toArray, List.map_cons, List.map_nil]); first | done | rfl | (simp only [List.length_drop, List.length_take]; rfl)) ?_; (with_reducible refine (assartref02_Same.calls kj2 _ _ t219 _ _ t222 _ _ t227 _ _ t230 false _ ?side1 ?side2 ?side3 ?side4 ?side5 ?side6 ?side7 ?side8 A56.out).mono ?_); (case side1 => repeat (first | exact (Kd.R_reads' HO221.out).2.2 | (with_reducible refine Kd.C_alloc ?_ _) | (with_reducible refine Kd.C_drewN ?_ _) | (with_reducible refine Kd.C_drew ?_))); (case side2 => exact (Kd.R_reads' HO221.out).2.1); (case side3 => repeat (first | exact (Kd.R_reads' HO224.out).2.2 | (with_reducible refine Kd.C_alloc ?_ _) | (with_reducible refine Kd.C_drewN ?_ _) | (with_reducible refine Kd.C_drew ?_))); (case side4 => exact (Kd.R_reads' HO224.out).2.1); (case side5 => repeat (first | exact (Kd.R_reads' HO229.out).2.2 | (with_reducible refine Kd.C_alloc ?_ _) | (with_reducible refine Kd.C_drewN ?_ _) | (with_reducible refine Kd.C_drew ?_))); (case side6 => exact (Kd.R_reads' HO229.out).2.1); (case side7 => repeat (first | exact (Kd.R_reads' HO232.out).2.2 | (with_reducible refine Kd.C_alloc ?_ _) | (with_reducible refine Kd.C_drewN ?_ _) | (with_reducible refine Kd.C_drew ?_))); (case side8 => exact (Kd.R_reads' HO232.out).2.1); rintro e w93 ⟨rfl, hb⟩; refine ⟨_, rfl, ?_⟩; have n0_ := Aside0.mk (Kd.R_below (by (with_reducible repeat (first | apply Kd.R_alloc | apply Kd.R_drewN | apply Kd.R_drew)); exact HO221.out) hb); have n1_ := Aside0.mk (Kd.R_below (by (with_reducible repeat (first | apply Kd.R_alloc | apply Kd.R_drewN | apply Kd.R_drew)); exact HO224.out) hb); have n2_ := Aside0.mk (Kd.R_below (by (with_reducible repeat (first | apply Kd.R_alloc | apply Kd.R_drewN | apply Kd.R_drew)); exact HO229.out) hb); have n3_ := Aside0.mk (Kd.R_below (by (with_reducible repeat (first | apply Kd.R_alloc | apply Kd.R_drewN | apply Kd.R_drew)); exact HO232.out) hb); have n4_ := Aside0.mk (blk_below (g := gb213) (o := .cells #[.slice A0_0 l0_0.length c0_0, .slice A0_1 l0_1.length c0_1, .slice A0_2 l0_2.length c0_2, .slice A0_3 l0_3.length c0_3, .int .i64 a0_4, .int .i64 a0_5] 65 (0, 0)) (by (with_reducible repeat (first | refine blk_drewN ?_ _ | refine blk_drew ?_ | refine blk_alloc ?_ _)); exact BK213.out) hb); have n5_ := Aside0.mk (blk_below (g := gb214) (o := .cells #[.slice A0_0 l0_0.length c0_0, .slice A0_1 l0_1.length c0_1] 63 (0, 0)) (by (with_reducible repeat (first | refine blk_drewN ?_ _ | refine blk_drew ?_ | refine blk_alloc ?_ _)); exact BK214.out) hb); have n6_ := Aside0.mk (blk_below (g := gb215) (o := .cells #[.slice A0_2 l0_2.length c0_2, .slice A0_3 l0_3.length c0_3] 63 (0, 0)) (by (with_reducible repeat (first | refine blk_drewN ?_ _ | refine blk_drew ?_ | refine blk_alloc ?_ _)); exact BK215.out) hb); have n7_ := Aside0.mk (blk_below (g := gb226) (o := .cells #[.slice Ao37 t219.length co37, .slice Ao42 t222.length co42] 63 (0, 0)) (by (with_reducible repeat (first | refine blk_drewN ?_ _ | refine blk_drew ?_ | refine blk_alloc ?_ _)); exact BK226.out) hb); have n8_ := Aside0.mk (blk_below (g := gb234) (o := .cells #[.slice Ao45 t227.length co45, .slice Ao51 t230.length co51] 63 (0, 0)) (by (with_reducible repeat (first | refine blk_drewN ?_ _ | refine blk_drew ?_ | refine blk_alloc ?_ _)); exact BK234.out) hb); have n9_ := Aside0.mk (below_step (by repeat (first | (with_reducible first | exact HB.out | apply below_alloc | apply pw_below_drewN | apply below_drew1 | refine below_set ?_ GE213.out | refine below_set ?_ GE214.out | refine below_set ?_ GE215.out | refine below_set ?_ GE226.out | refine below_set ?_ GE234.out) | exact HB.out)) hb); clear HO221; clear HO224; clear HO229; clear HO232; clear BK213; clear BK214; clear BK215; clear BK226; clear BK234; clear HB; have HO221 := n0_; have HO224 := n1_; have HO229 := n2_; have HO232 := n3_; have BK213 := n4_; have BK214 := n5_; have BK215 := n6_; have BK226 := n7_; have BK234 := n8_; have HB := n9_; clear n0_ n1_ n2_ n3_ n4_ n5_ n6_ n7_ n8_ n9_; (try clear hb); (try clear hb2); (try clear hk); (try clear hi)))
            go_meet
            case rel => exact ⟨_, (true), (by first | rfl | (simp; done) | (simp [*]; done)), H', ⟨by have := HJ2.out; first | omega | exact Nat.le_refl _⟩, ⟨by (with_reducible repeat (first | apply Kd.R_alloc | apply Kd.R_drewN | apply Kd.R_drew)); exact Kd.R_mono HO221.out (fun _ hk => hk.2)⟩, ⟨by (with_reducible repeat (first | apply Kd.R_alloc | apply Kd.R_drewN | apply Kd.R_drew)); exact Kd.R_mono HO224.out (fun _ hk => hk.2)⟩, ⟨by (with_reducible repeat (first | apply Kd.R_alloc | apply Kd.R_drewN | apply Kd.R_drew)); exact Kd.R_mono HO229.out (fun _ hk => hk.2)⟩, ⟨by (with_reducible repeat (first | apply Kd.R_alloc | apply Kd.R_drewN | apply Kd.R_drew)); exact Kd.R_mono HO232.out (fun _ hk => hk.2)⟩, ⟨by (with_reducible repeat (first | refine blk_drewN ?_ _ | refine blk_drew ?_ | refine blk_alloc ?_ _)); exact BK213.out⟩, ⟨by (with_reducible repeat (first | refine blk_drewN ?_ _ | refine blk_drew ?_ | refine blk_alloc ?_ _)); exact BK214.out⟩, ⟨by (with_reducible repeat (first | refine blk_drewN ?_ _ | refine blk_drew ?_ | refine blk_alloc ?_ _)); exact BK215.out⟩, ⟨by (with_reducible repeat (first | refine blk_drewN ?_ _ | refine blk_drew ?_ | refine blk_alloc ?_ _)); exact BK226.out⟩, ⟨by (with_reducible repeat (first | refine blk_drewN ?_ _ | refine blk_drew ?_ | refine blk_alloc ?_ _)); exact BK234.out⟩, ⟨by repeat (first | (with_reducible first | exact HB.out | apply below_alloc | apply pw_below_drewN | apply below_drew1 | refine below_set ?_ GE213.out | refine below_set ?_ GE214.out | refine below_set ?_ GE215.out | refine below_set ?_ GE226.out | refine below_set ?_ GE234.out) | exact HB.out)⟩⟩
        case rest =>
          clear HC34
          try clear c1
          try clear c2
          try clear p2
          try clear c3
          try clear c4
          try clear c5
          try clear c6
          try clear c7
          try clear c8
          try clear c9
          try clear c11
          try clear c12
          try clear c17
          try clear c19
          try clear c20
          try clear c23
          try clear c26
          try clear c27
          try clear c30
          try clear c33
          try clear c34
          try clear c35
          try clear c36
          try clear c37
          try clear c38
          try clear c39
          try clear c40
          try clear c46
          try clear c47
          try clear c48
          try clear c49
          try clear c52
          try clear c53
          try clear c57
          try clear c58
          try clear c58b0
          try clear c58b1
          try clear c60
          try clear c61
          try clear c62
          try clear c63
          try clear c65
          try clear c66
          try clear c67
          try clear c70
          try clear c71
          try clear c74
          try clear c75
          try clear c76
          try clear c77
          try clear c79
          try clear c80
          try clear c81
          try clear c84
          try clear c85
          try clear c86
          try clear c87
          try clear c89
          try clear c90
          try clear c91
          try clear hcz13_0
          try clear hcz13_1
          try clear hcz14_0
          try clear hcz14_1
          try clear hcz14_2
          try clear hcz14_3
          try clear hcz14_4
          try clear hcz14_5
          try clear hcz21_0
          try clear hcz21_1
          try clear hcz24_0
          try clear hcz24_1
          try clear hcz28_0
          try clear hcz28_1
          try clear hcz41_0
          try clear hcz41_1
          try clear hcz50_0
          try clear hcz50_1
          try clear hcz54_0
          try clear hcz54_1
          try clear hcz5_0
          try clear hcz5_1
          try clear hcz5_2
          try clear hcz5_3
          try clear hcz5_4
          try clear hcz5_5
          try clear hcz64_0
          try clear hcz64_1
          try clear hcz68_0
          try clear hcz68_1
          try clear hcz72_0
          try clear hcz72_1
          try clear hcz78_0
          try clear hcz78_1
          try clear hcz82_0
          try clear hcz82_1
          try clear hcz88_0
          try clear hcz88_1
          try clear hcz8_0
          try clear hcz8_1
          try clear hcz92_0
          try clear hcz92_1
          try clear hcz9_0
          try clear hcz9_1
          try clear hcz9_2
          try clear hcz9_3
          try clear hcz9_4
          try clear hcz9_5
          try clear hfz13_0
          try clear hfz13_1
          try clear hfz14_0
          try clear hfz14_1
          try clear hfz14_2
          try clear hfz14_3
          try clear hfz14_4
          try clear hfz14_5
          try clear hfz21_0
          try clear hfz21_1
          try clear hfz24_0
          try clear hfz24_1
          try clear hfz28_0
          try clear hfz28_1
          try clear hfz41_0
          try clear hfz41_1
          try clear hfz50_0
          try clear hfz50_1
          try clear hfz54_0
          try clear hfz54_1
          try clear hfz5_0
          try clear hfz5_1
          try clear hfz5_2
          try clear hfz5_3
          try clear hfz5_4
          try clear hfz5_5
          try clear hfz64_0
          try clear hfz64_1
          try clear hfz68_0
          try clear hfz68_1
          try clear hfz72_0
          try clear hfz72_1
          try clear hfz78_0
          try clear hfz78_1
          try clear hfz82_0
          try clear hfz82_1
          try clear hfz88_0
          try clear hfz88_1
          try clear hfz8_0
          try clear hfz8_1
          try clear hfz92_0
          try clear hfz92_1
          try clear hfz9_0
          try clear hfz9_1
          try clear hfz9_2
          try clear hfz9_3
          try clear hfz9_4
          try clear hfz9_5
          try clear p2
          obtain ⟨kq, x62_33, rfl, HA, HJ33, HO_227000, HO_227001, HO_235000, HO_235001, BK213, BK214, BK215, BK226, BK234, HB⟩ := hcut
          cases kq with
          | zero => exact absurd HA.out (by simp [assartlaw02_DiskTells.j1])
          | succ kj33 =>
            have H := HA.out
            clear HA
            simp only [assartlaw02_DiskTells.j1] at H
            by_cases c94 : x62_33 = true
            · subst c94
              have H1 : (none) = some r := by rw [if_pos rfl] at H; exact H
              clear H
              have H := H1
              clear H1
              exact absurd H (by simp)
            · replace c94 := Bool.eq_false_iff.mpr c94
              subst c94
              have H1 : (if t235 = true then ((disk_Read.f l0_0 l0_1 a0_5).bind fun bt238 => ((assartref02_Read.f kj33 l0_0 l0_1 a0_5).bind fun bt240 => ((assartref02_Right.f kj33 l0_2 l0_3).bind fun t242 => (if t242 = true then ((disk_Same.f kj33 l0_0 l0_1 l0_2 l0_3).bind fun t243 => ((assartref02_Same.f kj33 l0_0 l0_1 l0_2 l0_3).bind fun t244 => (if t216 = true then (if bt238.1.toList = bt240.1.toList then (if bt238.2 = bt240.2 then (some (t243 == t244)) else (none)) else (none)) else (none)))) else (if t216 = true then (if bt238.1.toList = bt240.1.toList then (if bt238.2 = bt240.2 then (some true) else (none)) else (none)) else (none)))))) else (some t216)) = some r := by rw [if_neg (show ¬ (false = true) by decide)] at H; exact H
              clear H
              have H := H1
              clear H1
              by_cases c95 : t235 = true
              · subst c95
                have H1 : ((disk_Read.f l0_0 l0_1 a0_5).bind fun bt238 => ((assartref02_Read.f kj33 l0_0 l0_1 a0_5).bind fun bt240 => ((assartref02_Right.f kj33 l0_2 l0_3).bind fun t242 => (if t242 = true then ((disk_Same.f kj33 l0_0 l0_1 l0_2 l0_3).bind fun t243 => ((assartref02_Same.f kj33 l0_0 l0_1 l0_2 l0_3).bind fun t244 => (if t216 = true then (if bt238.1.toList = bt240.1.toList then (if bt238.2 = bt240.2 then (some (t243 == t244)) else (none)) else (none)) else (none)))) else (if t216 = true then (if bt238.1.toList = bt240.1.toList then (if bt238.2 = bt240.2 then (some true) else (none)) else (none)) else (none)))))) = some r := by rw [if_pos rfl] at H; exact H
                clear H
                have H := H1
                clear H1
                replace H := Option.bind_eq_some_iff.mp H
                obtain ⟨⟨t238, t239⟩, A960, H⟩ := H
                replace H : ((assartref02_Read.f kj33 l0_0 l0_1 a0_5).bind fun bt240 => ((assartref02_Right.f kj33 l0_2 l0_3).bind fun t242 => (if t242 = true then ((disk_Same.f kj33 l0_0 l0_1 l0_2 l0_3).bind fun t243 => ((assartref02_Same.f kj33 l0_0 l0_1 l0_2 l0_3).bind fun t244 => (if t216 = true then (if t238.toList = bt240.1.toList then (if t239 = bt240.2 then (some (t243 == t244)) else (none)) else (none)) else (none)))) else (if t216 = true then (if t238.toList = bt240.1.toList then (if t239 = bt240.2 then (some true) else (none)) else (none)) else (none))))) = some r := H
                have A96 := Aside0.mk A960
                clear A960
                replace H := Option.bind_eq_some_iff.mp H
                obtain ⟨⟨t240, t241⟩, A970, H⟩ := H
                replace H : ((assartref02_Right.f kj33 l0_2 l0_3).bind fun t242 => (if t242 = true then ((disk_Same.f kj33 l0_0 l0_1 l0_2 l0_3).bind fun t243 => ((assartref02_Same.f kj33 l0_0 l0_1 l0_2 l0_3).bind fun t244 => (if t216 = true then (if t238.toList = t240.toList then (if t239 = t241 then (some (t243 == t244)) else (none)) else (none)) else (none)))) else (if t216 = true then (if t238.toList = t240.toList then (if t239 = t241 then (some true) else (none)) else (none)) else (none)))) = some r := H
                have A97 := Aside0.mk A970
                clear A970
                replace H := Option.bind_eq_some_iff.mp H
                obtain ⟨t242, A980, H⟩ := H
                replace H : (if t242 = true then ((disk_Same.f kj33 l0_0 l0_1 l0_2 l0_3).bind fun t243 => ((assartref02_Same.f kj33 l0_0 l0_1 l0_2 l0_3).bind fun t244 => (if t216 = true then (if t238.toList = t240.toList then (if t239 = t241 then (some (t243 == t244)) else (none)) else (none)) else (none)))) else (if t216 = true then (if t238.toList = t240.toList then (if t239 = t241 then (some true) else (none)) else (none)) else (none))) = some r := H
                have A98 := Aside0.mk A980
                clear A980
                by_cases c99 : t242 = true
                · subst c99
                  have H1 : ((disk_Same.f kj33 l0_0 l0_1 l0_2 l0_3).bind fun t243 => ((assartref02_Same.f kj33 l0_0 l0_1 l0_2 l0_3).bind fun t244 => (if t216 = true then (if t238.toList = t240.toList then (if t239 = t241 then (some (t243 == t244)) else (none)) else (none)) else (none)))) = some r := by rw [if_pos rfl] at H; exact H
                  clear H
                  have H := H1
                  clear H1
                  replace H := Option.bind_eq_some_iff.mp H
                  obtain ⟨t243, A1000, H⟩ := H
                  replace H : ((assartref02_Same.f kj33 l0_0 l0_1 l0_2 l0_3).bind fun t244 => (if t216 = true then (if t238.toList = t240.toList then (if t239 = t241 then (some (t243 == t244)) else (none)) else (none)) else (none))) = some r := H
                  have A100 := Aside0.mk A1000
                  clear A1000
                  replace H := Option.bind_eq_some_iff.mp H
                  obtain ⟨t244, A1010, H⟩ := H
                  replace H : (if t216 = true then (if t238.toList = t240.toList then (if t239 = t241 then (some (t243 == t244)) else (none)) else (none)) else (none)) = some r := H
                  have A101 := Aside0.mk A1010
                  clear A1010
                  by_cases c102 : t216 = true
                  · subst c102
                    have H1 : (if t238.toList = t240.toList then (if t239 = t241 then (some (t243 == t244)) else (none)) else (none)) = some r := by rw [if_pos rfl] at H; exact H
                    clear H
                    have H := H1
                    clear H1
                    by_cases c103 : t238.toList = t240.toList
                    · rw [if_pos c103] at H
                      have c103b0 : (t238.toList == t240.toList) = true := beq_iff_eq.mpr c103
                      have c103b1 : (t238.toList != t240.toList) = false := bne_eq_false_iff_eq.mpr c103
                      clear c103
                      by_cases c104 : t239 = t241
                      · rw [if_pos c104] at H
                        have c104b0 : (t239 == t241) = true := beq_iff_eq.mpr c104
                        have c104b1 : (t239 != t241) = false := bne_eq_false_iff_eq.mpr c104
                        clear c104
                        obtain rfl := Option.some.inj H
                        have hnb105 := NB214_213.out
                        have hnc105 := NB213_214.out
                        have hnb106 := NB214_215.out
                        have hnc106 := NB215_214.out
                        have hnb107 := NB214_226.out
                        have hnc107 := NB226_214.out
                        have hnb108 := NB214_234.out
                        have hnc108 := NB234_214.out
                        have hcz109_0 : wc.cell? ⟨gb214, 0, none⟩ = some (.slice A0_0 l0_0.length c0_0) := (blk_cell BK214.out 0).trans rfl
                        have hcz109_1 : wc.cell? ⟨gb214, 1, none⟩ = some (.slice A0_1 l0_1.length c0_1) := (blk_cell BK214.out 1).trans rfl
                        have hfz109_0 := blk_frozen BK214.out 0
                        have hfz109_1 := blk_frozen BK214.out 1
                        try go_wp2_with (first | ((with_reducible refine gate_callee (f := 40) rfl ?_); refine goesL_ (some 69) rfl rfl Try.func40 (by kernel_rfl) rfl #[.agg #[.slice A0_0 l0_0.length c0_0, .slice A0_1 l0_1.length c0_1], .int .i64 a0_5] rfl (by (try simp only [List.map_toArray, List.map_cons, List.map_nil]); first | done | rfl | (simp only [List.length_drop, List.length_take]; rfl)) ?_; (with_reducible refine (disk_Read.calls _ _ l0_0 _ _ l0_1 a0_5 t238 t239 _ ?side1 ?side2 ?side3 ?side4 A96.out).mono ?_); (case side1 => repeat (first | exact (Kd.C_below HR0_0.out HB.out) | (with_reducible refine Kd.C_alloc ?_ _) | (with_reducible refine Kd.C_drewN ?_ _) | (with_reducible refine Kd.C_drew ?_))); (case side2 => exact HC0_0.out); (case side3 => repeat (first | exact (Kd.C_below HR0_1.out HB.out) | (with_reducible refine Kd.C_alloc ?_ _) | (with_reducible refine Kd.C_drewN ?_ _) | (with_reducible refine Kd.C_drew ?_))); (case side4 => exact HC0_1.out); rintro e w110 ⟨rfl, hb⟩; refine ⟨_, rfl, ?_⟩; have n0_ := Aside0.mk (Kd.R_below (by (with_reducible repeat (first | apply Kd.R_alloc | apply Kd.R_drewN | apply Kd.R_drew)); exact HO_227000.out) hb); have n1_ := Aside0.mk (Kd.R_below (by (with_reducible repeat (first | apply Kd.R_alloc | apply Kd.R_drewN | apply Kd.R_drew)); exact HO_227001.out) hb); have n2_ := Aside0.mk (Kd.R_below (by (with_reducible repeat (first | apply Kd.R_alloc | apply Kd.R_drewN | apply Kd.R_drew)); exact HO_235000.out) hb); have n3_ := Aside0.mk (Kd.R_below (by (with_reducible repeat (first | apply Kd.R_alloc | apply Kd.R_drewN | apply Kd.R_drew)); exact HO_235001.out) hb); have n4_ := Aside0.mk (blk_below (g := gb213) (o := .cells #[.slice A0_0 l0_0.length c0_0, .slice A0_1 l0_1.length c0_1, .slice A0_2 l0_2.length c0_2, .slice A0_3 l0_3.length c0_3, .int .i64 a0_4, .int .i64 a0_5] 65 (0, 0)) (by (with_reducible repeat (first | refine blk_drewN ?_ _ | refine blk_drew ?_ | refine blk_alloc ?_ _)); exact BK213.out) hb); have n5_ := Aside0.mk (blk_below (g := gb214) (o := .cells #[.slice A0_0 l0_0.length c0_0, .slice A0_1 l0_1.length c0_1] 63 (0, 0)) (by (with_reducible repeat (first | refine blk_drewN ?_ _ | refine blk_drew ?_ | refine blk_alloc ?_ _)); exact BK214.out) hb); have n6_ := Aside0.mk (blk_below (g := gb215) (o := .cells #[.slice A0_2 l0_2.length c0_2, .slice A0_3 l0_3.length c0_3] 63 (0, 0)) (by (with_reducible repeat (first | refine blk_drewN ?_ _ | refine blk_drew ?_ | refine blk_alloc ?_ _)); exact BK215.out) hb); have n7_ := Aside0.mk (blk_below (g := gb226) (o := .cells #[.slice Ao37 t219.length co37, .slice Ao42 t222.length co42] 63 (0, 0)) (by (with_reducible repeat (first | refine blk_drewN ?_ _ | refine blk_drew ?_ | refine blk_alloc ?_ _)); exact BK226.out) hb); have n8_ := Aside0.mk (blk_below (g := gb234) (o := .cells #[.slice Ao45 t227.length co45, .slice Ao51 t230.length co51] 63 (0, 0)) (by (with_reducible repeat (first | refine blk_drewN ?_ _ | refine blk_drew ?_ | refine blk_alloc ?_ _)); exact BK234.out) hb); have n9_ := Aside0.mk (below_step (by repeat (first | (with_reducible first | exact HB.out | apply below_alloc | apply pw_below_drewN | apply below_drew1 | refine below_set ?_ GE213.out | refine below_set ?_ GE214.out | refine below_set ?_ GE215.out | refine below_set ?_ GE226.out | refine below_set ?_ GE234.out) | exact HB.out)) hb); clear HO_227000; clear HO_227001; clear HO_235000; clear HO_235001; clear BK213; clear BK214; clear BK215; clear BK226; clear BK234; clear HB; have HO_227000 := n0_; have HO_227001 := n1_; have HO_235000 := n2_; have HO_235001 := n3_; have BK213 := n4_; have BK214 := n5_; have BK215 := n6_; have BK226 := n7_; have BK234 := n8_; have HB := n9_; clear n0_ n1_ n2_ n3_ n4_ n5_ n6_ n7_ n8_ n9_; (try clear hb); (try clear hb2); (try clear hk); (try clear hi); have hcz111_0 : w110.cell? ⟨gb214, 0, none⟩ = some (.slice A0_0 l0_0.length c0_0) := (blk_cell BK214.out 0).trans rfl; have hcz111_1 : w110.cell? ⟨gb214, 1, none⟩ = some (.slice A0_1 l0_1.length c0_1) := (blk_cell BK214.out 1).trans rfl; have hfz111_0 := blk_frozen BK214.out 0; have hfz111_1 := blk_frozen BK214.out 1) | ((with_reducible refine gate_callee (f := 41) rfl ?_); refine goesL_ (some 75) rfl rfl Try.func41 (by kernel_rfl) rfl #[.agg #[.slice A0_0 l0_0.length c0_0, .slice A0_1 l0_1.length c0_1], .int .i64 a0_5] rfl (by (try simp only [List.map_toArray, List.map_cons, List.map_nil]); first | done | rfl | (simp only [List.length_drop, List.length_take]; rfl)) ?_; (with_reducible refine (assartref02_Read.calls kj33 _ _ l0_0 _ _ l0_1 a0_5 t240 t241 _ ?side1 ?side2 ?side3 ?side4 A97.out).mono ?_); (case side1 => repeat (first | exact (Kd.C_below HR0_0.out HB.out) | (with_reducible refine Kd.C_alloc ?_ _) | (with_reducible refine Kd.C_drewN ?_ _) | (with_reducible refine Kd.C_drew ?_))); (case side2 => exact HC0_0.out); (case side3 => repeat (first | exact (Kd.C_below HR0_1.out HB.out) | (with_reducible refine Kd.C_alloc ?_ _) | (with_reducible refine Kd.C_drewN ?_ _) | (with_reducible refine Kd.C_drew ?_))); (case side4 => exact HC0_1.out); rintro e w112 ⟨rfl, hb⟩; refine ⟨_, rfl, ?_⟩; have n0_ := Aside0.mk (Kd.R_below (by (with_reducible repeat (first | apply Kd.R_alloc | apply Kd.R_drewN | apply Kd.R_drew)); exact HO_227000.out) hb); have n1_ := Aside0.mk (Kd.R_below (by (with_reducible repeat (first | apply Kd.R_alloc | apply Kd.R_drewN | apply Kd.R_drew)); exact HO_227001.out) hb); have n2_ := Aside0.mk (Kd.R_below (by (with_reducible repeat (first | apply Kd.R_alloc | apply Kd.R_drewN | apply Kd.R_drew)); exact HO_235000.out) hb); have n3_ := Aside0.mk (Kd.R_below (by (with_reducible repeat (first | apply Kd.R_alloc | apply Kd.R_drewN | apply Kd.R_drew)); exact HO_235001.out) hb); have n4_ := Aside0.mk (blk_below (g := gb213) (o := .cells #[.slice A0_0 l0_0.length c0_0, .slice A0_1 l0_1.length c0_1, .slice A0_2 l0_2.length c0_2, .slice A0_3 l0_3.length c0_3, .int .i64 a0_4, .int .i64 a0_5] 65 (0, 0)) (by (with_reducible repeat (first | refine blk_drewN ?_ _ | refine blk_drew ?_ | refine blk_alloc ?_ _)); exact BK213.out) hb); have n5_ := Aside0.mk (blk_below (g := gb214) (o := .cells #[.slice A0_0 l0_0.length c0_0, .slice A0_1 l0_1.length c0_1] 63 (0, 0)) (by (with_reducible repeat (first | refine blk_drewN ?_ _ | refine blk_drew ?_ | refine blk_alloc ?_ _)); exact BK214.out) hb); have n6_ := Aside0.mk (blk_below (g := gb215) (o := .cells #[.slice A0_2 l0_2.length c0_2, .slice A0_3 l0_3.length c0_3] 63 (0, 0)) (by (with_reducible repeat (first | refine blk_drewN ?_ _ | refine blk_drew ?_ | refine blk_alloc ?_ _)); exact BK215.out) hb); have n7_ := Aside0.mk (blk_below (g := gb226) (o := .cells #[.slice Ao37 t219.length co37, .slice Ao42 t222.length co42] 63 (0, 0)) (by (with_reducible repeat (first | refine blk_drewN ?_ _ | refine blk_drew ?_ | refine blk_alloc ?_ _)); exact BK226.out) hb); have n8_ := Aside0.mk (blk_below (g := gb234) (o := .cells #[.slice Ao45 t227.length co45, .slice Ao51 t230.length co51] 63 (0, 0)) (by (with_reducible repeat (first | refine blk_drewN ?_ _ | refine blk_drew ?_ | refine blk_alloc ?_ _)); exact BK234.out) hb); have n9_ := Aside0.mk (below_step (by repeat (first | (with_reducible first | exact HB.out | apply below_alloc | apply pw_below_drewN | apply below_drew1 | refine below_set ?_ GE213.out | refine below_set ?_ GE214.out | refine below_set ?_ GE215.out | refine below_set ?_ GE226.out | refine below_set ?_ GE234.out) | exact HB.out)) hb); clear HO_227000; clear HO_227001; clear HO_235000; clear HO_235001; clear BK213; clear BK214; clear BK215; clear BK226; clear BK234; clear HB; have HO_227000 := n0_; have HO_227001 := n1_; have HO_235000 := n2_; have HO_235001 := n3_; have BK213 := n4_; have BK214 := n5_; have BK215 := n6_; have BK226 := n7_; have BK234 := n8_; have HB := n9_; clear n0_ n1_ n2_ n3_ n4_ n5_ n6_ n7_ n8_ n9_; (try clear hb); (try clear hb2); (try clear hk); (try clear hi)))
                        have n0_ := Aside0.mk (Kd.R_drew HO_227000.out)
                        have n1_ := Aside0.mk (Kd.R_drew HO_227001.out)
                        have n2_ := Aside0.mk (Kd.R_drew HO_235000.out)
                        have n3_ := Aside0.mk (Kd.R_drew HO_235001.out)
                        have n4_ := Aside0.mk (blk_drew BK213.out)
                        have n5_ := Aside0.mk (blk_drew BK214.out)
                        have n6_ := Aside0.mk (blk_drew BK215.out)
                        have n7_ := Aside0.mk (blk_drew BK226.out)
                        have n8_ := Aside0.mk (blk_drew BK234.out)
                        have n9_ := Aside0.mk (below_drew1 HB.out)
                        clear HO_227000
                        clear HO_227001
                        clear HO_235000
                        clear HO_235001
                        clear BK213
                        clear BK214
                        clear BK215
                        clear BK226
                        clear BK234
                        clear HB
                        have HO_227000 := n0_
                        have HO_227001 := n1_
                        have HO_235000 := n2_
                        have HO_235001 := n3_
                        have BK213 := n4_
                        have BK214 := n5_
                        have BK215 := n6_
                        have BK226 := n7_
                        have BK234 := n8_
                        have HB := n9_
                        clear n0_ n1_ n2_ n3_ n4_ n5_ n6_ n7_ n8_ n9_
                        refine start_ (n := 13) (S := fun w' => w'.cell? ⟨gb215, 0, none⟩ = some (.slice A0_2 l0_2.length c0_2) ∧ w'.cell? ⟨gb215, 1, none⟩ = some (.slice A0_3 l0_3.length c0_3) ∧ w'.cell? ⟨gb214, 0, none⟩ = some (.slice A0_0 l0_0.length c0_0) ∧ w'.cell? ⟨gb214, 1, none⟩ = some (.slice A0_1 l0_1.length c0_1)) (ds := []) #[false, false, false, false, false, false, false, false, false, false, false, false, false] (by kernel_rfl) rfl rfl ⟨(blk_cell BK215.out 0).trans rfl, (blk_cell BK215.out 1).trans rfl, (blk_cell BK214.out 0).trans rfl, (blk_cell BK214.out 1).trans rfl⟩ (fun hHeld => ?_); refine with_tabW assartlaw02_DiskTells.tab17 assartlaw02_DiskTells.bits17 (fun HT_ HW_ => ?_)
                        generalize w112.drew = w113 at HO_227000 HO_227001 HO_235000 HO_235001 BK213 BK214 BK215 BK226 BK234 HB hHeld ⊢
                        refine take_ (i := 0) (N := some 78) (v := ?_) (a' := ?_) #[true, false, false, false, false, false, false, false, false, false, false, false, false] rfl rfl (take_ofW HT_.out HW_.out (by kernel_rfl)) (fun _ _ _ h => h) (Or.inl ⟨by rfl, ?_⟩) hHeld ?_ ?_
                        rotate_left
                        · rintro w' ⟨s0, s1, s2, s3⟩
                          go_simp
                          with_reducible rfl
                        rotate_left
                        · simp only [Act.put, List.setIfInBounds_toArray, List.set_cons_zero, List.set_cons_succ, i64_w, i32_w]
                          rfl
                        refine one_ (i := 1) (N := some 79) #[true, true, false, false, false, false, false, false, false, false, false, false, false] rfl rfl (one_of HT_.out (by kernel_rfl)) (by decide) (fun K hK => ?_)
                        refine goes_ Try.func37 (by kernel_rfl) rfl #[.agg #[.slice A0_2 l0_2.length c0_2, .slice A0_3 l0_3.length c0_3]] (by rfl) rfl rfl (by (try simp only [List.map_toArray, List.map_cons, List.map_nil]); first | done | rfl | (simp only [List.length_drop, List.length_take]; rfl)) ?_
                        with_reducible refine (assartref02_Right.calls kj33 _ _ l0_2 _ _ l0_3 true _ ?side1 ?side2 ?side3 ?side4 A98.out).mono ?_
                        (case side1 => repeat (first | exact (Kd.C_below HR0_2.out HB.out) | (with_reducible refine Kd.C_alloc ?_ _) | (with_reducible refine Kd.C_drewN ?_ _) | (with_reducible refine Kd.C_drew ?_)))
                        (case side2 => exact HC0_2.out)
                        (case side3 => repeat (first | exact (Kd.C_below HR0_3.out HB.out) | (with_reducible refine Kd.C_alloc ?_ _) | (with_reducible refine Kd.C_drewN ?_ _) | (with_reducible refine Kd.C_drew ?_)))
                        (case side4 => exact HC0_3.out)
                        rintro e w114 ⟨rfl, hb⟩
                        refine ⟨_, rfl, ?_⟩
                        have n0_ := Aside0.mk (Kd.R_below (by (with_reducible repeat (first | apply Kd.R_alloc | apply Kd.R_drewN | apply Kd.R_drew)); exact HO_227000.out) hb)
                        have n1_ := Aside0.mk (Kd.R_below (by (with_reducible repeat (first | apply Kd.R_alloc | apply Kd.R_drewN | apply Kd.R_drew)); exact HO_227001.out) hb)
                        have n2_ := Aside0.mk (Kd.R_below (by (with_reducible repeat (first | apply Kd.R_alloc | apply Kd.R_drewN | apply Kd.R_drew)); exact HO_235000.out) hb)
                        have n3_ := Aside0.mk (Kd.R_below (by (with_reducible repeat (first | apply Kd.R_alloc | apply Kd.R_drewN | apply Kd.R_drew)); exact HO_235001.out) hb)
                        have n4_ := Aside0.mk (blk_below (g := gb213) (o := .cells #[.slice A0_0 l0_0.length c0_0, .slice A0_1 l0_1.length c0_1, .slice A0_2 l0_2.length c0_2, .slice A0_3 l0_3.length c0_3, .int .i64 a0_4, .int .i64 a0_5] 65 (0, 0)) (by (with_reducible repeat (first | refine blk_drewN ?_ _ | refine blk_drew ?_ | refine blk_alloc ?_ _)); exact BK213.out) hb)
                        have n5_ := Aside0.mk (blk_below (g := gb214) (o := .cells #[.slice A0_0 l0_0.length c0_0, .slice A0_1 l0_1.length c0_1] 63 (0, 0)) (by (with_reducible repeat (first | refine blk_drewN ?_ _ | refine blk_drew ?_ | refine blk_alloc ?_ _)); exact BK214.out) hb)
                        have n6_ := Aside0.mk (blk_below (g := gb215) (o := .cells #[.slice A0_2 l0_2.length c0_2, .slice A0_3 l0_3.length c0_3] 63 (0, 0)) (by (with_reducible repeat (first | refine blk_drewN ?_ _ | refine blk_drew ?_ | refine blk_alloc ?_ _)); exact BK215.out) hb)
                        have n7_ := Aside0.mk (blk_below (g := gb226) (o := .cells #[.slice Ao37 t219.length co37, .slice Ao42 t222.length co42] 63 (0, 0)) (by (with_reducible repeat (first | refine blk_drewN ?_ _ | refine blk_drew ?_ | refine blk_alloc ?_ _)); exact BK226.out) hb)
                        have n8_ := Aside0.mk (blk_below (g := gb234) (o := .cells #[.slice Ao45 t227.length co45, .slice Ao51 t230.length co51] 63 (0, 0)) (by (with_reducible repeat (first | refine blk_drewN ?_ _ | refine blk_drew ?_ | refine blk_alloc ?_ _)); exact BK234.out) hb)
                        have n9_ := Aside0.mk (below_step (by repeat (first | (with_reducible first | exact HB.out | apply below_alloc | apply pw_below_drewN | apply below_drew1 | refine below_set ?_ GE213.out | refine below_set ?_ GE214.out | refine below_set ?_ GE215.out | refine below_set ?_ GE226.out | refine below_set ?_ GE234.out) | exact HB.out)) hb)
                        clear HO_227000
                        clear HO_227001
                        clear HO_235000
                        clear HO_235001
                        clear BK213
                        clear BK214
                        clear BK215
                        clear BK226
                        clear BK234
                        clear HB
                        have HO_227000 := n0_
                        have HO_227001 := n1_
                        have HO_235000 := n2_
                        have HO_235001 := n3_
                        have BK213 := n4_
                        have BK214 := n5_
                        have BK215 := n6_
                        have BK226 := n7_
                        have BK234 := n8_
                        have HB := n9_
                        clear n0_ n1_ n2_ n3_ n4_ n5_ n6_ n7_ n8_ n9_
                        (try clear hb)
                        (try clear hb2)
                        (try clear hk)
                        (try clear hi)
                        refine hK.out _ _ ⟨(blk_cell BK215.out 0).trans rfl, (blk_cell BK215.out 1).trans rfl, (blk_cell BK214.out 0).trans rfl, (blk_cell BK214.out 1).trans rfl⟩ (fun hHeld => ?_)
                        clear hK K
                        refine norm_ (a' := ?_) ?_ ?_
                        rotate_left
                        · show Act.put _ (some 79) _ = _
                          simp only [Act.put, List.setIfInBounds_toArray, List.set_cons_zero, List.set_cons_succ, i64_w, i32_w]
                          rfl
                        refine pure_ (i := 2) (N := some 80) (v := ?_) (a' := ?_) #[true, true, true, false, false, false, false, false, false, false, false, false, false] rfl rfl (any_of HT_.out (by kernel_rfl)) (fun _ _ _ h => h) (Or.inl ⟨by rfl, ?_⟩) ?_ ?_
                        rotate_left
                        · intro w'
                          go_simp
                          with_reducible rfl
                        rotate_left
                        · simp only [Act.put, List.setIfInBounds_toArray, List.set_cons_zero, List.set_cons_succ, i64_w, i32_w]
                          rfl
                        refine pure_ (i := 3) (N := some 81) (v := ?_) (a' := ?_) #[true, true, true, true, false, false, false, false, false, false, false, false, false] rfl rfl (any_of HT_.out (by kernel_rfl)) (fun _ _ _ h => h) (Or.inl ⟨by rfl, ?_⟩) ?_ ?_
                        rotate_left
                        · intro w'
                          go_simp
                          with_reducible rfl
                        rotate_left
                        · simp only [Act.put, List.setIfInBounds_toArray, List.set_cons_zero, List.set_cons_succ, i64_w, i32_w]
                          rfl
                        refine take_ (i := 4) (N := some 82) (v := ?_) (a' := ?_) #[true, true, true, true, true, false, false, false, false, false, false, false, false] rfl rfl (take_ofW HT_.out HW_.out (by kernel_rfl)) (fun _ _ _ h => h) (Or.inl ⟨by rfl, ?_⟩) hHeld ?_ ?_
                        rotate_left
                        · rintro w' ⟨s0, s1, s2, s3⟩
                          go_simp
                          with_reducible rfl
                        rotate_left
                        · simp only [Act.put, List.setIfInBounds_toArray, List.set_cons_zero, List.set_cons_succ, i64_w, i32_w]
                          rfl
                        refine take_ (i := 5) (N := some 83) (v := ?_) (a' := ?_) #[true, true, true, true, true, true, false, false, false, false, false, false, false] rfl rfl (take_ofW HT_.out HW_.out (by kernel_rfl)) (fun _ _ _ h => h) (Or.inl ⟨by rfl, ?_⟩) hHeld ?_ ?_
                        rotate_left
                        · rintro w' ⟨s0, s1, s2, s3⟩
                          go_simp
                          with_reducible rfl
                        rotate_left
                        · simp only [Act.put, List.setIfInBounds_toArray, List.set_cons_zero, List.set_cons_succ, i64_w, i32_w]
                          rfl
                        refine take_ (i := 7) (N := some 85) (v := ?_) (a' := ?_) #[true, true, true, true, true, true, false, true, false, false, false, false, false] rfl rfl (take_ofW HT_.out HW_.out (by kernel_rfl)) (fun _ _ _ h => h) (Or.inl ⟨by rfl, ?_⟩) hHeld ?_ ?_
                        rotate_left
                        · rintro w' ⟨s0, s1, s2, s3⟩
                          go_simp
                          with_reducible rfl
                        rotate_left
                        · simp only [Act.put, List.setIfInBounds_toArray, List.set_cons_zero, List.set_cons_succ, i64_w, i32_w]
                          rfl
                        refine take_ (i := 8) (N := some 86) (v := ?_) (a' := ?_) #[true, true, true, true, true, true, false, true, true, false, false, false, false] rfl rfl (take_ofW HT_.out HW_.out (by kernel_rfl)) (fun _ _ _ h => h) (Or.inl ⟨by rfl, ?_⟩) hHeld ?_ ?_
                        rotate_left
                        · rintro w' ⟨s0, s1, s2, s3⟩
                          go_simp
                          with_reducible rfl
                        rotate_left
                        · simp only [Act.put, List.setIfInBounds_toArray, List.set_cons_zero, List.set_cons_succ, i64_w, i32_w]
                          rfl
                        refine one_ (i := 6) (N := some 84) #[true, true, true, true, true, true, true, true, true, false, false, false, false] rfl rfl (one_of HT_.out (by kernel_rfl)) (by decide) (fun K hK => ?_)
                        refine goes_ Try.func42 (by kernel_rfl) rfl #[.agg #[.slice A0_0 l0_0.length c0_0, .slice A0_1 l0_1.length c0_1], .agg #[.slice A0_2 l0_2.length c0_2, .slice A0_3 l0_3.length c0_3]] (by rfl) rfl rfl (by (try simp only [List.map_toArray, List.map_cons, List.map_nil]); first | done | rfl | (simp only [List.length_drop, List.length_take]; rfl)) ?_
                        with_reducible refine (disk_Same.calls kj33 _ _ l0_0 _ _ l0_1 _ _ l0_2 _ _ l0_3 t243 _ ?side1 ?side2 ?side3 ?side4 ?side5 ?side6 ?side7 ?side8 A100.out).mono ?_
                        (case side1 => repeat (first | exact (Kd.C_below HR0_0.out HB.out) | (with_reducible refine Kd.C_alloc ?_ _) | (with_reducible refine Kd.C_drewN ?_ _) | (with_reducible refine Kd.C_drew ?_)))
                        (case side2 => exact HC0_0.out)
                        (case side3 => repeat (first | exact (Kd.C_below HR0_1.out HB.out) | (with_reducible refine Kd.C_alloc ?_ _) | (with_reducible refine Kd.C_drewN ?_ _) | (with_reducible refine Kd.C_drew ?_)))
                        (case side4 => exact HC0_1.out)
                        (case side5 => repeat (first | exact (Kd.C_below HR0_2.out HB.out) | (with_reducible refine Kd.C_alloc ?_ _) | (with_reducible refine Kd.C_drewN ?_ _) | (with_reducible refine Kd.C_drew ?_)))
                        (case side6 => exact HC0_2.out)
                        (case side7 => repeat (first | exact (Kd.C_below HR0_3.out HB.out) | (with_reducible refine Kd.C_alloc ?_ _) | (with_reducible refine Kd.C_drewN ?_ _) | (with_reducible refine Kd.C_drew ?_)))
                        (case side8 => exact HC0_3.out)
                        rintro e w115 ⟨rfl, hb⟩
                        refine ⟨_, rfl, ?_⟩
                        have n0_ := Aside0.mk (Kd.R_below (by (with_reducible repeat (first | apply Kd.R_alloc | apply Kd.R_drewN | apply Kd.R_drew)); exact HO_227000.out) hb)
                        have n1_ := Aside0.mk (Kd.R_below (by (with_reducible repeat (first | apply Kd.R_alloc | apply Kd.R_drewN | apply Kd.R_drew)); exact HO_227001.out) hb)
                        have n2_ := Aside0.mk (Kd.R_below (by (with_reducible repeat (first | apply Kd.R_alloc | apply Kd.R_drewN | apply Kd.R_drew)); exact HO_235000.out) hb)
                        have n3_ := Aside0.mk (Kd.R_below (by (with_reducible repeat (first | apply Kd.R_alloc | apply Kd.R_drewN | apply Kd.R_drew)); exact HO_235001.out) hb)
                        have n4_ := Aside0.mk (blk_below (g := gb213) (o := .cells #[.slice A0_0 l0_0.length c0_0, .slice A0_1 l0_1.length c0_1, .slice A0_2 l0_2.length c0_2, .slice A0_3 l0_3.length c0_3, .int .i64 a0_4, .int .i64 a0_5] 65 (0, 0)) (by (with_reducible repeat (first | refine blk_drewN ?_ _ | refine blk_drew ?_ | refine blk_alloc ?_ _)); exact BK213.out) hb)
                        have n5_ := Aside0.mk (blk_below (g := gb214) (o := .cells #[.slice A0_0 l0_0.length c0_0, .slice A0_1 l0_1.length c0_1] 63 (0, 0)) (by (with_reducible repeat (first | refine blk_drewN ?_ _ | refine blk_drew ?_ | refine blk_alloc ?_ _)); exact BK214.out) hb)
                        have n6_ := Aside0.mk (blk_below (g := gb215) (o := .cells #[.slice A0_2 l0_2.length c0_2, .slice A0_3 l0_3.length c0_3] 63 (0, 0)) (by (with_reducible repeat (first | refine blk_drewN ?_ _ | refine blk_drew ?_ | refine blk_alloc ?_ _)); exact BK215.out) hb)
                        have n7_ := Aside0.mk (blk_below (g := gb226) (o := .cells #[.slice Ao37 t219.length co37, .slice Ao42 t222.length co42] 63 (0, 0)) (by (with_reducible repeat (first | refine blk_drewN ?_ _ | refine blk_drew ?_ | refine blk_alloc ?_ _)); exact BK226.out) hb)
                        have n8_ := Aside0.mk (blk_below (g := gb234) (o := .cells #[.slice Ao45 t227.length co45, .slice Ao51 t230.length co51] 63 (0, 0)) (by (with_reducible repeat (first | refine blk_drewN ?_ _ | refine blk_drew ?_ | refine blk_alloc ?_ _)); exact BK234.out) hb)
                        have n9_ := Aside0.mk (below_step (by repeat (first | (with_reducible first | exact HB.out | apply below_alloc | apply pw_below_drewN | apply below_drew1 | refine below_set ?_ GE213.out | refine below_set ?_ GE214.out | refine below_set ?_ GE215.out | refine below_set ?_ GE226.out | refine below_set ?_ GE234.out) | exact HB.out)) hb)
                        clear HO_227000
                        clear HO_227001
                        clear HO_235000
                        clear HO_235001
                        clear BK213
                        clear BK214
                        clear BK215
                        clear BK226
                        clear BK234
                        clear HB
                        have HO_227000 := n0_
                        have HO_227001 := n1_
                        have HO_235000 := n2_
                        have HO_235001 := n3_
                        have BK213 := n4_
                        have BK214 := n5_
                        have BK215 := n6_
                        have BK226 := n7_
                        have BK234 := n8_
                        have HB := n9_
                        clear n0_ n1_ n2_ n3_ n4_ n5_ n6_ n7_ n8_ n9_
                        (try clear hb)
                        (try clear hb2)
                        (try clear hk)
                        (try clear hi)
                        refine hK.out _ _ ⟨(blk_cell BK215.out 0).trans rfl, (blk_cell BK215.out 1).trans rfl, (blk_cell BK214.out 0).trans rfl, (blk_cell BK214.out 1).trans rfl⟩ (fun hHeld => ?_)
                        clear hK K
                        refine norm_ (a' := ?_) ?_ ?_
                        rotate_left
                        · show Act.put _ (some 84) _ = _
                          simp only [Act.put, List.setIfInBounds_toArray, List.set_cons_zero, List.set_cons_succ, i64_w, i32_w]
                          rfl
                        refine one_ (i := 9) (N := some 87) #[true, true, true, true, true, true, true, true, true, true, false, false, false] rfl rfl (one_of HT_.out (by kernel_rfl)) (by decide) (fun K hK => ?_)
                        refine goes_ Try.func38 (by kernel_rfl) rfl #[.agg #[.slice A0_0 l0_0.length c0_0, .slice A0_1 l0_1.length c0_1], .agg #[.slice A0_2 l0_2.length c0_2, .slice A0_3 l0_3.length c0_3]] (by rfl) rfl rfl (by (try simp only [List.map_toArray, List.map_cons, List.map_nil]); first | done | rfl | (simp only [List.length_drop, List.length_take]; rfl)) ?_
                        with_reducible refine (assartref02_Same.calls kj33 _ _ l0_0 _ _ l0_1 _ _ l0_2 _ _ l0_3 t244 _ ?side1 ?side2 ?side3 ?side4 ?side5 ?side6 ?side7 ?side8 A101.out).mono ?_
                        (case side1 => repeat (first | exact (Kd.C_below HR0_0.out HB.out) | (with_reducible refine Kd.C_alloc ?_ _) | (with_reducible refine Kd.C_drewN ?_ _) | (with_reducible refine Kd.C_drew ?_)))
                        (case side2 => exact HC0_0.out)
                        (case side3 => repeat (first | exact (Kd.C_below HR0_1.out HB.out) | (with_reducible refine Kd.C_alloc ?_ _) | (with_reducible refine Kd.C_drewN ?_ _) | (with_reducible refine Kd.C_drew ?_)))
                        (case side4 => exact HC0_1.out)
                        (case side5 => repeat (first | exact (Kd.C_below HR0_2.out HB.out) | (with_reducible refine Kd.C_alloc ?_ _) | (with_reducible refine Kd.C_drewN ?_ _) | (with_reducible refine Kd.C_drew ?_)))
                        (case side6 => exact HC0_2.out)
                        (case side7 => repeat (first | exact (Kd.C_below HR0_3.out HB.out) | (with_reducible refine Kd.C_alloc ?_ _) | (with_reducible refine Kd.C_drewN ?_ _) | (with_reducible refine Kd.C_drew ?_)))
                        (case side8 => exact HC0_3.out)
                        rintro e w116 ⟨rfl, hb⟩
                        refine ⟨_, rfl, ?_⟩
                        have n0_ := Aside0.mk (Kd.R_below (by (with_reducible repeat (first | apply Kd.R_alloc | apply Kd.R_drewN | apply Kd.R_drew)); exact HO_227000.out) hb)
                        have n1_ := Aside0.mk (Kd.R_below (by (with_reducible repeat (first | apply Kd.R_alloc | apply Kd.R_drewN | apply Kd.R_drew)); exact HO_227001.out) hb)
                        have n2_ := Aside0.mk (Kd.R_below (by (with_reducible repeat (first | apply Kd.R_alloc | apply Kd.R_drewN | apply Kd.R_drew)); exact HO_235000.out) hb)
                        have n3_ := Aside0.mk (Kd.R_below (by (with_reducible repeat (first | apply Kd.R_alloc | apply Kd.R_drewN | apply Kd.R_drew)); exact HO_235001.out) hb)
                        have n4_ := Aside0.mk (blk_below (g := gb213) (o := .cells #[.slice A0_0 l0_0.length c0_0, .slice A0_1 l0_1.length c0_1, .slice A0_2 l0_2.length c0_2, .slice A0_3 l0_3.length c0_3, .int .i64 a0_4, .int .i64 a0_5] 65 (0, 0)) (by (with_reducible repeat (first | refine blk_drewN ?_ _ | refine blk_drew ?_ | refine blk_alloc ?_ _)); exact BK213.out) hb)
                        have n5_ := Aside0.mk (blk_below (g := gb214) (o := .cells #[.slice A0_0 l0_0.length c0_0, .slice A0_1 l0_1.length c0_1] 63 (0, 0)) (by (with_reducible repeat (first | refine blk_drewN ?_ _ | refine blk_drew ?_ | refine blk_alloc ?_ _)); exact BK214.out) hb)
                        have n6_ := Aside0.mk (blk_below (g := gb215) (o := .cells #[.slice A0_2 l0_2.length c0_2, .slice A0_3 l0_3.length c0_3] 63 (0, 0)) (by (with_reducible repeat (first | refine blk_drewN ?_ _ | refine blk_drew ?_ | refine blk_alloc ?_ _)); exact BK215.out) hb)
                        have n7_ := Aside0.mk (blk_below (g := gb226) (o := .cells #[.slice Ao37 t219.length co37, .slice Ao42 t222.length co42] 63 (0, 0)) (by (with_reducible repeat (first | refine blk_drewN ?_ _ | refine blk_drew ?_ | refine blk_alloc ?_ _)); exact BK226.out) hb)
                        have n8_ := Aside0.mk (blk_below (g := gb234) (o := .cells #[.slice Ao45 t227.length co45, .slice Ao51 t230.length co51] 63 (0, 0)) (by (with_reducible repeat (first | refine blk_drewN ?_ _ | refine blk_drew ?_ | refine blk_alloc ?_ _)); exact BK234.out) hb)
                        have n9_ := Aside0.mk (below_step (by repeat (first | (with_reducible first | exact HB.out | apply below_alloc | apply pw_below_drewN | apply below_drew1 | refine below_set ?_ GE213.out | refine below_set ?_ GE214.out | refine below_set ?_ GE215.out | refine below_set ?_ GE226.out | refine below_set ?_ GE234.out) | exact HB.out)) hb)
                        clear HO_227000
                        clear HO_227001
                        clear HO_235000
                        clear HO_235001
                        clear BK213
                        clear BK214
                        clear BK215
                        clear BK226
                        clear BK234
                        clear HB
                        have HO_227000 := n0_
                        have HO_227001 := n1_
                        have HO_235000 := n2_
                        have HO_235001 := n3_
                        have BK213 := n4_
                        have BK214 := n5_
                        have BK215 := n6_
                        have BK226 := n7_
                        have BK234 := n8_
                        have HB := n9_
                        clear n0_ n1_ n2_ n3_ n4_ n5_ n6_ n7_ n8_ n9_
                        (try clear hb)
                        (try clear hb2)
                        (try clear hk)
                        (try clear hi)
                        refine hK.out _ _ ⟨(blk_cell BK215.out 0).trans rfl, (blk_cell BK215.out 1).trans rfl, (blk_cell BK214.out 0).trans rfl, (blk_cell BK214.out 1).trans rfl⟩ (fun hHeld => ?_)
                        clear hK K
                        refine norm_ (a' := ?_) ?_ ?_
                        rotate_left
                        · show Act.put _ (some 87) _ = _
                          simp only [Act.put, List.setIfInBounds_toArray, List.set_cons_zero, List.set_cons_succ, i64_w, i32_w]
                          rfl
                        refine pure_ (i := 10) (N := some 88) (v := ?_) (a' := ?_) #[true, true, true, true, true, true, true, true, true, true, true, false, false] rfl rfl (any_of HT_.out (by kernel_rfl)) (fun _ _ _ h => h) (Or.inl ⟨by rfl, ?_⟩) ?_ ?_
                        rotate_left
                        · intro w'
                          go_simp
                          with_reducible rfl
                        rotate_left
                        · simp only [Act.put, List.setIfInBounds_toArray, List.set_cons_zero, List.set_cons_succ, i64_w, i32_w]
                          rfl
                        refine pure_ (i := 11) (N := some 89) (v := ?_) (a' := ?_) #[true, true, true, true, true, true, true, true, true, true, true, true, false] rfl rfl (any_of HT_.out (by kernel_rfl)) (fun _ _ _ h => h) (Or.inl ⟨by rfl, ?_⟩) ?_ ?_
                        rotate_left
                        · intro w'
                          go_simp
                          with_reducible rfl
                        rotate_left
                        · simp only [Act.put, List.setIfInBounds_toArray, List.set_cons_zero, List.set_cons_succ, i64_w, i32_w]
                          rfl
                        refine pure_ (i := 12) (N := some 17) (v := ?_) (a' := ?_) #[true, true, true, true, true, true, true, true, true, true, true, true, true] rfl rfl (any_of HT_.out (by kernel_rfl)) (fun _ _ _ h => h) (Or.inl ⟨by rfl, ?_⟩) ?_ ?_
                        rotate_left
                        · intro w'
                          go_simp
                          with_reducible rfl
                        rotate_left
                        · simp only [Act.put, List.setIfInBounds_toArray, List.set_cons_zero, List.set_cons_succ, i64_w, i32_w]
                          rfl
                        refine done_ (done_of HT_.out (by kernel_rfl)) ?_
                        try go_wp2
                        go_ret
                        exact ⟨by first | rfl | (simp [errW_none, errW_some] <;> rfl) | (simp [*, errW_none, errW_some] <;> rfl), by repeat (first | (with_reducible first | exact HB.out | apply below_alloc | apply pw_below_drewN | apply below_drew1 | refine below_set ?_ GE213.out | refine below_set ?_ GE214.out | refine below_set ?_ GE215.out | refine below_set ?_ GE226.out | refine below_set ?_ GE234.out) | exact HB.out)⟩
                      · rw [if_neg c104] at H
                        exact absurd H (by simp)
                    · rw [if_neg c103] at H
                      exact absurd H (by simp)
                  · replace c102 := Bool.eq_false_iff.mpr c102
                    subst c102
                    have H1 : (none) = some r := by rw [if_neg (show ¬ (false = true) by decide)] at H; exact H
                    clear H
                    have H := H1
                    clear H1
                    exact absurd H (by simp)
                · replace c99 := Bool.eq_false_iff.mpr c99
                  subst c99
                  have H1 : (if t216 = true then (if t238.toList = t240.toList then (if t239 = t241 then (some true) else (none)) else (none)) else (none)) = some r := by rw [if_neg (show ¬ (false = true) by decide)] at H; exact H
                  clear H
                  have H := H1
                  clear H1
                  by_cases c117 : t216 = true
                  · subst c117
                    have H1 : (if t238.toList = t240.toList then (if t239 = t241 then (some true) else (none)) else (none)) = some r := by rw [if_pos rfl] at H; exact H
                    clear H
                    have H := H1
                    clear H1
                    by_cases c118 : t238.toList = t240.toList
                    · rw [if_pos c118] at H
                      have c118b0 : (t238.toList == t240.toList) = true := beq_iff_eq.mpr c118
                      have c118b1 : (t238.toList != t240.toList) = false := bne_eq_false_iff_eq.mpr c118
                      clear c118
                      by_cases c119 : t239 = t241
                      · rw [if_pos c119] at H
                        have c119b0 : (t239 == t241) = true := beq_iff_eq.mpr c119
                        have c119b1 : (t239 != t241) = false := bne_eq_false_iff_eq.mpr c119
                        clear c119
                        obtain rfl := Option.some.inj H
                        have hnb120 := NB214_213.out
                        have hnc120 := NB213_214.out
                        have hnb121 := NB214_215.out
                        have hnc121 := NB215_214.out
                        have hnb122 := NB214_226.out
                        have hnc122 := NB226_214.out
                        have hnb123 := NB214_234.out
                        have hnc123 := NB234_214.out
                        have hcz124_0 : wc.cell? ⟨gb214, 0, none⟩ = some (.slice A0_0 l0_0.length c0_0) := (blk_cell BK214.out 0).trans rfl
                        have hcz124_1 : wc.cell? ⟨gb214, 1, none⟩ = some (.slice A0_1 l0_1.length c0_1) := (blk_cell BK214.out 1).trans rfl
                        have hfz124_0 := blk_frozen BK214.out 0
                        have hfz124_1 := blk_frozen BK214.out 1
                        try go_wp2_with (first | ((with_reducible refine gate_callee (f := 40) rfl ?_); refine goesL_ (some 69) rfl rfl Try.func40 (by kernel_rfl) rfl #[.agg #[.slice A0_0 l0_0.length c0_0, .slice A0_1 l0_1.length c0_1], .int .i64 a0_5] rfl (by (try simp only [List.map_toArray, List.map_cons, List.map_nil]); first | done | rfl | (simp only [List.length_drop, List.length_take]; rfl)) ?_; (with_reducible refine (disk_Read.calls _ _ l0_0 _ _ l0_1 a0_5 t238 t239 _ ?side1 ?side2 ?side3 ?side4 A96.out).mono ?_); (case side1 => repeat (first | exact (Kd.C_below HR0_0.out HB.out) | (with_reducible refine Kd.C_alloc ?_ _) | (with_reducible refine Kd.C_drewN ?_ _) | (with_reducible refine Kd.C_drew ?_))); (case side2 => exact HC0_0.out); (case side3 => repeat (first | exact (Kd.C_below HR0_1.out HB.out) | (with_reducible refine Kd.C_alloc ?_ _) | (with_reducible refine Kd.C_drewN ?_ _) | (with_reducible refine Kd.C_drew ?_))); (case side4 => exact HC0_1.out); rintro e w125 ⟨rfl, hb⟩; refine ⟨_, rfl, ?_⟩; have n0_ := Aside0.mk (Kd.R_below (by (with_reducible repeat (first | apply Kd.R_alloc | apply Kd.R_drewN | apply Kd.R_drew)); exact HO_227000.out) hb); have n1_ := Aside0.mk (Kd.R_below (by (with_reducible repeat (first | apply Kd.R_alloc | apply Kd.R_drewN | apply Kd.R_drew)); exact HO_227001.out) hb); have n2_ := Aside0.mk (Kd.R_below (by (with_reducible repeat (first | apply Kd.R_alloc | apply Kd.R_drewN | apply Kd.R_drew)); exact HO_235000.out) hb); have n3_ := Aside0.mk (Kd.R_below (by (with_reducible repeat (first | apply Kd.R_alloc | apply Kd.R_drewN | apply Kd.R_drew)); exact HO_235001.out) hb); have n4_ := Aside0.mk (blk_below (g := gb213) (o := .cells #[.slice A0_0 l0_0.length c0_0, .slice A0_1 l0_1.length c0_1, .slice A0_2 l0_2.length c0_2, .slice A0_3 l0_3.length c0_3, .int .i64 a0_4, .int .i64 a0_5] 65 (0, 0)) (by (with_reducible repeat (first | refine blk_drewN ?_ _ | refine blk_drew ?_ | refine blk_alloc ?_ _)); exact BK213.out) hb); have n5_ := Aside0.mk (blk_below (g := gb214) (o := .cells #[.slice A0_0 l0_0.length c0_0, .slice A0_1 l0_1.length c0_1] 63 (0, 0)) (by (with_reducible repeat (first | refine blk_drewN ?_ _ | refine blk_drew ?_ | refine blk_alloc ?_ _)); exact BK214.out) hb); have n6_ := Aside0.mk (blk_below (g := gb215) (o := .cells #[.slice A0_2 l0_2.length c0_2, .slice A0_3 l0_3.length c0_3] 63 (0, 0)) (by (with_reducible repeat (first | refine blk_drewN ?_ _ | refine blk_drew ?_ | refine blk_alloc ?_ _)); exact BK215.out) hb); have n7_ := Aside0.mk (blk_below (g := gb226) (o := .cells #[.slice Ao37 t219.length co37, .slice Ao42 t222.length co42] 63 (0, 0)) (by (with_reducible repeat (first | refine blk_drewN ?_ _ | refine blk_drew ?_ | refine blk_alloc ?_ _)); exact BK226.out) hb); have n8_ := Aside0.mk (blk_below (g := gb234) (o := .cells #[.slice Ao45 t227.length co45, .slice Ao51 t230.length co51] 63 (0, 0)) (by (with_reducible repeat (first | refine blk_drewN ?_ _ | refine blk_drew ?_ | refine blk_alloc ?_ _)); exact BK234.out) hb); have n9_ := Aside0.mk (below_step (by repeat (first | (with_reducible first | exact HB.out | apply below_alloc | apply pw_below_drewN | apply below_drew1 | refine below_set ?_ GE213.out | refine below_set ?_ GE214.out | refine below_set ?_ GE215.out | refine below_set ?_ GE226.out | refine below_set ?_ GE234.out) | exact HB.out)) hb); clear HO_227000; clear HO_227001; clear HO_235000; clear HO_235001; clear BK213; clear BK214; clear BK215; clear BK226; clear BK234; clear HB; have HO_227000 := n0_; have HO_227001 := n1_; have HO_235000 := n2_; have HO_235001 := n3_; have BK213 := n4_; have BK214 := n5_; have BK215 := n6_; have BK226 := n7_; have BK234 := n8_; have HB := n9_; clear n0_ n1_ n2_ n3_ n4_ n5_ n6_ n7_ n8_ n9_; (try clear hb); (try clear hb2); (try clear hk); (try clear hi); have hcz126_0 : w125.cell? ⟨gb214, 0, none⟩ = some (.slice A0_0 l0_0.length c0_0) := (blk_cell BK214.out 0).trans rfl; have hcz126_1 : w125.cell? ⟨gb214, 1, none⟩ = some (.slice A0_1 l0_1.length c0_1) := (blk_cell BK214.out 1).trans rfl; have hfz126_0 := blk_frozen BK214.out 0; have hfz126_1 := blk_frozen BK214.out 1) | ((with_reducible refine gate_callee (f := 41) rfl ?_); refine goesL_ (some 75) rfl rfl Try.func41 (by kernel_rfl) rfl #[.agg #[.slice A0_0 l0_0.length c0_0, .slice A0_1 l0_1.length c0_1], .int .i64 a0_5] rfl (by (try simp only [List.map_toArray, List.map_cons, List.map_nil]); first | done | rfl | (simp only [List.length_drop, List.length_take]; rfl)) ?_; (with_reducible refine (assartref02_Read.calls kj33 _ _ l0_0 _ _ l0_1 a0_5 t240 t241 _ ?side1 ?side2 ?side3 ?side4 A97.out).mono ?_); (case side1 => repeat (first | exact (Kd.C_below HR0_0.out HB.out) | (with_reducible refine Kd.C_alloc ?_ _) | (with_reducible refine Kd.C_drewN ?_ _) | (with_reducible refine Kd.C_drew ?_))); (case side2 => exact HC0_0.out); (case side3 => repeat (first | exact (Kd.C_below HR0_1.out HB.out) | (with_reducible refine Kd.C_alloc ?_ _) | (with_reducible refine Kd.C_drewN ?_ _) | (with_reducible refine Kd.C_drew ?_))); (case side4 => exact HC0_1.out); rintro e w127 ⟨rfl, hb⟩; refine ⟨_, rfl, ?_⟩; have n0_ := Aside0.mk (Kd.R_below (by (with_reducible repeat (first | apply Kd.R_alloc | apply Kd.R_drewN | apply Kd.R_drew)); exact HO_227000.out) hb); have n1_ := Aside0.mk (Kd.R_below (by (with_reducible repeat (first | apply Kd.R_alloc | apply Kd.R_drewN | apply Kd.R_drew)); exact HO_227001.out) hb); have n2_ := Aside0.mk (Kd.R_below (by (with_reducible repeat (first | apply Kd.R_alloc | apply Kd.R_drewN | apply Kd.R_drew)); exact HO_235000.out) hb); have n3_ := Aside0.mk (Kd.R_below (by (with_reducible repeat (first | apply Kd.R_alloc | apply Kd.R_drewN | apply Kd.R_drew)); exact HO_235001.out) hb); have n4_ := Aside0.mk (blk_below (g := gb213) (o := .cells #[.slice A0_0 l0_0.length c0_0, .slice A0_1 l0_1.length c0_1, .slice A0_2 l0_2.length c0_2, .slice A0_3 l0_3.length c0_3, .int .i64 a0_4, .int .i64 a0_5] 65 (0, 0)) (by (with_reducible repeat (first | refine blk_drewN ?_ _ | refine blk_drew ?_ | refine blk_alloc ?_ _)); exact BK213.out) hb); have n5_ := Aside0.mk (blk_below (g := gb214) (o := .cells #[.slice A0_0 l0_0.length c0_0, .slice A0_1 l0_1.length c0_1] 63 (0, 0)) (by (with_reducible repeat (first | refine blk_drewN ?_ _ | refine blk_drew ?_ | refine blk_alloc ?_ _)); exact BK214.out) hb); have n6_ := Aside0.mk (blk_below (g := gb215) (o := .cells #[.slice A0_2 l0_2.length c0_2, .slice A0_3 l0_3.length c0_3] 63 (0, 0)) (by (with_reducible repeat (first | refine blk_drewN ?_ _ | refine blk_drew ?_ | refine blk_alloc ?_ _)); exact BK215.out) hb); have n7_ := Aside0.mk (blk_below (g := gb226) (o := .cells #[.slice Ao37 t219.length co37, .slice Ao42 t222.length co42] 63 (0, 0)) (by (with_reducible repeat (first | refine blk_drewN ?_ _ | refine blk_drew ?_ | refine blk_alloc ?_ _)); exact BK226.out) hb); have n8_ := Aside0.mk (blk_below (g := gb234) (o := .cells #[.slice Ao45 t227.length co45, .slice Ao51 t230.length co51] 63 (0, 0)) (by (with_reducible repeat (first | refine blk_drewN ?_ _ | refine blk_drew ?_ | refine blk_alloc ?_ _)); exact BK234.out) hb); have n9_ := Aside0.mk (below_step (by repeat (first | (with_reducible first | exact HB.out | apply below_alloc | apply pw_below_drewN | apply below_drew1 | refine below_set ?_ GE213.out | refine below_set ?_ GE214.out | refine below_set ?_ GE215.out | refine below_set ?_ GE226.out | refine below_set ?_ GE234.out) | exact HB.out)) hb); clear HO_227000; clear HO_227001; clear HO_235000; clear HO_235001; clear BK213; clear BK214; clear BK215; clear BK226; clear BK234; clear HB; have HO_227000 := n0_; have HO_227001 := n1_; have HO_235000 := n2_; have HO_235001 := n3_; have BK213 := n4_; have BK214 := n5_; have BK215 := n6_; have BK226 := n7_; have BK234 := n8_; have HB := n9_; clear n0_ n1_ n2_ n3_ n4_ n5_ n6_ n7_ n8_ n9_; (try clear hb); (try clear hb2); (try clear hk); (try clear hi)))
                        have n0_ := Aside0.mk (Kd.R_drew HO_227000.out)
                        have n1_ := Aside0.mk (Kd.R_drew HO_227001.out)
                        have n2_ := Aside0.mk (Kd.R_drew HO_235000.out)
                        have n3_ := Aside0.mk (Kd.R_drew HO_235001.out)
                        have n4_ := Aside0.mk (blk_drew BK213.out)
                        have n5_ := Aside0.mk (blk_drew BK214.out)
                        have n6_ := Aside0.mk (blk_drew BK215.out)
                        have n7_ := Aside0.mk (blk_drew BK226.out)
                        have n8_ := Aside0.mk (blk_drew BK234.out)
                        have n9_ := Aside0.mk (below_drew1 HB.out)
                        clear HO_227000
                        clear HO_227001
                        clear HO_235000
                        clear HO_235001
                        clear BK213
                        clear BK214
                        clear BK215
                        clear BK226
                        clear BK234
                        clear HB
                        have HO_227000 := n0_
                        have HO_227001 := n1_
                        have HO_235000 := n2_
                        have HO_235001 := n3_
                        have BK213 := n4_
                        have BK214 := n5_
                        have BK215 := n6_
                        have BK226 := n7_
                        have BK234 := n8_
                        have HB := n9_
                        clear n0_ n1_ n2_ n3_ n4_ n5_ n6_ n7_ n8_ n9_
                        refine start_ (n := 13) (S := fun w' => w'.cell? ⟨gb215, 0, none⟩ = some (.slice A0_2 l0_2.length c0_2) ∧ w'.cell? ⟨gb215, 1, none⟩ = some (.slice A0_3 l0_3.length c0_3)) (ds := []) #[false, false, false, false, false, false, false, false, false, false, false, false, false] (by kernel_rfl) rfl rfl ⟨(blk_cell BK215.out 0).trans rfl, (blk_cell BK215.out 1).trans rfl⟩ (fun hHeld => ?_); refine with_tabW assartlaw02_DiskTells.tab17 assartlaw02_DiskTells.bits17 (fun HT_ HW_ => ?_)
                        generalize w127.drew = w128 at HO_227000 HO_227001 HO_235000 HO_235001 BK213 BK214 BK215 BK226 BK234 HB hHeld ⊢
                        refine take_ (i := 0) (N := some 78) (v := ?_) (a' := ?_) #[true, false, false, false, false, false, false, false, false, false, false, false, false] rfl rfl (take_ofW HT_.out HW_.out (by kernel_rfl)) (fun _ _ _ h => h) (Or.inl ⟨by rfl, ?_⟩) hHeld ?_ ?_
                        rotate_left
                        · rintro w' ⟨s0, s1⟩
                          go_simp
                          with_reducible rfl
                        rotate_left
                        · simp only [Act.put, List.setIfInBounds_toArray, List.set_cons_zero, List.set_cons_succ, i64_w, i32_w]
                          rfl
                        refine one_ (i := 1) (N := some 79) #[true, true, false, false, false, false, false, false, false, false, false, false, false] rfl rfl (one_of HT_.out (by kernel_rfl)) (by decide) (fun K hK => ?_)
                        refine goes_ Try.func37 (by kernel_rfl) rfl #[.agg #[.slice A0_2 l0_2.length c0_2, .slice A0_3 l0_3.length c0_3]] (by rfl) rfl rfl (by (try simp only [List.map_toArray, List.map_cons, List.map_nil]); first | done | rfl | (simp only [List.length_drop, List.length_take]; rfl)) ?_
                        with_reducible refine (assartref02_Right.calls kj33 _ _ l0_2 _ _ l0_3 false _ ?side1 ?side2 ?side3 ?side4 A98.out).mono ?_
                        (case side1 => repeat (first | exact (Kd.C_below HR0_2.out HB.out) | (with_reducible refine Kd.C_alloc ?_ _) | (with_reducible refine Kd.C_drewN ?_ _) | (with_reducible refine Kd.C_drew ?_)))
                        (case side2 => exact HC0_2.out)
                        (case side3 => repeat (first | exact (Kd.C_below HR0_3.out HB.out) | (with_reducible refine Kd.C_alloc ?_ _) | (with_reducible refine Kd.C_drewN ?_ _) | (with_reducible refine Kd.C_drew ?_)))
                        (case side4 => exact HC0_3.out)
                        rintro e w129 ⟨rfl, hb⟩
                        refine ⟨_, rfl, ?_⟩
                        have n0_ := Aside0.mk (Kd.R_below (by (with_reducible repeat (first | apply Kd.R_alloc | apply Kd.R_drewN | apply Kd.R_drew)); exact HO_227000.out) hb)
                        have n1_ := Aside0.mk (Kd.R_below (by (with_reducible repeat (first | apply Kd.R_alloc | apply Kd.R_drewN | apply Kd.R_drew)); exact HO_227001.out) hb)
                        have n2_ := Aside0.mk (Kd.R_below (by (with_reducible repeat (first | apply Kd.R_alloc | apply Kd.R_drewN | apply Kd.R_drew)); exact HO_235000.out) hb)
                        have n3_ := Aside0.mk (Kd.R_below (by (with_reducible repeat (first | apply Kd.R_alloc | apply Kd.R_drewN | apply Kd.R_drew)); exact HO_235001.out) hb)
                        have n4_ := Aside0.mk (blk_below (g := gb213) (o := .cells #[.slice A0_0 l0_0.length c0_0, .slice A0_1 l0_1.length c0_1, .slice A0_2 l0_2.length c0_2, .slice A0_3 l0_3.length c0_3, .int .i64 a0_4, .int .i64 a0_5] 65 (0, 0)) (by (with_reducible repeat (first | refine blk_drewN ?_ _ | refine blk_drew ?_ | refine blk_alloc ?_ _)); exact BK213.out) hb)
                        have n5_ := Aside0.mk (blk_below (g := gb214) (o := .cells #[.slice A0_0 l0_0.length c0_0, .slice A0_1 l0_1.length c0_1] 63 (0, 0)) (by (with_reducible repeat (first | refine blk_drewN ?_ _ | refine blk_drew ?_ | refine blk_alloc ?_ _)); exact BK214.out) hb)
                        have n6_ := Aside0.mk (blk_below (g := gb215) (o := .cells #[.slice A0_2 l0_2.length c0_2, .slice A0_3 l0_3.length c0_3] 63 (0, 0)) (by (with_reducible repeat (first | refine blk_drewN ?_ _ | refine blk_drew ?_ | refine blk_alloc ?_ _)); exact BK215.out) hb)
                        have n7_ := Aside0.mk (blk_below (g := gb226) (o := .cells #[.slice Ao37 t219.length co37, .slice Ao42 t222.length co42] 63 (0, 0)) (by (with_reducible repeat (first | refine blk_drewN ?_ _ | refine blk_drew ?_ | refine blk_alloc ?_ _)); exact BK226.out) hb)
                        have n8_ := Aside0.mk (blk_below (g := gb234) (o := .cells #[.slice Ao45 t227.length co45, .slice Ao51 t230.length co51] 63 (0, 0)) (by (with_reducible repeat (first | refine blk_drewN ?_ _ | refine blk_drew ?_ | refine blk_alloc ?_ _)); exact BK234.out) hb)
                        have n9_ := Aside0.mk (below_step (by repeat (first | (with_reducible first | exact HB.out | apply below_alloc | apply pw_below_drewN | apply below_drew1 | refine below_set ?_ GE213.out | refine below_set ?_ GE214.out | refine below_set ?_ GE215.out | refine below_set ?_ GE226.out | refine below_set ?_ GE234.out) | exact HB.out)) hb)
                        clear HO_227000
                        clear HO_227001
                        clear HO_235000
                        clear HO_235001
                        clear BK213
                        clear BK214
                        clear BK215
                        clear BK226
                        clear BK234
                        clear HB
                        have HO_227000 := n0_
                        have HO_227001 := n1_
                        have HO_235000 := n2_
                        have HO_235001 := n3_
                        have BK213 := n4_
                        have BK214 := n5_
                        have BK215 := n6_
                        have BK226 := n7_
                        have BK234 := n8_
                        have HB := n9_
                        clear n0_ n1_ n2_ n3_ n4_ n5_ n6_ n7_ n8_ n9_
                        (try clear hb)
                        (try clear hb2)
                        (try clear hk)
                        (try clear hi)
                        refine hK.out _ _ ⟨(blk_cell BK215.out 0).trans rfl, (blk_cell BK215.out 1).trans rfl⟩ (fun hHeld => ?_)
                        clear hK K
                        refine norm_ (a' := ?_) ?_ ?_
                        rotate_left
                        · show Act.put _ (some 79) _ = _
                          simp only [Act.put, List.setIfInBounds_toArray, List.set_cons_zero, List.set_cons_succ, i64_w, i32_w]
                          rfl
                        refine pure_ (i := 2) (N := some 80) (v := ?_) (a' := ?_) #[true, true, true, false, false, false, false, false, false, false, false, false, false] rfl rfl (any_of HT_.out (by kernel_rfl)) (fun _ _ _ h => h) (Or.inl ⟨by rfl, ?_⟩) ?_ ?_
                        rotate_left
                        · intro w'
                          go_simp
                          with_reducible rfl
                        rotate_left
                        · simp only [Act.put, List.setIfInBounds_toArray, List.set_cons_zero, List.set_cons_succ, i64_w, i32_w]
                          rfl
                        refine pure_ (i := 3) (N := some 81) (v := ?_) (a' := ?_) #[true, true, true, true, false, false, false, false, false, false, false, false, false] rfl rfl (any_of HT_.out (by kernel_rfl)) (fun _ _ _ h => h) (Or.inl ⟨by rfl, ?_⟩) ?_ ?_
                        rotate_left
                        · intro w'
                          go_simp
                          with_reducible rfl
                        rotate_left
                        · simp only [Act.put, List.setIfInBounds_toArray, List.set_cons_zero, List.set_cons_succ, i64_w, i32_w]
                          rfl
                        refine pure_ (i := 4) (N := some 82) (v := undef) (a' := ?_) #[true, true, true, true, true, false, false, false, false, false, false, false, false] rfl rfl (any_of HT_.out (by kernel_rfl)) (fun _ _ _ h => h) (Or.inr ⟨by rfl, rfl⟩) ?_ ?_
                        rotate_left
                        · simp only [Act.put, List.setIfInBounds_toArray, List.set_cons_zero, List.set_cons_succ, i64_w, i32_w]
                          rfl
                        refine pure_ (i := 5) (N := some 83) (v := undef) (a' := ?_) #[true, true, true, true, true, true, false, false, false, false, false, false, false] rfl rfl (any_of HT_.out (by kernel_rfl)) (fun _ _ _ h => h) (Or.inr ⟨by rfl, rfl⟩) ?_ ?_
                        rotate_left
                        · simp only [Act.put, List.setIfInBounds_toArray, List.set_cons_zero, List.set_cons_succ, i64_w, i32_w]
                          rfl
                        refine pure_ (i := 6) (N := some 84) (v := undef) (a' := ?_) #[true, true, true, true, true, true, true, false, false, false, false, false, false] rfl rfl (any_of HT_.out (by kernel_rfl)) (fun _ _ _ h => h) (Or.inr ⟨by rfl, rfl⟩) ?_ ?_
                        rotate_left
                        · simp only [Act.put, List.setIfInBounds_toArray, List.set_cons_zero, List.set_cons_succ, i64_w, i32_w]
                          rfl
                        refine pure_ (i := 7) (N := some 85) (v := undef) (a' := ?_) #[true, true, true, true, true, true, true, true, false, false, false, false, false] rfl rfl (any_of HT_.out (by kernel_rfl)) (fun _ _ _ h => h) (Or.inr ⟨by rfl, rfl⟩) ?_ ?_
                        rotate_left
                        · simp only [Act.put, List.setIfInBounds_toArray, List.set_cons_zero, List.set_cons_succ, i64_w, i32_w]
                          rfl
                        refine pure_ (i := 8) (N := some 86) (v := undef) (a' := ?_) #[true, true, true, true, true, true, true, true, true, false, false, false, false] rfl rfl (any_of HT_.out (by kernel_rfl)) (fun _ _ _ h => h) (Or.inr ⟨by rfl, rfl⟩) ?_ ?_
                        rotate_left
                        · simp only [Act.put, List.setIfInBounds_toArray, List.set_cons_zero, List.set_cons_succ, i64_w, i32_w]
                          rfl
                        refine pure_ (i := 9) (N := some 87) (v := undef) (a' := ?_) #[true, true, true, true, true, true, true, true, true, true, false, false, false] rfl rfl (any_of HT_.out (by kernel_rfl)) (fun _ _ _ h => h) (Or.inr ⟨by rfl, rfl⟩) ?_ ?_
                        rotate_left
                        · simp only [Act.put, List.setIfInBounds_toArray, List.set_cons_zero, List.set_cons_succ, i64_w, i32_w]
                          rfl
                        refine pure_ (i := 10) (N := some 88) (v := undef) (a' := ?_) #[true, true, true, true, true, true, true, true, true, true, true, false, false] rfl rfl (any_of HT_.out (by kernel_rfl)) (fun _ _ _ h => h) (Or.inr ⟨by rfl, rfl⟩) ?_ ?_
                        rotate_left
                        · simp only [Act.put, List.setIfInBounds_toArray, List.set_cons_zero, List.set_cons_succ, i64_w, i32_w]
                          rfl
                        refine pure_ (i := 11) (N := some 89) (v := ?_) (a' := ?_) #[true, true, true, true, true, true, true, true, true, true, true, true, false] rfl rfl (any_of HT_.out (by kernel_rfl)) (fun _ _ _ h => h) (Or.inl ⟨by rfl, ?_⟩) ?_ ?_
                        rotate_left
                        · intro w'
                          go_simp
                          with_reducible rfl
                        rotate_left
                        · simp only [Act.put, List.setIfInBounds_toArray, List.set_cons_zero, List.set_cons_succ, i64_w, i32_w]
                          rfl
                        refine pure_ (i := 12) (N := some 17) (v := ?_) (a' := ?_) #[true, true, true, true, true, true, true, true, true, true, true, true, true] rfl rfl (any_of HT_.out (by kernel_rfl)) (fun _ _ _ h => h) (Or.inl ⟨by rfl, ?_⟩) ?_ ?_
                        rotate_left
                        · intro w'
                          go_simp
                          with_reducible rfl
                        rotate_left
                        · simp only [Act.put, List.setIfInBounds_toArray, List.set_cons_zero, List.set_cons_succ, i64_w, i32_w]
                          rfl
                        refine done_ (done_of HT_.out (by kernel_rfl)) ?_
                        try go_wp2
                        go_ret
                        exact ⟨by first | rfl | (simp [errW_none, errW_some] <;> rfl) | (simp [*, errW_none, errW_some] <;> rfl), by repeat (first | (with_reducible first | exact HB.out | apply below_alloc | apply pw_below_drewN | apply below_drew1 | refine below_set ?_ GE213.out | refine below_set ?_ GE214.out | refine below_set ?_ GE215.out | refine below_set ?_ GE226.out | refine below_set ?_ GE234.out) | exact HB.out)⟩
                      · rw [if_neg c119] at H
                        exact absurd H (by simp)
                    · rw [if_neg c118] at H
                      exact absurd H (by simp)
                  · replace c117 := Bool.eq_false_iff.mpr c117
                    subst c117
                    have H1 : (none) = some r := by rw [if_neg (show ¬ (false = true) by decide)] at H; exact H
                    clear H
                    have H := H1
                    clear H1
                    exact absurd H (by simp)
              · replace c95 := Bool.eq_false_iff.mpr c95
                subst c95
                have H1 : (some t216) = some r := by rw [if_neg (show ¬ (false = true) by decide)] at H; exact H
                clear H
                have H := H1
                clear H1
                obtain rfl := Option.some.inj H
                go_wp2
                go_ret
                exact ⟨by first | rfl | (simp [errW_none, errW_some] <;> rfl) | (simp [*, errW_none, errW_some] <;> rfl), by repeat (first | (with_reducible first | exact HB.out | apply below_alloc | apply pw_below_drewN | apply below_drew1 | refine below_set ?_ GE213.out | refine below_set ?_ GE214.out | refine below_set ?_ GE215.out | refine below_set ?_ GE226.out | refine below_set ?_ GE234.out) | exact HB.out)⟩
end Go.Proofs.Ytgjjcgemelafaaa.P
