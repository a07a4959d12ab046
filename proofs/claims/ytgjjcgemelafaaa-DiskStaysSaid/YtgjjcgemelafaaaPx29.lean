-- By wip/tools/drive.py: the kit's print, with contracts of this session's own among the functions.
import Derived.Test.YtgjjcgemelafaaaPx0
import Derived.Test.YtgjjcgemelafaaaPx10
import Derived.Test.YtgjjcgemelafaaaPx14
import Derived.Test.YtgjjcgemelafaaaPx20
import Derived.Test.YtgjjcgemelafaaaPx21
import Derived.Test.YtgjjcgemelafaaaPx22
import Derived.Test.YtgjjcgemelafaaaPx23
namespace Go.Proofs.Ytgjjcgemelafaaa.P
open Go.RowKit Go.Proofs.YtgjjcgemelafaaaW.PrintWords Go.Proofs.YtgjjcgemelafaaaW.PrintLast Go.Proofs.YtgjjcgemelafaaaW.PrintMore
attribute [local go_sem] max2_int min2_int max_two min_two max_three min_three max_four min_four   -- for this text's walks alone
set_option linter.unusedVariables false
set_option linter.unusedSimpArgs false
mutual
def L2_DiskStays.j0 : Nat → List Bool → Bool → Bool → List ByteArray → List (S79) → Option (Bool)
 | 0, _, _, _, _, _ => none
 | k + 1, x1, x5, x28, x371000, x371001 => if x28 = true then (some x5) else ((disk_Crash.f x371000 x371001 x1).bind fun bt374 => ((disk_Flush.f x371000 x371001).bind fun bt381 => ((R2_Right.f k bt374.1 bt374.2).bind fun t388 => (if t388 = true then ((R2_Right.f k bt381.1 bt381.2).bind fun t389 => (if t389 = true then (if (wrap64 ((bt374.2.length : Int) + (bt381.2.length : Int))) = 0 then (if (bt374.1.length : Int) = (x371000.length : Int) then (L2_DiskStays.j1 k x1 x5 ((bt381.1.length : Int) != (x371000.length : Int)) x371000 x371001 bt374.1 bt374.2 bt381.1 bt381.2) else (L2_DiskStays.j1 k x1 x5 true x371000 x371001 bt374.1 bt374.2 bt381.1 bt381.2)) else (L2_DiskStays.j1 k x1 x5 true x371000 x371001 bt374.1 bt374.2 bt381.1 bt381.2)) else (L2_DiskStays.j1 k x1 x5 true x371000 x371001 bt374.1 bt374.2 bt381.1 bt381.2))) else (L2_DiskStays.j1 k x1 x5 true x371000 x371001 bt374.1 bt374.2 bt381.1 bt381.2)))))
def L2_DiskStays.j1 : Nat → List Bool → Bool → Bool → List ByteArray → List (S79) → List ByteArray → List (S79) → List ByteArray → List (S79) → Option (Bool)
 | 0, _, _, _, _, _, _, _, _, _ => none
 | k + 1, x1, x5, x70, x371000, x371001, x381000, x381001, x388000, x388001 => if x70 = true then (none) else (L2_DiskStays.l0 k x1 x5 (([] : List Bool)) 0 x371000 x371001 x381000 x381001 x388000 x388001)
def L2_DiskStays.l0 : Nat → List Bool → Bool → List Bool → Int → List ByteArray → List (S79) → List ByteArray → List (S79) → List ByteArray → List (S79) → Option (Bool)
 | 0, _, _, _, _, _, _, _, _, _, _ => none
 | k + 1, x1, x5, x8, x9, x371000, x371001, x381000, x381001, x388000, x388001 => if x9 < (x371001.length : Int) then (if x8.length < 140737488355328 then (L2_DiskStays.l0 k x1 x5 (x8 ++ [true]) (wrap64 (x9 + 1)) x371000 x371001 x381000 x381001 x388000 x388001) else (none)) else (L2_DiskStays.l1 k x1 x5 x8 0 x371000 x371001 x381000 x381001 x388000 x388001)
def L2_DiskStays.l1 : Nat → List Bool → Bool → List Bool → Int → List ByteArray → List (S79) → List ByteArray → List (S79) → List ByteArray → List (S79) → Option (Bool)
 | 0, _, _, _, _, _, _, _, _, _, _ => none
 | k + 1, x1, x5, x8, x10, x371000, x371001, x381000, x381001, x388000, x388001 => if x10 < (x371000.length : Int) then (if 0 ≤ x10 then (if x10 < (x381000.length : Int) then (L2_DiskStays.l2 k x1 x5 x8 x10 ((rdOf ByteArray.empty x381000 x10).toList == (rdOf ByteArray.empty x371000 x10).toList) 0 x371000 x371001 x381000 x381001 x388000 x388001) else (none)) else (none)) else (if x5 = true then ((disk_Crash.f x371000 x371001 x8).bind fun bt404 => ((R2_Same.f k bt404.1 bt404.2 x388000 x388001).bind fun t410 => (if t410 = true then ((disk_Flush.f x388000 x388001).bind fun bt411 => ((R2_Same.f k bt411.1 bt411.2 x388000 x388001).bind fun t417 => (if t417 = true then ((disk_Crash.f x388000 x388001 x1).bind fun bt418 => ((R2_Same.f k bt418.1 bt418.2 x388000 x388001).bind fun t424 => (some t424))) else (none)))) else (none)))) else (none))
def L2_DiskStays.l2 : Nat → List Bool → Bool → List Bool → Int → Bool → Int → List ByteArray → List (S79) → List ByteArray → List (S79) → List ByteArray → List (S79) → Option (Bool)
 | 0, _, _, _, _, _, _, _, _, _, _, _, _ => none
 | k + 1, x1, x5, x8, x10, x11, x12, x371000, x371001, x381000, x381001, x388000, x388001 => if x12 < (x371001.length : Int) then (if x11 = true then (L2_DiskStays.l2 k x1 x5 x8 x10 true (wrap64 (x12 + 1)) x371000 x371001 x381000 x381001 x388000 x388001) else (if 0 ≤ x12 then (if ((rd_T79 x371001 x12).f0) = x10 then (if 0 ≤ x10 then (if x10 < (x381000.length : Int) then (L2_DiskStays.l2 k x1 x5 x8 x10 (((rd_T79 x371001 x12).f1).toList == (rdOf ByteArray.empty x381000 x10).toList) (wrap64 (x12 + 1)) x371000 x371001 x381000 x381001 x388000 x388001) else (none)) else (none)) else (L2_DiskStays.l2 k x1 x5 x8 x10 false (wrap64 (x12 + 1)) x371000 x371001 x381000 x381001 x388000 x388001)) else (none))) else ((disk_Read.f x371000 x371001 x10).bind fun bt401 => (if x11 = true then (if bt401.2 = 0 then (if 0 ≤ x10 then (if x10 < (x388000.length : Int) then (if (rdOf ByteArray.empty x388000 x10).toList = bt401.1.toList then (L2_DiskStays.l1 k x1 x5 x8 (wrap64 (x10 + 1)) x371000 x371001 x381000 x381001 x388000 x388001) else (none)) else (none)) else (none)) else (none)) else (none)))
end
def L2_DiskStays.f (k : Nat) (l0_0 : List ByteArray) (l0_1 : List (S79)) (l1 : List Bool) : Option (Bool) := (L2_shown.f k).bind fun t371 => ((R2_Small.f k l0_0 l0_1 60).bind fun t372 => (if t372 = true then ((R2_Right.f k l0_0 l0_1).bind fun t373 => (if t373 = true then (L2_DiskStays.j0 k l1 t371 (decide ((l1.length : Int) > 100)) l0_0 l0_1) else (L2_DiskStays.j0 k l1 t371 true l0_0 l0_1))) else (L2_DiskStays.j0 k l1 t371 true l0_0 l0_1)))
def L2_DiskStays.T16 : Bool × List (List Nat × List Nat) := (true, [([], []), ([0], [0]), ([], []), ([1, 2], [1, 2]), ([3], [3]), ([], []), ([5], [5]), ([], []), ([6, 7], [6, 7]), ([8], [8]), ([4, 9], [4, 9]), ([10, 0, 1, 2, 3, 4, 5, 6, 7, 8, 9, 10], [10])])
def L2_DiskStays.B16 : List Nat := [0, 1, 0, 7, 15, 0, 32, 0, 224, 480, 1023, 2047]
theorem L2_DiskStays.tab16 : rtab .any (opsOf Try.f9 16) = L2_DiskStays.T16 := by kernel_rfl
theorem L2_DiskStays.bits16 : waitsOk L2_DiskStays.T16.2 L2_DiskStays.B16 = true := by kernel_rfl
def L2_DiskStays.T20 : Bool × List (List Nat × List Nat) := (true, [([], []), ([0], [0]), ([1], [1]), ([2, 1], [1, 2]), ([1], [1]), ([3, 4, 1], [1, 3, 4]), ([5, 1], [1, 5]), ([6, 1], [1, 6]), ([1], [1]), ([7, 8, 1], [1, 7, 8]), ([9, 1, 1], [1, 9]), ([10], [10]), ([11, 10], [10, 11]), ([10], [10]), ([12, 13, 10], [10, 12, 13]), ([14, 10], [10, 14]), ([15, 10], [10, 15]), ([10], [10]), ([17, 10], [10, 17]), ([10], [10]), ([18, 19, 10], [10, 18, 19]), ([20, 10], [10, 20]), ([16, 21, 10], [10, 16, 21]), ([10, 22, 1], [1, 10, 22]), ([1, 23], [1, 23]), ([24, 10, 0, 1, 2, 3, 4, 5, 6, 7, 8, 9, 10, 11, 12, 13, 14, 15, 16, 17, 18, 19, 20, 21, 22, 23, 24], [0, 24])])
def L2_DiskStays.B20 : List Nat := [0, 1, 3, 7, 3, 31, 63, 127, 3, 511, 1023, 2047, 4095, 2047, 16383, 32767, 65535, 2047, 133119, 2047, 919551, 1968127, 4194303, 8388607, 16777215, 33554431]
theorem L2_DiskStays.tab20 : rtab .any (opsOf Try.f9 20) = L2_DiskStays.T20 := by kernel_rfl
theorem L2_DiskStays.bits20 : waitsOk L2_DiskStays.T20.2 L2_DiskStays.B20 = true := by kernel_rfl
def L2_DiskStays.T24 : Bool × List (List Nat × List Nat) := (true, [([], []), ([0], [0]), ([1], [1]), ([1], [1]), ([2, 3, 1, 1], [1, 2, 3]), ([1], [1]), ([4, 5, 4, 1], [1, 4, 5]), ([1, 6], [1, 6]), ([7, 6], [7]), ([8], [8]), ([9, 8, 8], [8, 9]), ([8], [8]), ([10, 11, 10, 8], [8, 10, 11]), ([8, 12], [8, 12]), ([13, 12], [13]), ([14], [14]), ([14], [14]), ([15, 16, 14, 14], [14, 15, 16]), ([14], [14]), ([17, 18, 17, 14], [14, 17, 18]), ([14, 19], [14, 19]), ([20, 19, 0, 1, 2, 3, 4, 5, 6, 7, 8, 9, 10, 11, 12, 13, 14, 15, 16, 17, 18, 19, 20], [20])])
def L2_DiskStays.B24 : List Nat := [0, 1, 3, 3, 15, 3, 63, 127, 255, 511, 1023, 511, 4095, 8191, 16383, 32767, 32767, 131071, 32767, 524287, 1048575, 2097151]
theorem L2_DiskStays.tab24 : rtab .any (opsOf Try.f9 24) = L2_DiskStays.T24 := by kernel_rfl
theorem L2_DiskStays.bits24 : waitsOk L2_DiskStays.T24.2 L2_DiskStays.B24 = true := by kernel_rfl
set_option maxHeartbeats 8000000 in
set_option maxRecDepth 100000 in
theorem L2_DiskStays.calls (k : Nat) (A0_0 : Option Addr) (c0_0 : Nat) (l0_0 : List ByteArray) (A0_1 : Option Addr) (c0_1 : Nat) (l0_1 : List (S79)) (A1 : Option Addr) (c1 : Nat) (l1 : List Bool) (r : Bool) (w : World) (hr0_0 : Kd.C Kd.string w A0_0 l0_0.length l0_0) (hc0_0 : l0_0.length ≤ c0_0) (hr0_1 : Kd.C k79 w A0_1 l0_1.length l0_1) (hc0_1 : l0_1.length ≤ c0_1) (hr1 : Kd.C Kd.bool w A1 l1.length l1) (hc1 : l1.length ≤ c1) (h : L2_DiskStays.f k l0_0 l0_1 l1 = some r) :
  Calls Try.prog 9 #[.agg #[.slice A0_0 l0_0.length c0_0, .slice A0_1 l0_1.length c0_1], .slice A1 l1.length c1] w fun e w' => e = .returned (.bool r) ∧ Below w.heap.size w w' := by
 have hu63 := Try.underlying63
 have HR0_0 := Aside0.mk hr0_0
 have HC0_0 := Aside0.mk hc0_0
 clear hr0_0 hc0_0
 have HR0_1 := Aside0.mk hr0_1
 have HC0_1 := Aside0.mk hc0_1
 clear hr0_1 hc0_1
 have HR1 := Aside0.mk hr1
 have HC1 := Aside0.mk hc1
 clear hr1 hc1
 have HB := Aside0.mk (Below.refl w.heap.size w)
 have H : ((L2_shown.f k).bind fun t371 => ((R2_Small.f k l0_0 l0_1 60).bind fun t372 => (if t372 = true then ((R2_Right.f k l0_0 l0_1).bind fun t373 => (if t373 = true then (L2_DiskStays.j0 k l1 t371 (decide ((l1.length : Int) > 100)) l0_0 l0_1) else (L2_DiskStays.j0 k l1 t371 true l0_0 l0_1))) else (L2_DiskStays.j0 k l1 t371 true l0_0 l0_1)))) = some r := h
 clear h
 replace H := Option.bind_eq_some_iff.mp H
 obtain ⟨t371, A30, H⟩ := H
 replace H : ((R2_Small.f k l0_0 l0_1 60).bind fun t372 => (if t372 = true then ((R2_Right.f k l0_0 l0_1).bind fun t373 => (if t373 = true then (L2_DiskStays.j0 k l1 t371 (decide ((l1.length : Int) > 100)) l0_0 l0_1) else (L2_DiskStays.j0 k l1 t371 true l0_0 l0_1))) else (L2_DiskStays.j0 k l1 t371 true l0_0 l0_1))) = some r := H
 have A3 := Aside0.mk A30
 clear A30
 have HC4 := Aside0.mk H
 clear H
 go_enter Try.func9, Try.ntmps9
 go_upto_region 2 with (first | ((with_reducible refine gate_dst (N := 2) rfl ?_); (try (refine gate_guard (by rfl) ?_; dsimp only)); refine box_event ?hg (N := 2) ?hd (cs := #[.slice A0_0 l0_0.length c0_0, .slice A0_1 l0_1.length c0_1]) (t := 63) ?hr ?_; (case hd => rfl); (case hg => rfl); (case hr => first | (go_simp; done) | (go_simp; rfl)); intro gb370 hg w5 hbox hb; have n0_ := Aside0.mk (below_step (by repeat (first | (with_reducible first | exact HB.out | apply below_alloc | apply pw_below_drewN | apply below_drew1) | exact HB.out)) hb); have n1_ := Aside0.mk (hbox); have n2_ := Aside0.mk ((by rw [hg]; exact (below_size (by repeat (first | (with_reducible first | exact HB.out | apply below_alloc | apply pw_below_drewN | apply below_drew1) | exact HB.out))) : w.heap.size ≤ gb370)); have n3_ := Aside0.mk ((by rw [hg]; exact (below_size (by repeat (first | (with_reducible first | exact HB.out | apply below_alloc | apply pw_below_drewN | apply below_drew1) | exact HB.out))) : w.heap.size ≤ gb370)); clear HB; have HB := n0_; have BK370 := n1_; have GW370 := n2_; have GE370 := n3_; clear n0_ n1_ n2_ n3_; clear hb hbox hg) | ((with_reducible refine gate_callee (f := 33) rfl ?_); refine goesL_ (some 15) rfl rfl Try.func33 (by kernel_rfl) rfl #[] rfl (by (try simp only [List.map_toArray, List.map_cons, List.map_nil]); first | done | rfl | (simp only [List.length_drop, List.length_take]; rfl)) ?_; (with_reducible refine (L2_shown.calls k  t371 _ A3.out).mono ?_); rintro e w6 ⟨rfl, hb⟩; refine ⟨_, rfl, ?_⟩; have n0_ := Aside0.mk (blk_below (g := gb370) (o := .cells #[.slice A0_0 l0_0.length c0_0, .slice A0_1 l0_1.length c0_1] 63 (0, 0)) (by (with_reducible repeat (first | refine blk_drewN ?_ _ | refine blk_drew ?_ | refine blk_alloc ?_ _)); exact BK370.out) hb); have n1_ := Aside0.mk (below_step (by repeat (first | (with_reducible first | exact HB.out | apply below_alloc | apply pw_below_drewN | apply below_drew1 | refine below_set ?_ GE370.out) | exact HB.out)) hb); clear BK370; clear HB; have BK370 := n0_; have HB := n1_; clear n0_ n1_; (try clear hb); (try clear hb2); (try clear hk); (try clear hi)))
 (try simp only [Act.put, List.setIfInBounds_toArray, List.set_cons_zero, List.set_cons_succ])
 go_cut [28] (fun v28 wc => ∃ (kq : Nat) (x28_3 : Bool), v28 = .bool x28_3 ∧ Aside0 (L2_DiskStays.j0 kq l1 t371 x28_3 l0_0 l0_1 = some r) ∧ Aside0 (kq ≤ k) ∧ Aside0 (wc.heap[gb370]? = some (.cells #[(.slice A0_0 l0_0.length c0_0), (.slice A0_1 l0_1.length c0_1)] 63 (0, 0))) ∧ Aside0 (Below w.heap.size w wc))
 case first =>
  have H := HC4.out
  clear HC4
  replace H := Option.bind_eq_some_iff.mp H
  obtain ⟨t372, A70, H⟩ := H
  replace H : (if t372 = true then ((R2_Right.f k l0_0 l0_1).bind fun t373 => (if t373 = true then (L2_DiskStays.j0 k l1 t371 (decide ((l1.length : Int) > 100)) l0_0 l0_1) else (L2_DiskStays.j0 k l1 t371 true l0_0 l0_1))) else (L2_DiskStays.j0 k l1 t371 true l0_0 l0_1)) = some r := H
  have A7 := Aside0.mk A70
  clear A70
  by_cases c8 : t372 = true
  ·subst c8
   have H1 : ((R2_Right.f k l0_0 l0_1).bind fun t373 => (if t373 = true then (L2_DiskStays.j0 k l1 t371 (decide ((l1.length : Int) > 100)) l0_0 l0_1) else (L2_DiskStays.j0 k l1 t371 true l0_0 l0_1))) = some r := by rw [if_pos rfl] at H; exact H
   clear H
   have H := H1
   clear H1
   replace H := Option.bind_eq_some_iff.mp H
   obtain ⟨t373, A90, H⟩ := H
   replace H : (if t373 = true then (L2_DiskStays.j0 k l1 t371 (decide ((l1.length : Int) > 100)) l0_0 l0_1) else (L2_DiskStays.j0 k l1 t371 true l0_0 l0_1)) = some r := H
   have A9 := Aside0.mk A90
   clear A90
   by_cases c10 : t373 = true
   ·subst c10
    have H1 : (L2_DiskStays.j0 k l1 t371 (decide ((l1.length : Int) > 100)) l0_0 l0_1) = some r := by rw [if_pos rfl] at H; exact H
    clear H
    have H := H1
    clear H1
    have H' := Aside0.mk H
    clear H
    have hcz11_0 : w6.cell? ⟨gb370, 0, none⟩ = some (.slice A0_0 l0_0.length c0_0) := (blk_cell BK370.out 0).trans rfl
    have hcz11_1 : w6.cell? ⟨gb370, 1, none⟩ = some (.slice A0_1 l0_1.length c0_1) := (blk_cell BK370.out 1).trans rfl
    have hfz11_0 := blk_frozen BK370.out 0
    have hfz11_1 := blk_frozen BK370.out 1
    go_wp2_with (first | ((with_reducible refine gate_callee (f := 34) rfl ?_); refine goesL_ (some 17) rfl rfl Try.func34 (by kernel_rfl) rfl #[.agg #[.slice A0_0 l0_0.length c0_0, .slice A0_1 l0_1.length c0_1], .int .i64 60] rfl (by (try simp only [List.map_toArray, List.map_cons, List.map_nil]); first | done | rfl | (simp only [List.length_drop, List.length_take]; rfl)) ?_; (with_reducible refine (R2_Small.calls k _ _ l0_0 _ _ l0_1 60 true _ ?side1 ?side2 ?side3 ?side4 A7.out).mono ?_); (case side1 => repeat (first | exact (Kd.C_below HR0_0.out HB.out) | (with_reducible refine Kd.C_alloc ?_ _) | (with_reducible refine Kd.C_drewN ?_ _) | (with_reducible refine Kd.C_drew ?_))); (case side2 => exact HC0_0.out); (case side3 => repeat (first | exact (Kd.C_below HR0_1.out HB.out) | (with_reducible refine Kd.C_alloc ?_ _) | (with_reducible refine Kd.C_drewN ?_ _) | (with_reducible refine Kd.C_drew ?_))); (case side4 => exact HC0_1.out); rintro e w12 ⟨rfl, hb⟩; refine ⟨_, rfl, ?_⟩; have n0_ := Aside0.mk (blk_below (g := gb370) (o := .cells #[.slice A0_0 l0_0.length c0_0, .slice A0_1 l0_1.length c0_1] 63 (0, 0)) (by (with_reducible repeat (first | refine blk_drewN ?_ _ | refine blk_drew ?_ | refine blk_alloc ?_ _)); exact BK370.out) hb); have n1_ := Aside0.mk (below_step (by repeat (first | (with_reducible first | exact HB.out | apply below_alloc | apply pw_below_drewN | apply below_drew1 | refine below_set ?_ GE370.out) | exact HB.out)) hb); clear BK370; clear HB; have BK370 := n0_; have HB := n1_; clear n0_ n1_; (try clear hb); (try clear hb2); (try clear hk); (try clear hi); have hcz13_0 : w12.cell? ⟨gb370, 0, none⟩ = some (.slice A0_0 l0_0.length c0_0) := (blk_cell BK370.out 0).trans rfl; have hcz13_1 : w12.cell? ⟨gb370, 1, none⟩ = some (.slice A0_1 l0_1.length c0_1) := (blk_cell BK370.out 1).trans rfl; have hfz13_0 := blk_frozen BK370.out 0; have hfz13_1 := blk_frozen BK370.out 1) | (go_at_call 37; (with_reducible refine (R2_Right.calls k _ _ l0_0 _ _ l0_1 true _ ?side1 ?side2 ?side3 ?side4 A9.out).mono ?_); (case side1 => repeat (first | exact (Kd.C_below HR0_0.out HB.out) | (with_reducible refine Kd.C_alloc ?_ _) | (with_reducible refine Kd.C_drewN ?_ _) | (with_reducible refine Kd.C_drew ?_))); (case side2 => exact HC0_0.out); (case side3 => repeat (first | exact (Kd.C_below HR0_1.out HB.out) | (with_reducible refine Kd.C_alloc ?_ _) | (with_reducible refine Kd.C_drewN ?_ _) | (with_reducible refine Kd.C_drew ?_))); (case side4 => exact HC0_1.out); rintro e w14 ⟨rfl, hb⟩; have n0_ := Aside0.mk (blk_below (g := gb370) (o := .cells #[.slice A0_0 l0_0.length c0_0, .slice A0_1 l0_1.length c0_1] 63 (0, 0)) (by (with_reducible repeat (first | refine blk_drewN ?_ _ | refine blk_drew ?_ | refine blk_alloc ?_ _)); exact BK370.out) hb); have n1_ := Aside0.mk (below_step (by repeat (first | (with_reducible first | exact HB.out | apply below_alloc | apply pw_below_drewN | apply below_drew1 | refine below_set ?_ GE370.out) | exact HB.out)) hb); clear BK370; clear HB; have BK370 := n0_; have HB := n1_; clear n0_ n1_; (try clear hb); (try clear hb2); (try clear hk); (try clear hi)))
    go_meet
    case rel => exact ⟨_, (decide ((l1.length : Int) > 100)), (by first | rfl | (simp; done) | (simp [*]; done)), H', ⟨by first | omega | exact Nat.le_refl _⟩, ⟨by (with_reducible repeat (first | refine blk_drewN ?_ _ | refine blk_drew ?_ | refine blk_alloc ?_ _)); exact BK370.out⟩, ⟨by repeat (first | (with_reducible first | exact HB.out | apply below_alloc | apply pw_below_drewN | apply below_drew1 | refine below_set ?_ GE370.out) | exact HB.out)⟩⟩
   ·replace c10 := Bool.eq_false_iff.mpr c10
    subst c10
    have H1 : (L2_DiskStays.j0 k l1 t371 true l0_0 l0_1) = some r := by rw [if_neg (show ¬ (false = true) by decide)] at H; exact H
    clear H
    have H := H1
    clear H1
    have H' := Aside0.mk H
    clear H
    have hcz15_0 : w6.cell? ⟨gb370, 0, none⟩ = some (.slice A0_0 l0_0.length c0_0) := (blk_cell BK370.out 0).trans rfl
    have hcz15_1 : w6.cell? ⟨gb370, 1, none⟩ = some (.slice A0_1 l0_1.length c0_1) := (blk_cell BK370.out 1).trans rfl
    have hfz15_0 := blk_frozen BK370.out 0
    have hfz15_1 := blk_frozen BK370.out 1
    go_wp2_with (first | ((with_reducible refine gate_callee (f := 34) rfl ?_); refine goesL_ (some 17) rfl rfl Try.func34 (by kernel_rfl) rfl #[.agg #[.slice A0_0 l0_0.length c0_0, .slice A0_1 l0_1.length c0_1], .int .i64 60] rfl (by (try simp only [List.map_toArray, List.map_cons, List.map_nil]); first | done | rfl | (simp only [List.length_drop, List.length_take]; rfl)) ?_; (with_reducible refine (R2_Small.calls k _ _ l0_0 _ _ l0_1 60 true _ ?side1 ?side2 ?side3 ?side4 A7.out).mono ?_); (case side1 => repeat (first | exact (Kd.C_below HR0_0.out HB.out) | (with_reducible refine Kd.C_alloc ?_ _) | (with_reducible refine Kd.C_drewN ?_ _) | (with_reducible refine Kd.C_drew ?_))); (case side2 => exact HC0_0.out); (case side3 => repeat (first | exact (Kd.C_below HR0_1.out HB.out) | (with_reducible refine Kd.C_alloc ?_ _) | (with_reducible refine Kd.C_drewN ?_ _) | (with_reducible refine Kd.C_drew ?_))); (case side4 => exact HC0_1.out); rintro e w16 ⟨rfl, hb⟩; refine ⟨_, rfl, ?_⟩; have n0_ := Aside0.mk (blk_below (g := gb370) (o := .cells #[.slice A0_0 l0_0.length c0_0, .slice A0_1 l0_1.length c0_1] 63 (0, 0)) (by (with_reducible repeat (first | refine blk_drewN ?_ _ | refine blk_drew ?_ | refine blk_alloc ?_ _)); exact BK370.out) hb); have n1_ := Aside0.mk (below_step (by repeat (first | (with_reducible first | exact HB.out | apply below_alloc | apply pw_below_drewN | apply below_drew1 | refine below_set ?_ GE370.out) | exact HB.out)) hb); clear BK370; clear HB; have BK370 := n0_; have HB := n1_; clear n0_ n1_; (try clear hb); (try clear hb2); (try clear hk); (try clear hi); have hcz17_0 : w16.cell? ⟨gb370, 0, none⟩ = some (.slice A0_0 l0_0.length c0_0) := (blk_cell BK370.out 0).trans rfl; have hcz17_1 : w16.cell? ⟨gb370, 1, none⟩ = some (.slice A0_1 l0_1.length c0_1) := (blk_cell BK370.out 1).trans rfl; have hfz17_0 := blk_frozen BK370.out 0; have hfz17_1 := blk_frozen BK370.out 1) | (go_at_call 37; (with_reducible refine (R2_Right.calls k _ _ l0_0 _ _ l0_1 false _ ?side1 ?side2 ?side3 ?side4 A9.out).mono ?_); (case side1 => repeat (first | exact (Kd.C_below HR0_0.out HB.out) | (with_reducible refine Kd.C_alloc ?_ _) | (with_reducible refine Kd.C_drewN ?_ _) | (with_reducible refine Kd.C_drew ?_))); (case side2 => exact HC0_0.out); (case side3 => repeat (first | exact (Kd.C_below HR0_1.out HB.out) | (with_reducible refine Kd.C_alloc ?_ _) | (with_reducible refine Kd.C_drewN ?_ _) | (with_reducible refine Kd.C_drew ?_))); (case side4 => exact HC0_1.out); rintro e w18 ⟨rfl, hb⟩; have n0_ := Aside0.mk (blk_below (g := gb370) (o := .cells #[.slice A0_0 l0_0.length c0_0, .slice A0_1 l0_1.length c0_1] 63 (0, 0)) (by (with_reducible repeat (first | refine blk_drewN ?_ _ | refine blk_drew ?_ | refine blk_alloc ?_ _)); exact BK370.out) hb); have n1_ := Aside0.mk (below_step (by repeat (first | (with_reducible first | exact HB.out | apply below_alloc | apply pw_below_drewN | apply below_drew1 | refine below_set ?_ GE370.out) | exact HB.out)) hb); clear BK370; clear HB; have BK370 := n0_; have HB := n1_; clear n0_ n1_; (try clear hb); (try clear hb2); (try clear hk); (try clear hi)))
    go_meet
    case rel => exact ⟨_, (true), (by first | rfl | (simp; done) | (simp [*]; done)), H', ⟨by first | omega | exact Nat.le_refl _⟩, ⟨by (with_reducible repeat (first | refine blk_drewN ?_ _ | refine blk_drew ?_ | refine blk_alloc ?_ _)); exact BK370.out⟩, ⟨by repeat (first | (with_reducible first | exact HB.out | apply below_alloc | apply pw_below_drewN | apply below_drew1 | refine below_set ?_ GE370.out) | exact HB.out)⟩⟩
  ·replace c8 := Bool.eq_false_iff.mpr c8
   subst c8
   have H1 : (L2_DiskStays.j0 k l1 t371 true l0_0 l0_1) = some r := by rw [if_neg (show ¬ (false = true) by decide)] at H; exact H
   clear H
   have H := H1
   clear H1
   have H' := Aside0.mk H
   clear H
   have hcz19_0 : w6.cell? ⟨gb370, 0, none⟩ = some (.slice A0_0 l0_0.length c0_0) := (blk_cell BK370.out 0).trans rfl
   have hcz19_1 : w6.cell? ⟨gb370, 1, none⟩ = some (.slice A0_1 l0_1.length c0_1) := (blk_cell BK370.out 1).trans rfl
   have hfz19_0 := blk_frozen BK370.out 0
   have hfz19_1 := blk_frozen BK370.out 1
   go_wp2_with (first | ((with_reducible refine gate_callee (f := 34) rfl ?_); refine goesL_ (some 17) rfl rfl Try.func34 (by kernel_rfl) rfl #[.agg #[.slice A0_0 l0_0.length c0_0, .slice A0_1 l0_1.length c0_1], .int .i64 60] rfl (by (try simp only [List.map_toArray, List.map_cons, List.map_nil]); first | done | rfl | (simp only [List.length_drop, List.length_take]; rfl)) ?_; (with_reducible refine (R2_Small.calls k _ _ l0_0 _ _ l0_1 60 false _ ?side1 ?side2 ?side3 ?side4 A7.out).mono ?_); (case side1 => repeat (first | exact (Kd.C_below HR0_0.out HB.out) | (with_reducible refine Kd.C_alloc ?_ _) | (with_reducible refine Kd.C_drewN ?_ _) | (with_reducible refine Kd.C_drew ?_))); (case side2 => exact HC0_0.out); (case side3 => repeat (first | exact (Kd.C_below HR0_1.out HB.out) | (with_reducible refine Kd.C_alloc ?_ _) | (with_reducible refine Kd.C_drewN ?_ _) | (with_reducible refine Kd.C_drew ?_))); (case side4 => exact HC0_1.out); rintro e w20 ⟨rfl, hb⟩; refine ⟨_, rfl, ?_⟩; have n0_ := Aside0.mk (blk_below (g := gb370) (o := .cells #[.slice A0_0 l0_0.length c0_0, .slice A0_1 l0_1.length c0_1] 63 (0, 0)) (by (with_reducible repeat (first | refine blk_drewN ?_ _ | refine blk_drew ?_ | refine blk_alloc ?_ _)); exact BK370.out) hb); have n1_ := Aside0.mk (below_step (by repeat (first | (with_reducible first | exact HB.out | apply below_alloc | apply pw_below_drewN | apply below_drew1 | refine below_set ?_ GE370.out) | exact HB.out)) hb); clear BK370; clear HB; have BK370 := n0_; have HB := n1_; clear n0_ n1_; (try clear hb); (try clear hb2); (try clear hk); (try clear hi)))
   go_meet
   case rel => exact ⟨_, (true), (by first | rfl | (simp; done) | (simp [*]; done)), H', ⟨by first | omega | exact Nat.le_refl _⟩, ⟨by (with_reducible repeat (first | refine blk_drewN ?_ _ | refine blk_drew ?_ | refine blk_alloc ?_ _)); exact BK370.out⟩, ⟨by repeat (first | (with_reducible first | exact HB.out | apply below_alloc | apply pw_below_drewN | apply below_drew1 | refine below_set ?_ GE370.out) | exact HB.out)⟩⟩
 case rest =>
  clear HC4
  try clear c1
  try clear p2
  try clear c3
  try clear c8
  try clear c9
  try clear c10
  try clear hcz11_0
  try clear hcz11_1
  try clear hcz13_0
  try clear hcz13_1
  try clear hcz15_0
  try clear hcz15_1
  try clear hcz17_0
  try clear hcz17_1
  try clear hcz19_0
  try clear hcz19_1
  try clear hfz11_0
  try clear hfz11_1
  try clear hfz13_0
  try clear hfz13_1
  try clear hfz15_0
  try clear hfz15_1
  try clear hfz17_0
  try clear hfz17_1
  try clear hfz19_0
  try clear hfz19_1
  obtain ⟨kq, x28_3, rfl, HA, HJ3, BK370, HB⟩ := hcut
  cases kq with
  | zero => exact absurd HA.out (by simp [L2_DiskStays.j0])
  | succ kj3 =>
   have H := HA.out
   clear HA
   simp only [L2_DiskStays.j0] at H
   by_cases c21 : x28_3 = true
   ·subst c21
    have H1 : (some t371) = some r := by rw [if_pos rfl] at H; exact H
    clear H
    have H := H1
    clear H1
    obtain rfl := Option.some.inj H
    go_wp2
    go_ret
    exact ⟨by first | rfl | (simp [errW_none, errW_some] <;> rfl) | (simp [*, errW_none, errW_some] <;> rfl), by repeat (first | (with_reducible first | exact HB.out | apply below_alloc | apply pw_below_drewN | apply below_drew1 | refine below_set ?_ GE370.out) | exact HB.out)⟩
   ·replace c21 := Bool.eq_false_iff.mpr c21
    subst c21
    have H1 : ((disk_Crash.f l0_0 l0_1 l1).bind fun bt374 => ((disk_Flush.f l0_0 l0_1).bind fun bt381 => ((R2_Right.f kj3 bt374.1 bt374.2).bind fun t388 => (if t388 = true then ((R2_Right.f kj3 bt381.1 bt381.2).bind fun t389 => (if t389 = true then (if (wrap64 ((bt374.2.length : Int) + (bt381.2.length : Int))) = 0 then (if (bt374.1.length : Int) = (l0_0.length : Int) then (L2_DiskStays.j1 kj3 l1 t371 ((bt381.1.length : Int) != (l0_0.length : Int)) l0_0 l0_1 bt374.1 bt374.2 bt381.1 bt381.2) else (L2_DiskStays.j1 kj3 l1 t371 true l0_0 l0_1 bt374.1 bt374.2 bt381.1 bt381.2)) else (L2_DiskStays.j1 kj3 l1 t371 true l0_0 l0_1 bt374.1 bt374.2 bt381.1 bt381.2)) else (L2_DiskStays.j1 kj3 l1 t371 true l0_0 l0_1 bt374.1 bt374.2 bt381.1 bt381.2))) else (L2_DiskStays.j1 kj3 l1 t371 true l0_0 l0_1 bt374.1 bt374.2 bt381.1 bt381.2))))) = some r := by rw [if_neg (show ¬ (false = true) by decide)] at H; exact H
    clear H
    have H := H1
    clear H1
    replace H := Option.bind_eq_some_iff.mp H
    obtain ⟨⟨t374, t377⟩, A220, H⟩ := H
    replace H : ((disk_Flush.f l0_0 l0_1).bind fun bt381 => ((R2_Right.f kj3 t374 t377).bind fun t388 => (if t388 = true then ((R2_Right.f kj3 bt381.1 bt381.2).bind fun t389 => (if t389 = true then (if (wrap64 ((t377.length : Int) + (bt381.2.length : Int))) = 0 then (if (t374.length : Int) = (l0_0.length : Int) then (L2_DiskStays.j1 kj3 l1 t371 ((bt381.1.length : Int) != (l0_0.length : Int)) l0_0 l0_1 t374 t377 bt381.1 bt381.2) else (L2_DiskStays.j1 kj3 l1 t371 true l0_0 l0_1 t374 t377 bt381.1 bt381.2)) else (L2_DiskStays.j1 kj3 l1 t371 true l0_0 l0_1 t374 t377 bt381.1 bt381.2)) else (L2_DiskStays.j1 kj3 l1 t371 true l0_0 l0_1 t374 t377 bt381.1 bt381.2))) else (L2_DiskStays.j1 kj3 l1 t371 true l0_0 l0_1 t374 t377 bt381.1 bt381.2)))) = some r := H
    have A22 := Aside0.mk A220
    clear A220
    replace H := Option.bind_eq_some_iff.mp H
    obtain ⟨⟨t381, t384⟩, A230, H⟩ := H
    replace H : ((R2_Right.f kj3 t374 t377).bind fun t388 => (if t388 = true then ((R2_Right.f kj3 t381 t384).bind fun t389 => (if t389 = true then (if (wrap64 ((t377.length : Int) + (t384.length : Int))) = 0 then (if (t374.length : Int) = (l0_0.length : Int) then (L2_DiskStays.j1 kj3 l1 t371 ((t381.length : Int) != (l0_0.length : Int)) l0_0 l0_1 t374 t377 t381 t384) else (L2_DiskStays.j1 kj3 l1 t371 true l0_0 l0_1 t374 t377 t381 t384)) else (L2_DiskStays.j1 kj3 l1 t371 true l0_0 l0_1 t374 t377 t381 t384)) else (L2_DiskStays.j1 kj3 l1 t371 true l0_0 l0_1 t374 t377 t381 t384))) else (L2_DiskStays.j1 kj3 l1 t371 true l0_0 l0_1 t374 t377 t381 t384))) = some r := H
    have A23 := Aside0.mk A230
    clear A230
    have HC24 := Aside0.mk H
    clear H
    have hcz25_0 : wc.cell? ⟨gb370, 0, none⟩ = some (.slice A0_0 l0_0.length c0_0) := (blk_cell BK370.out 0).trans rfl
    have hcz25_1 : wc.cell? ⟨gb370, 1, none⟩ = some (.slice A0_1 l0_1.length c0_1) := (blk_cell BK370.out 1).trans rfl
    have hfz25_0 := blk_frozen BK370.out 0
    have hfz25_1 := blk_frozen BK370.out 1
    go_upto_region 6 with (first | ((with_reducible refine gate_callee (f := 50) rfl ?_); refine goesL_ (some 32) rfl rfl Try.func50 (by kernel_rfl) rfl #[.agg #[.slice A0_0 l0_0.length c0_0, .slice A0_1 l0_1.length c0_1], .slice A1 l1.length c1] rfl (by (try simp only [List.map_toArray, List.map_cons, List.map_nil]); first | done | rfl | (simp only [List.length_drop, List.length_take]; rfl)) ?_; (with_reducible refine (disk_Crash.calls _ _ l0_0 _ _ l0_1 _ _ l1 t374 t377 _ ?side1 ?side2 ?side3 ?side4 ?side5 ?side6 A22.out).mono ?_); (case side1 => repeat (first | exact (Kd.C_below HR0_0.out HB.out) | (with_reducible refine Kd.C_alloc ?_ _) | (with_reducible refine Kd.C_drewN ?_ _) | (with_reducible refine Kd.C_drew ?_))); (case side2 => exact HC0_0.out); (case side3 => repeat (first | exact (Kd.C_below HR0_1.out HB.out) | (with_reducible refine Kd.C_alloc ?_ _) | (with_reducible refine Kd.C_drewN ?_ _) | (with_reducible refine Kd.C_drew ?_))); (case side4 => exact HC0_1.out); (case side5 => repeat (first | exact (Kd.C_below HR1.out HB.out) | (with_reducible refine Kd.C_alloc ?_ _) | (with_reducible refine Kd.C_drewN ?_ _) | (with_reducible refine Kd.C_drew ?_))); (case side6 => exact HC1.out); rintro e w26 ⟨v375, v378, rfl, ho0, ho1, hb⟩; refine ⟨_, rfl, ?_⟩; have n0_ := Aside0.mk (Kd.R_lower ho0 (below_size (by repeat (first | (with_reducible first | exact HB.out | apply below_alloc | apply pw_below_drewN | apply below_drew1 | refine below_set ?_ GE370.out) | exact HB.out)))); have n1_ := Aside0.mk (Kd.R_lower ho1 (below_size (by repeat (first | (with_reducible first | exact HB.out | apply below_alloc | apply pw_below_drewN | apply below_drew1 | refine below_set ?_ GE370.out) | exact HB.out)))); have n2_ := Aside0.mk (blk_below (g := gb370) (o := .cells #[.slice A0_0 l0_0.length c0_0, .slice A0_1 l0_1.length c0_1] 63 (0, 0)) (by (with_reducible repeat (first | refine blk_drewN ?_ _ | refine blk_drew ?_ | refine blk_alloc ?_ _)); exact BK370.out) hb); have n3_ := Aside0.mk (below_step (by repeat (first | (with_reducible first | exact HB.out | apply below_alloc | apply pw_below_drewN | apply below_drew1 | refine below_set ?_ GE370.out) | exact HB.out)) hb); clear BK370; clear HB; have HO376 := n0_; have HO379 := n1_; have BK370 := n2_; have HB := n3_; clear n0_ n1_ n2_ n3_; (try clear hb); (try clear hb2); (try clear hk); (try clear hi); (try clear ho0); (try clear ho1)) | ((with_reducible refine gate_dst (N := 6) rfl ?_); (try (refine gate_guard (by rfl) ?_; dsimp only)); refine box_event ?hg (N := 6) ?hd (cs := #[.slice none 0 0, .slice none 0 0]) (t := 63) ?hr ?_; (case hd => rfl); (case hg => rfl); (case hr => first | (go_simp; done) | (go_simp; rfl)); intro gb380 hg w27 hbox hb; have n0_ := Aside0.mk (Kd.R_below (by (with_reducible repeat (first | apply Kd.R_alloc | apply Kd.R_drewN | apply Kd.R_drew)); exact HO376.out) hb); have n1_ := Aside0.mk (Kd.R_below (by (with_reducible repeat (first | apply Kd.R_alloc | apply Kd.R_drewN | apply Kd.R_drew)); exact HO379.out) hb); have n2_ := Aside0.mk (blk_below (g := gb370) (o := .cells #[.slice A0_0 l0_0.length c0_0, .slice A0_1 l0_1.length c0_1] 63 (0, 0)) (by (with_reducible repeat (first | refine blk_drewN ?_ _ | refine blk_drew ?_ | refine blk_alloc ?_ _)); exact BK370.out) hb); have n3_ := Aside0.mk (below_step (by repeat (first | (with_reducible first | exact HB.out | apply below_alloc | apply pw_below_drewN | apply below_drew1 | refine below_set ?_ GE370.out) | exact HB.out)) hb); have n4_ := Aside0.mk (hbox); have n5_ := Aside0.mk ((by rw [hg]; exact (below_size (by repeat (first | (with_reducible first | exact HB.out | apply below_alloc | apply pw_below_drewN | apply below_drew1 | refine below_set ?_ GE370.out) | exact HB.out))) : w.heap.size ≤ gb380)); have n6_ := Aside0.mk ((by rw [hg]; exact (below_size (by repeat (first | (with_reducible first | exact HB.out | apply below_alloc | apply pw_below_drewN | apply below_drew1 | refine below_set ?_ GE370.out) | exact HB.out))) : w.heap.size ≤ gb380)); have n7_ := Aside0.mk ((by rw [hg]; exact Nat.ne_of_lt (blk_lt (g := gb370) (o := .cells #[.slice A0_0 l0_0.length c0_0, .slice A0_1 l0_1.length c0_1] 63 (0, 0)) (by (with_reducible repeat (first | refine blk_drewN ?_ _ | refine blk_drew ?_ | refine blk_alloc ?_ _)); exact BK370.out)) : gb370 ≠ gb380)); have n8_ := Aside0.mk ((by rw [hg]; exact Nat.ne_of_gt (blk_lt (g := gb370) (o := .cells #[.slice A0_0 l0_0.length c0_0, .slice A0_1 l0_1.length c0_1] 63 (0, 0)) (by (with_reducible repeat (first | refine blk_drewN ?_ _ | refine blk_drew ?_ | refine blk_alloc ?_ _)); exact BK370.out)) : gb380 ≠ gb370)); clear HO376; clear HO379; clear BK370; clear HB; have HO376 := n0_; have HO379 := n1_; have BK370 := n2_; have HB := n3_; have BK380 := n4_; have GW380 := n5_; have GE380 := n6_; have NB370_380 := n7_; have NB380_370 := n8_; clear n0_ n1_ n2_ n3_ n4_ n5_ n6_ n7_ n8_; clear hb hbox hg; obtain ⟨Ao28, co28, eo28⟩ := Kd.R_slice HO376.out; subst eo28; have hnb29 := NB380_370.out; have hnc29 := NB370_380.out; have hcz30_0 : w27.cell? ⟨gb380, 0, none⟩ = some (.slice none 0 0) := (blk_cell BK380.out 0).trans rfl; have hcz30_1 : w27.cell? ⟨gb380, 1, none⟩ = some (.slice none 0 0) := (blk_cell BK380.out 1).trans rfl; have hfz30_0 := blk_frozen BK380.out 0; have hfz30_1 := blk_frozen BK380.out 1; obtain ⟨Ao31, co31, eo31⟩ := Kd.R_slice HO379.out; subst eo31; have hcz32_0 : w27.cell? ⟨gb370, 0, none⟩ = some (.slice A0_0 l0_0.length c0_0) := (blk_cell BK370.out 0).trans rfl; have hcz32_1 : w27.cell? ⟨gb370, 1, none⟩ = some (.slice A0_1 l0_1.length c0_1) := (blk_cell BK370.out 1).trans rfl; have hfz32_0 := blk_frozen BK370.out 0; have hfz32_1 := blk_frozen BK370.out 1) | ((with_reducible refine gate_callee (f := 48) rfl ?_); refine goesL_ (some 34) rfl rfl Try.func48 (by kernel_rfl) rfl #[.agg #[.slice A0_0 l0_0.length c0_0, .slice A0_1 l0_1.length c0_1]] rfl (by (try simp only [List.map_toArray, List.map_cons, List.map_nil]); first | done | rfl | (simp only [List.length_drop, List.length_take]; rfl)) ?_; (with_reducible refine (disk_Flush.calls _ _ l0_0 _ _ l0_1 t381 t384 _ ?side1 ?side2 ?side3 ?side4 A23.out).mono ?_); (case side1 => exact Kd.C_below HR0_0.out (by repeat (first | (with_reducible first | exact HB.out | apply below_alloc | apply pw_below_drewN | apply below_drew1 | refine below_set ?_ GE370.out | refine below_set ?_ GE380.out) | exact HB.out))); (case side2 => exact HC0_0.out); (case side3 => exact Kd.C_below HR0_1.out (by repeat (first | (with_reducible first | exact HB.out | apply below_alloc | apply pw_below_drewN | apply below_drew1 | refine below_set ?_ GE370.out | refine below_set ?_ GE380.out) | exact HB.out))); (case side4 => exact HC0_1.out); rintro e w33 ⟨v382, v385, rfl, ho0, ho1, hb⟩; refine ⟨_, rfl, ?_⟩; have n0_ := Aside0.mk (Kd.R_elder' (by (with_reducible repeat (first | apply Kd.R_alloc | apply Kd.R_drewN | apply Kd.R_drew)); exact (Kd.R_mono (Kd.R_far (p := ⟨gb380, 1, none⟩) (Kd.R_far (p := ⟨gb380, 0, none⟩) (Kd.R_types HO376.out BK380.out (by decide)) (fun _ hk => hk.2) (.slice Ao28 t374.length co28)) (fun _ hk => hk.2) (.slice Ao31 t377.length co31)) (fun _ h_ => h_.1))) (Kd.R_base ho0) hb); have n1_ := Aside0.mk (Kd.R_elder' (by (with_reducible repeat (first | apply Kd.R_alloc | apply Kd.R_drewN | apply Kd.R_drew)); exact (Kd.R_mono (Kd.R_far (p := ⟨gb380, 1, none⟩) (Kd.R_far (p := ⟨gb380, 0, none⟩) (Kd.R_types HO379.out BK380.out (by decide)) (fun _ hk => hk.2) (.slice Ao28 t374.length co28)) (fun _ hk => hk.2) (.slice Ao31 t377.length co31)) (fun _ h_ => h_.1))) (Kd.R_base ho1) hb); have n2_ := Aside0.mk (Kd.R_lower (Kd.R_new' ho0 (Kd.R_lt (by (with_reducible repeat (first | apply Kd.R_alloc | apply Kd.R_drewN | apply Kd.R_drew)); exact (Kd.R_mono (Kd.R_far (p := ⟨gb380, 1, none⟩) (Kd.R_far (p := ⟨gb380, 0, none⟩) (Kd.R_types HO376.out BK380.out (by decide)) (fun _ hk => hk.2) (.slice Ao28 t374.length co28)) (fun _ hk => hk.2) (.slice Ao31 t377.length co31)) (fun _ h_ => h_.1))))) (below_size (by repeat (first | (with_reducible first | exact HB.out | apply below_alloc | apply pw_below_drewN | apply below_drew1 | refine below_set ?_ GE370.out | refine below_set ?_ GE380.out) | exact HB.out)))); have n3_ := Aside0.mk (Kd.R_lower (Kd.R_new' ho1 (Kd.R_lt (by (with_reducible repeat (first | apply Kd.R_alloc | apply Kd.R_drewN | apply Kd.R_drew)); exact (Kd.R_mono (Kd.R_far (p := ⟨gb380, 1, none⟩) (Kd.R_far (p := ⟨gb380, 0, none⟩) (Kd.R_types HO379.out BK380.out (by decide)) (fun _ hk => hk.2) (.slice Ao28 t374.length co28)) (fun _ hk => hk.2) (.slice Ao31 t377.length co31)) (fun _ h_ => h_.1))))) (below_size (by repeat (first | (with_reducible first | exact HB.out | apply below_alloc | apply pw_below_drewN | apply below_drew1 | refine below_set ?_ GE370.out | refine below_set ?_ GE380.out) | exact HB.out)))); have n4_ := Aside0.mk (blk_below (g := gb370) (o := .cells #[.slice A0_0 l0_0.length c0_0, .slice A0_1 l0_1.length c0_1] 63 (0, 0)) (by (with_reducible repeat (first | refine blk_drewN ?_ _ | refine blk_drew ?_ | refine blk_alloc ?_ _)); refine blk_far ?_ NB370_380.out _; (with_reducible repeat (first | refine blk_drewN ?_ _ | refine blk_drew ?_ | refine blk_alloc ?_ _)); refine blk_far ?_ NB370_380.out _; (with_reducible repeat (first | refine blk_drewN ?_ _ | refine blk_drew ?_ | refine blk_alloc ?_ _)); exact BK370.out) hb); have n5_ := Aside0.mk (blk_below (g := gb380) (o := .cells #[.slice Ao28 t374.length co28, .slice Ao31 t377.length co31] 63 (0, 0)) (by (with_reducible repeat (first | refine blk_drewN ?_ _ | refine blk_drew ?_ | refine blk_alloc ?_ _)); refine blk_put (cs := #[.slice Ao28 t374.length co28, .slice none 0 0]) ?_ 1 _ rfl; (with_reducible repeat (first | refine blk_drewN ?_ _ | refine blk_drew ?_ | refine blk_alloc ?_ _)); refine blk_put (cs := #[.slice none 0 0, .slice none 0 0]) ?_ 0 _ rfl; (with_reducible repeat (first | refine blk_drewN ?_ _ | refine blk_drew ?_ | refine blk_alloc ?_ _)); exact BK380.out) hb); have n6_ := Aside0.mk (below_step (by repeat (first | (with_reducible first | exact HB.out | apply below_alloc | apply pw_below_drewN | apply below_drew1 | refine below_set ?_ GE370.out | refine below_set ?_ GE380.out) | exact HB.out)) hb); clear HO376; clear HO379; clear BK370; clear BK380; clear HB; have HO376 := n0_; have HO379 := n1_; have HO383 := n2_; have HO386 := n3_; have BK370 := n4_; have BK380 := n5_; have HB := n6_; clear n0_ n1_ n2_ n3_ n4_ n5_ n6_; (try clear hb); (try clear hb2); (try clear hk); (try clear hi); (try clear ho0); (try clear ho1)) | ((with_reducible refine gate_dst (N := 7) rfl ?_); (try (refine gate_guard (by rfl) ?_; dsimp only)); refine box_event ?hg (N := 7) ?hd (cs := #[.slice none 0 0, .slice none 0 0]) (t := 63) ?hr ?_; (case hd => rfl); (case hg => rfl); (case hr => first | (go_simp; done) | (go_simp; rfl)); intro gb387 hg w34 hbox hb; have n0_ := Aside0.mk (Kd.R_below (by (with_reducible repeat (first | apply Kd.R_alloc | apply Kd.R_drewN | apply Kd.R_drew)); exact HO376.out) hb); have n1_ := Aside0.mk (Kd.R_below (by (with_reducible repeat (first | apply Kd.R_alloc | apply Kd.R_drewN | apply Kd.R_drew)); exact HO379.out) hb); have n2_ := Aside0.mk (Kd.R_below (by (with_reducible repeat (first | apply Kd.R_alloc | apply Kd.R_drewN | apply Kd.R_drew)); exact HO383.out) hb); have n3_ := Aside0.mk (Kd.R_below (by (with_reducible repeat (first | apply Kd.R_alloc | apply Kd.R_drewN | apply Kd.R_drew)); exact HO386.out) hb); have n4_ := Aside0.mk (blk_below (g := gb370) (o := .cells #[.slice A0_0 l0_0.length c0_0, .slice A0_1 l0_1.length c0_1] 63 (0, 0)) (by (with_reducible repeat (first | refine blk_drewN ?_ _ | refine blk_drew ?_ | refine blk_alloc ?_ _)); exact BK370.out) hb); have n5_ := Aside0.mk (blk_below (g := gb380) (o := .cells #[.slice Ao28 t374.length co28, .slice Ao31 t377.length co31] 63 (0, 0)) (by (with_reducible repeat (first | refine blk_drewN ?_ _ | refine blk_drew ?_ | refine blk_alloc ?_ _)); exact BK380.out) hb); have n6_ := Aside0.mk (below_step (by repeat (first | (with_reducible first | exact HB.out | apply below_alloc | apply pw_below_drewN | apply below_drew1 | refine below_set ?_ GE370.out | refine below_set ?_ GE380.out) | exact HB.out)) hb); have n7_ := Aside0.mk (hbox); have n8_ := Aside0.mk ((by rw [hg]; exact (below_size (by repeat (first | (with_reducible first | exact HB.out | apply below_alloc | apply pw_below_drewN | apply below_drew1 | refine below_set ?_ GE370.out | refine below_set ?_ GE380.out) | exact HB.out))) : w.heap.size ≤ gb387)); have n9_ := Aside0.mk ((by rw [hg]; exact (below_size (by repeat (first | (with_reducible first | exact HB.out | apply below_alloc | apply pw_below_drewN | apply below_drew1 | refine below_set ?_ GE370.out | refine below_set ?_ GE380.out) | exact HB.out))) : w.heap.size ≤ gb387)); have n10_ := Aside0.mk ((by rw [hg]; exact Nat.ne_of_lt (blk_lt (g := gb370) (o := .cells #[.slice A0_0 l0_0.length c0_0, .slice A0_1 l0_1.length c0_1] 63 (0, 0)) (by (with_reducible repeat (first | refine blk_drewN ?_ _ | refine blk_drew ?_ | refine blk_alloc ?_ _)); exact BK370.out)) : gb370 ≠ gb387)); have n11_ := Aside0.mk ((by rw [hg]; exact Nat.ne_of_gt (blk_lt (g := gb370) (o := .cells #[.slice A0_0 l0_0.length c0_0, .slice A0_1 l0_1.length c0_1] 63 (0, 0)) (by (with_reducible repeat (first | refine blk_drewN ?_ _ | refine blk_drew ?_ | refine blk_alloc ?_ _)); exact BK370.out)) : gb387 ≠ gb370)); have n12_ := Aside0.mk ((by rw [hg]; exact Nat.ne_of_lt (blk_lt (g := gb380) (o := .cells #[.slice Ao28 t374.length co28, .slice Ao31 t377.length co31] 63 (0, 0)) (by (with_reducible repeat (first | refine blk_drewN ?_ _ | refine blk_drew ?_ | refine blk_alloc ?_ _)); exact BK380.out)) : gb380 ≠ gb387)); have n13_ := Aside0.mk ((by rw [hg]; exact Nat.ne_of_gt (blk_lt (g := gb380) (o := .cells #[.slice Ao28 t374.length co28, .slice Ao31 t377.length co31] 63 (0, 0)) (by (with_reducible repeat (first | refine blk_drewN ?_ _ | refine blk_drew ?_ | refine blk_alloc ?_ _)); exact BK380.out)) : gb387 ≠ gb380)); clear HO376; clear HO379; clear HO383; clear HO386; clear BK370; clear BK380; clear HB; have HO376 := n0_; have HO379 := n1_; have HO383 := n2_; have HO386 := n3_; have BK370 := n4_; have BK380 := n5_; have HB := n6_; have BK387 := n7_; have GW387 := n8_; have GE387 := n9_; have NB370_387 := n10_; have NB387_370 := n11_; have NB380_387 := n12_; have NB387_380 := n13_; clear n0_ n1_ n2_ n3_ n4_ n5_ n6_ n7_ n8_ n9_ n10_ n11_ n12_ n13_; clear hb hbox hg; obtain ⟨Ao35, co35, eo35⟩ := Kd.R_slice HO383.out; subst eo35; have hnb36 := NB387_370.out; have hnc36 := NB370_387.out; have hnb37 := NB387_380.out; have hnc37 := NB380_387.out; have hcz38_0 : w34.cell? ⟨gb387, 0, none⟩ = some (.slice none 0 0) := (blk_cell BK387.out 0).trans rfl; have hcz38_1 : w34.cell? ⟨gb387, 1, none⟩ = some (.slice none 0 0) := (blk_cell BK387.out 1).trans rfl; have hfz38_0 := blk_frozen BK387.out 0; have hfz38_1 := blk_frozen BK387.out 1; obtain ⟨Ao39, co39, eo39⟩ := Kd.R_slice HO386.out; subst eo39))
    (try simp only [Act.put, List.setIfInBounds_toArray, List.set_cons_zero, List.set_cons_succ])
    go_cut [70] (fun v70 wc => ∃ (kq : Nat) (x70_23 : Bool), v70 = .bool x70_23 ∧ Aside0 (L2_DiskStays.j1 kq l1 t371 x70_23 l0_0 l0_1 t374 t377 t381 t384 = some r) ∧ Aside0 (kq ≤ kj3) ∧ Aside0 (Kd.R Kd.string 9 wc w.heap.size (fun k_ => some k_ ≠ ((.slice Ao35 t381.length co35) : Value).ownBlock) (.slice Ao28 t374.length co28) t374) ∧ Aside0 (Kd.R k79 79 wc w.heap.size (fun k_ => some k_ ≠ ((.slice Ao39 t384.length co39) : Value).ownBlock) (.slice Ao31 t377.length co31) t377) ∧ Aside0 (Kd.R Kd.string 9 wc w.heap.size (fun k_ => some k_ ≠ ((.slice Ao28 t374.length co28) : Value).ownBlock) (.slice Ao35 t381.length co35) t381) ∧ Aside0 (Kd.R k79 79 wc w.heap.size (fun k_ => some k_ ≠ ((.slice Ao31 t377.length co31) : Value).ownBlock) (.slice Ao39 t384.length co39) t384) ∧ Aside0 (wc.heap[gb370]? = some (.cells #[(.slice A0_0 l0_0.length c0_0), (.slice A0_1 l0_1.length c0_1)] 63 (0, 0))) ∧ Aside0 (wc.heap[gb380]? = some (.cells #[(.slice Ao28 t374.length co28), (.slice Ao31 t377.length co31)] 63 (0, 0))) ∧ Aside0 (wc.heap[gb387]? = some (.cells #[(.slice Ao35 t381.length co35), (.slice Ao39 t384.length co39)] 63 (0, 0))) ∧ Aside0 (Below w.heap.size w wc))
    case first =>
     have H := HC24.out
     clear HC24
     replace H := Option.bind_eq_some_iff.mp H
     obtain ⟨t388, A400, H⟩ := H
     replace H : (if t388 = true then ((R2_Right.f kj3 t381 t384).bind fun t389 => (if t389 = true then (if (wrap64 ((t377.length : Int) + (t384.length : Int))) = 0 then (if (t374.length : Int) = (l0_0.length : Int) then (L2_DiskStays.j1 kj3 l1 t371 ((t381.length : Int) != (l0_0.length : Int)) l0_0 l0_1 t374 t377 t381 t384) else (L2_DiskStays.j1 kj3 l1 t371 true l0_0 l0_1 t374 t377 t381 t384)) else (L2_DiskStays.j1 kj3 l1 t371 true l0_0 l0_1 t374 t377 t381 t384)) else (L2_DiskStays.j1 kj3 l1 t371 true l0_0 l0_1 t374 t377 t381 t384))) else (L2_DiskStays.j1 kj3 l1 t371 true l0_0 l0_1 t374 t377 t381 t384)) = some r := H
     have A40 := Aside0.mk A400
     clear A400
     by_cases c41 : t388 = true
     ·subst c41
      have H1 : ((R2_Right.f kj3 t381 t384).bind fun t389 => (if t389 = true then (if (wrap64 ((t377.length : Int) + (t384.length : Int))) = 0 then (if (t374.length : Int) = (l0_0.length : Int) then (L2_DiskStays.j1 kj3 l1 t371 ((t381.length : Int) != (l0_0.length : Int)) l0_0 l0_1 t374 t377 t381 t384) else (L2_DiskStays.j1 kj3 l1 t371 true l0_0 l0_1 t374 t377 t381 t384)) else (L2_DiskStays.j1 kj3 l1 t371 true l0_0 l0_1 t374 t377 t381 t384)) else (L2_DiskStays.j1 kj3 l1 t371 true l0_0 l0_1 t374 t377 t381 t384))) = some r := by rw [if_pos rfl] at H; exact H
      clear H
      have H := H1
      clear H1
      replace H := Option.bind_eq_some_iff.mp H
      obtain ⟨t389, A420, H⟩ := H
      replace H : (if t389 = true then (if (wrap64 ((t377.length : Int) + (t384.length : Int))) = 0 then (if (t374.length : Int) = (l0_0.length : Int) then (L2_DiskStays.j1 kj3 l1 t371 ((t381.length : Int) != (l0_0.length : Int)) l0_0 l0_1 t374 t377 t381 t384) else (L2_DiskStays.j1 kj3 l1 t371 true l0_0 l0_1 t374 t377 t381 t384)) else (L2_DiskStays.j1 kj3 l1 t371 true l0_0 l0_1 t374 t377 t381 t384)) else (L2_DiskStays.j1 kj3 l1 t371 true l0_0 l0_1 t374 t377 t381 t384)) = some r := H
      have A42 := Aside0.mk A420
      clear A420
      by_cases c43 : t389 = true
      ·subst c43
       have H1 : (if (wrap64 ((t377.length : Int) + (t384.length : Int))) = 0 then (if (t374.length : Int) = (l0_0.length : Int) then (L2_DiskStays.j1 kj3 l1 t371 ((t381.length : Int) != (l0_0.length : Int)) l0_0 l0_1 t374 t377 t381 t384) else (L2_DiskStays.j1 kj3 l1 t371 true l0_0 l0_1 t374 t377 t381 t384)) else (L2_DiskStays.j1 kj3 l1 t371 true l0_0 l0_1 t374 t377 t381 t384)) = some r := by rw [if_pos rfl] at H; exact H
       clear H
       have H := H1
       clear H1
       by_cases c44 : (wrap64 ((t377.length : Int) + (t384.length : Int))) = 0
       ·rw [if_pos c44] at H
        have c44b0 : ((wrap64 ((t377.length : Int) + (t384.length : Int))) == 0) = true := beq_iff_eq.mpr c44
        have c44b1 : ((wrap64 ((t377.length : Int) + (t384.length : Int))) != 0) = false := bne_eq_false_iff_eq.mpr c44
        clear c44
        (first | rw [c44b0] | (simp only [i64_w, i32_w]; rw [c44b0]) | skip)
        by_cases c45 : (t374.length : Int) = (l0_0.length : Int)
        ·rw [if_pos c45] at H
         have c45b0 : ((t374.length : Int) == (l0_0.length : Int)) = true := beq_iff_eq.mpr c45
         have c45b1 : ((t374.length : Int) != (l0_0.length : Int)) = false := bne_eq_false_iff_eq.mpr c45
         have c45b2 : (t374.length == l0_0.length) = true := by first | simpa using c45 | (simp at c45 ⊢; omega)
         clear c45
         have H' := Aside0.mk H
         clear H
         have hnb46 := NB380_370.out
         have hnc46 := NB370_380.out
         have hnb47 := NB380_387.out
         have hnc47 := NB387_380.out
         have hcz48_0 : w34.cell? ⟨gb380, 0, none⟩ = some (.slice Ao28 t374.length co28) := (blk_cell BK380.out 0).trans rfl
         have hcz48_1 : w34.cell? ⟨gb380, 1, none⟩ = some (.slice Ao31 t377.length co31) := (blk_cell BK380.out 1).trans rfl
         have hfz48_0 := blk_frozen BK380.out 0
         have hfz48_1 := blk_frozen BK380.out 1
         go_wp2_with (first | ((with_reducible refine gate_callee (f := 37) rfl ?_); refine goesL_ (some 36) rfl rfl Try.func37 (by kernel_rfl) rfl #[.agg #[.slice Ao28 t374.length co28, .slice Ao31 t377.length co31]] rfl (by (try simp only [List.map_toArray, List.map_cons, List.map_nil]); first | done | rfl | (simp only [List.length_drop, List.length_take]; rfl)) ?_; (with_reducible refine (R2_Right.calls kj3 _ _ t374 _ _ t377 true _ ?side1 ?side2 ?side3 ?side4 A40.out).mono ?_); (case side1 => refine (Kd.R_reads' (e := 9) (base := w.heap.size) (ok := fun k_ => (True ∧ some k_ ≠ (.slice Ao35 t381.length co35 : Value).ownBlock)) (n := t374.length) (c := co28) ?_).2.2; exact (by (with_reducible repeat (first | apply Kd.R_alloc | apply Kd.R_drewN | apply Kd.R_drew)); exact (Kd.R_mono (Kd.R_far (p := ⟨gb387, 1, none⟩) (Kd.R_far (p := ⟨gb387, 0, none⟩) (Kd.R_types HO376.out BK387.out (by decide)) (fun _ hk => hk.2) (.slice Ao35 t381.length co35)) (fun _ hk => hk.2) (.slice Ao39 t384.length co39)) (fun _ h_ => h_.1)))); (case side2 => exact (Kd.R_reads' HO376.out).2.1); (case side3 => refine (Kd.R_reads' (e := 79) (base := w.heap.size) (ok := fun k_ => (True ∧ some k_ ≠ (.slice Ao39 t384.length co39 : Value).ownBlock)) (n := t377.length) (c := co31) ?_).2.2; exact (by (with_reducible repeat (first | apply Kd.R_alloc | apply Kd.R_drewN | apply Kd.R_drew)); exact (Kd.R_mono (Kd.R_far (p := ⟨gb387, 1, none⟩) (Kd.R_far (p := ⟨gb387, 0, none⟩) (Kd.R_types HO379.out BK387.out (by decide)) (fun _ hk => hk.2) (.slice Ao35 t381.length co35)) (fun _ hk => hk.2) (.slice Ao39 t384.length co39)) (fun _ h_ => h_.1)))); (case side4 => exact (Kd.R_reads' HO379.out).2.1); rintro e w49 ⟨rfl, hb⟩; refine ⟨_, rfl, ?_⟩; have n0_ := Aside0.mk (Kd.R_below (by (with_reducible repeat (first | apply Kd.R_alloc | apply Kd.R_drewN | apply Kd.R_drew)); exact (Kd.R_mono (Kd.R_far (p := ⟨gb387, 1, none⟩) (Kd.R_far (p := ⟨gb387, 0, none⟩) (Kd.R_types HO376.out BK387.out (by decide)) (fun _ hk => hk.2) (.slice Ao35 t381.length co35)) (fun _ hk => hk.2) (.slice Ao39 t384.length co39)) (fun _ h_ => h_.1))) hb); have n1_ := Aside0.mk (Kd.R_below (by (with_reducible repeat (first | apply Kd.R_alloc | apply Kd.R_drewN | apply Kd.R_drew)); exact (Kd.R_mono (Kd.R_far (p := ⟨gb387, 1, none⟩) (Kd.R_far (p := ⟨gb387, 0, none⟩) (Kd.R_types HO379.out BK387.out (by decide)) (fun _ hk => hk.2) (.slice Ao35 t381.length co35)) (fun _ hk => hk.2) (.slice Ao39 t384.length co39)) (fun _ h_ => h_.1))) hb); have n2_ := Aside0.mk (Kd.R_below (by (with_reducible repeat (first | apply Kd.R_alloc | apply Kd.R_drewN | apply Kd.R_drew)); exact (Kd.R_mono (Kd.R_far (p := ⟨gb387, 1, none⟩) (Kd.R_far (p := ⟨gb387, 0, none⟩) (Kd.R_types HO383.out BK387.out (by decide)) (fun _ hk => hk.2) (.slice Ao35 t381.length co35)) (fun _ hk => hk.2) (.slice Ao39 t384.length co39)) (fun _ h_ => h_.1))) hb); have n3_ := Aside0.mk (Kd.R_below (by (with_reducible repeat (first | apply Kd.R_alloc | apply Kd.R_drewN | apply Kd.R_drew)); exact (Kd.R_mono (Kd.R_far (p := ⟨gb387, 1, none⟩) (Kd.R_far (p := ⟨gb387, 0, none⟩) (Kd.R_types HO386.out BK387.out (by decide)) (fun _ hk => hk.2) (.slice Ao35 t381.length co35)) (fun _ hk => hk.2) (.slice Ao39 t384.length co39)) (fun _ h_ => h_.1))) hb); have n4_ := Aside0.mk (blk_below (g := gb370) (o := .cells #[.slice A0_0 l0_0.length c0_0, .slice A0_1 l0_1.length c0_1] 63 (0, 0)) (by (with_reducible repeat (first | refine blk_drewN ?_ _ | refine blk_drew ?_ | refine blk_alloc ?_ _)); refine blk_far ?_ NB370_387.out _; (with_reducible repeat (first | refine blk_drewN ?_ _ | refine blk_drew ?_ | refine blk_alloc ?_ _)); refine blk_far ?_ NB370_387.out _; (with_reducible repeat (first | refine blk_drewN ?_ _ | refine blk_drew ?_ | refine blk_alloc ?_ _)); exact BK370.out) hb); have n5_ := Aside0.mk (blk_below (g := gb380) (o := .cells #[.slice Ao28 t374.length co28, .slice Ao31 t377.length co31] 63 (0, 0)) (by (with_reducible repeat (first | refine blk_drewN ?_ _ | refine blk_drew ?_ | refine blk_alloc ?_ _)); refine blk_far ?_ NB380_387.out _; (with_reducible repeat (first | refine blk_drewN ?_ _ | refine blk_drew ?_ | refine blk_alloc ?_ _)); refine blk_far ?_ NB380_387.out _; (with_reducible repeat (first | refine blk_drewN ?_ _ | refine blk_drew ?_ | refine blk_alloc ?_ _)); exact BK380.out) hb); have n6_ := Aside0.mk (blk_below (g := gb387) (o := .cells #[.slice Ao35 t381.length co35, .slice Ao39 t384.length co39] 63 (0, 0)) (by (with_reducible repeat (first | refine blk_drewN ?_ _ | refine blk_drew ?_ | refine blk_alloc ?_ _)); refine blk_put (cs := #[.slice Ao35 t381.length co35, .slice none 0 0]) ?_ 1 _ rfl; (with_reducible repeat (first | refine blk_drewN ?_ _ | refine blk_drew ?_ | refine blk_alloc ?_ _)); refine blk_put (cs := #[.slice none 0 0, .slice none 0 0]) ?_ 0 _ rfl; (with_reducible repeat (first | refine blk_drewN ?_ _ | refine blk_drew ?_ | refine blk_alloc ?_ _)); exact BK387.out) hb); have n7_ := Aside0.mk (below_step (by repeat (first | (with_reducible first | exact HB.out | apply below_alloc | apply pw_below_drewN | apply below_drew1 | refine below_set ?_ GE370.out | refine below_set ?_ GE380.out | refine below_set ?_ GE387.out) | exact HB.out)) hb); clear HO376; clear HO379; clear HO383; clear HO386; clear BK370; clear BK380; clear BK387; clear HB; have HO376 := n0_; have HO379 := n1_; have HO383 := n2_; have HO386 := n3_; have BK370 := n4_; have BK380 := n5_; have BK387 := n6_; have HB := n7_; clear n0_ n1_ n2_ n3_ n4_ n5_ n6_ n7_; (try clear hb); (try clear hb2); (try clear hk); (try clear hi); have hnb50 := NB387_370.out; have hnc50 := NB370_387.out; have hcz51_0 : w49.cell? ⟨gb387, 0, none⟩ = some (.slice Ao35 t381.length co35) := (blk_cell BK387.out 0).trans rfl; have hcz51_1 : w49.cell? ⟨gb387, 1, none⟩ = some (.slice Ao39 t384.length co39) := (blk_cell BK387.out 1).trans rfl; have hfz51_0 := blk_frozen BK387.out 0; have hfz51_1 := blk_frozen BK387.out 1) | (go_at_call 37; (with_reducible refine (R2_Right.calls kj3 _ _ t381 _ _ t384 true _ ?side1 ?side2 ?side3 ?side4 A42.out).mono ?_); (case side1 => repeat (first | exact (Kd.R_reads' HO383.out).2.2 | (with_reducible refine Kd.C_alloc ?_ _) | (with_reducible refine Kd.C_drewN ?_ _) | (with_reducible refine Kd.C_drew ?_))); (case side2 => exact (Kd.R_reads' HO383.out).2.1); (case side3 => repeat (first | exact (Kd.R_reads' HO386.out).2.2 | (with_reducible refine Kd.C_alloc ?_ _) | (with_reducible refine Kd.C_drewN ?_ _) | (with_reducible refine Kd.C_drew ?_))); (case side4 => exact (Kd.R_reads' HO386.out).2.1); rintro e w52 ⟨rfl, hb⟩; have n0_ := Aside0.mk (Kd.R_below (by (with_reducible repeat (first | apply Kd.R_alloc | apply Kd.R_drewN | apply Kd.R_drew)); exact HO376.out) hb); have n1_ := Aside0.mk (Kd.R_below (by (with_reducible repeat (first | apply Kd.R_alloc | apply Kd.R_drewN | apply Kd.R_drew)); exact HO379.out) hb); have n2_ := Aside0.mk (Kd.R_below (by (with_reducible repeat (first | apply Kd.R_alloc | apply Kd.R_drewN | apply Kd.R_drew)); exact HO383.out) hb); have n3_ := Aside0.mk (Kd.R_below (by (with_reducible repeat (first | apply Kd.R_alloc | apply Kd.R_drewN | apply Kd.R_drew)); exact HO386.out) hb); have n4_ := Aside0.mk (blk_below (g := gb370) (o := .cells #[.slice A0_0 l0_0.length c0_0, .slice A0_1 l0_1.length c0_1] 63 (0, 0)) (by (with_reducible repeat (first | refine blk_drewN ?_ _ | refine blk_drew ?_ | refine blk_alloc ?_ _)); exact BK370.out) hb); have n5_ := Aside0.mk (blk_below (g := gb380) (o := .cells #[.slice Ao28 t374.length co28, .slice Ao31 t377.length co31] 63 (0, 0)) (by (with_reducible repeat (first | refine blk_drewN ?_ _ | refine blk_drew ?_ | refine blk_alloc ?_ _)); exact BK380.out) hb); have n6_ := Aside0.mk (blk_below (g := gb387) (o := .cells #[.slice Ao35 t381.length co35, .slice Ao39 t384.length co39] 63 (0, 0)) (by (with_reducible repeat (first | refine blk_drewN ?_ _ | refine blk_drew ?_ | refine blk_alloc ?_ _)); exact BK387.out) hb); have n7_ := Aside0.mk (below_step (by repeat (first | (with_reducible first | exact HB.out | apply below_alloc | apply pw_below_drewN | apply below_drew1 | refine below_set ?_ GE370.out | refine below_set ?_ GE380.out | refine below_set ?_ GE387.out) | exact HB.out)) hb); clear HO376; clear HO379; clear HO383; clear HO386; clear BK370; clear BK380; clear BK387; clear HB; have HO376 := n0_; have HO379 := n1_; have HO383 := n2_; have HO386 := n3_; have BK370 := n4_; have BK380 := n5_; have BK387 := n6_; have HB := n7_; clear n0_ n1_ n2_ n3_ n4_ n5_ n6_ n7_; (try clear hb); (try clear hb2); (try clear hk); (try clear hi); have hcz53_0 : w52.cell? ⟨gb380, 0, none⟩ = some (.slice Ao28 t374.length co28) := (blk_cell BK380.out 0).trans rfl; have hcz53_1 : w52.cell? ⟨gb380, 1, none⟩ = some (.slice Ao31 t377.length co31) := (blk_cell BK380.out 1).trans rfl; have hfz53_0 := blk_frozen BK380.out 0; have hfz53_1 := blk_frozen BK380.out 1; have hcz54_0 : w52.cell? ⟨gb387, 0, none⟩ = some (.slice Ao35 t381.length co35) := (blk_cell BK387.out 0).trans rfl; have hcz54_1 : w52.cell? ⟨gb387, 1, none⟩ = some (.slice Ao39 t384.length co39) := (blk_cell BK387.out 1).trans rfl; have hfz54_0 := blk_frozen BK387.out 0; have hfz54_1 := blk_frozen BK387.out 1; have hcz55_0 : w52.cell? ⟨gb370, 0, none⟩ = some (.slice A0_0 l0_0.length c0_0) := (blk_cell BK370.out 0).trans rfl; have hcz55_1 : w52.cell? ⟨gb370, 1, none⟩ = some (.slice A0_1 l0_1.length c0_1) := (blk_cell BK370.out 1).trans rfl; have hfz55_0 := blk_frozen BK370.out 0; have hfz55_1 := blk_frozen BK370.out 1))
         go_meet
         case rel => exact ⟨_, (((t381.length : Int) != (l0_0.length : Int))), (by first | rfl | (simp; done) | (simp [*]; done)), H', ⟨by have := HJ3.out; first | omega | exact Nat.le_refl _⟩, ⟨by (with_reducible repeat (first | apply Kd.R_alloc | apply Kd.R_drewN | apply Kd.R_drew)); exact Kd.R_mono HO376.out (fun _ hk => hk.2)⟩, ⟨by (with_reducible repeat (first | apply Kd.R_alloc | apply Kd.R_drewN | apply Kd.R_drew)); exact Kd.R_mono HO379.out (fun _ hk => hk.2)⟩, ⟨by (with_reducible repeat (first | apply Kd.R_alloc | apply Kd.R_drewN | apply Kd.R_drew)); exact Kd.R_mono HO383.out (fun _ hk => hk.2)⟩, ⟨by (with_reducible repeat (first | apply Kd.R_alloc | apply Kd.R_drewN | apply Kd.R_drew)); exact Kd.R_mono HO386.out (fun _ hk => hk.2)⟩, ⟨by (with_reducible repeat (first | refine blk_drewN ?_ _ | refine blk_drew ?_ | refine blk_alloc ?_ _)); exact BK370.out⟩, ⟨by (with_reducible repeat (first | refine blk_drewN ?_ _ | refine blk_drew ?_ | refine blk_alloc ?_ _)); exact BK380.out⟩, ⟨by (with_reducible repeat (first | refine blk_drewN ?_ _ | refine blk_drew ?_ | refine blk_alloc ?_ _)); exact BK387.out⟩, ⟨by repeat (first | (with_reducible first | exact HB.out | apply below_alloc | apply pw_below_drewN | apply below_drew1 | refine below_set ?_ GE370.out | refine below_set ?_ GE380.out | refine below_set ?_ GE387.out) | exact HB.out)⟩⟩
        ·rw [if_neg c45] at H
         have c45b0 : ((t374.length : Int) == (l0_0.length : Int)) = false := beq_eq_false_iff_ne.mpr c45
         have c45b1 : ((t374.length : Int) != (l0_0.length : Int)) = true := bne_iff_ne.mpr c45
         have c45b2 : (t374.length == l0_0.length) = false := by first | simpa using c45 | (simp at c45 ⊢; omega)
         have H' := Aside0.mk H
         clear H
         have hnb56 := NB380_370.out
         have hnc56 := NB370_380.out
         have hnb57 := NB380_387.out
         have hnc57 := NB387_380.out
         have hcz58_0 : w34.cell? ⟨gb380, 0, none⟩ = some (.slice Ao28 t374.length co28) := (blk_cell BK380.out 0).trans rfl
         have hcz58_1 : w34.cell? ⟨gb380, 1, none⟩ = some (.slice Ao31 t377.length co31) := (blk_cell BK380.out 1).trans rfl
         have hfz58_0 := blk_frozen BK380.out 0
         have hfz58_1 := blk_frozen BK380.out 1
         go_wp2_with (first | ((with_reducible refine gate_callee (f := 37) rfl ?_); refine goesL_ (some 36) rfl rfl Try.func37 (by kernel_rfl) rfl #[.agg #[.slice Ao28 t374.length co28, .slice Ao31 t377.length co31]] rfl (by (try simp only [List.map_toArray, List.map_cons, List.map_nil]); first | done | rfl | (simp only [List.length_drop, List.length_take]; rfl)) ?_; (with_reducible refine (R2_Right.calls kj3 _ _ t374 _ _ t377 true _ ?side1 ?side2 ?side3 ?side4 A40.out).mono ?_); (case side1 => refine (Kd.R_reads' (e := 9) (base := w.heap.size) (ok := fun k_ => (True ∧ some k_ ≠ (.slice Ao35 t381.length co35 : Value).ownBlock)) (n := t374.length) (c := co28) ?_).2.2; exact (by (with_reducible repeat (first | apply Kd.R_alloc | apply Kd.R_drewN | apply Kd.R_drew)); exact (Kd.R_mono (Kd.R_far (p := ⟨gb387, 1, none⟩) (Kd.R_far (p := ⟨gb387, 0, none⟩) (Kd.R_types HO376.out BK387.out (by decide)) (fun _ hk => hk.2) (.slice Ao35 t381.length co35)) (fun _ hk => hk.2) (.slice Ao39 t384.length co39)) (fun _ h_ => h_.1)))); (case side2 => exact (Kd.R_reads' HO376.out).2.1); (case side3 => refine (Kd.R_reads' (e := 79) (base := w.heap.size) (ok := fun k_ => (True ∧ some k_ ≠ (.slice Ao39 t384.length co39 : Value).ownBlock)) (n := t377.length) (c := co31) ?_).2.2; exact (by (with_reducible repeat (first | apply Kd.R_alloc | apply Kd.R_drewN | apply Kd.R_drew)); exact (Kd.R_mono (Kd.R_far (p := ⟨gb387, 1, none⟩) (Kd.R_far (p := ⟨gb387, 0, none⟩) (Kd.R_types HO379.out BK387.out (by decide)) (fun _ hk => hk.2) (.slice Ao35 t381.length co35)) (fun _ hk => hk.2) (.slice Ao39 t384.length co39)) (fun _ h_ => h_.1)))); (case side4 => exact (Kd.R_reads' HO379.out).2.1); rintro e w59 ⟨rfl, hb⟩; refine ⟨_, rfl, ?_⟩; have n0_ := Aside0.mk (Kd.R_below (by (with_reducible repeat (first | apply Kd.R_alloc | apply Kd.R_drewN | apply Kd.R_drew)); exact (Kd.R_mono (Kd.R_far (p := ⟨gb387, 1, none⟩) (Kd.R_far (p := ⟨gb387, 0, none⟩) (Kd.R_types HO376.out BK387.out (by decide)) (fun _ hk => hk.2) (.slice Ao35 t381.length co35)) (fun _ hk => hk.2) (.slice Ao39 t384.length co39)) (fun _ h_ => h_.1))) hb); have n1_ := Aside0.mk (Kd.R_below (by (with_reducible repeat (first | apply Kd.R_alloc | apply Kd.R_drewN | apply Kd.R_drew)); exact (Kd.R_mono (Kd.R_far (p := ⟨gb387, 1, none⟩) (Kd.R_far (p := ⟨gb387, 0, none⟩) (Kd.R_types HO379.out BK387.out (by decide)) (fun _ hk => hk.2) (.slice Ao35 t381.length co35)) (fun _ hk => hk.2) (.slice Ao39 t384.length co39)) (fun _ h_ => h_.1))) hb); have n2_ := Aside0.mk (Kd.R_below (by (with_reducible repeat (first | apply Kd.R_alloc | apply Kd.R_drewN | apply Kd.R_drew)); exact (Kd.R_mono (Kd.R_far (p := ⟨gb387, 1, none⟩) (Kd.R_far (p := ⟨gb387, 0, none⟩) (Kd.R_types HO383.out BK387.out (by decide)) (fun _ hk => hk.2) (.slice Ao35 t381.length co35)) (fun _ hk => hk.2) (.slice Ao39 t384.length co39)) (fun _ h_ => h_.1))) hb); have n3_ := Aside0.mk (Kd.R_below (by (with_reducible repeat (first | apply Kd.R_alloc | apply Kd.R_drewN | apply Kd.R_drew)); exact (Kd.R_mono (Kd.R_far (p := ⟨gb387, 1, none⟩) (Kd.R_far (p := ⟨gb387, 0, none⟩) (Kd.R_types HO386.out BK387.out (by decide)) (fun _ hk => hk.2) (.slice Ao35 t381.length co35)) (fun _ hk => hk.2) (.slice Ao39 t384.length co39)) (fun _ h_ => h_.1))) hb); have n4_ := Aside0.mk (blk_below (g := gb370) (o := .cells #[.slice A0_0 l0_0.length c0_0, .slice A0_1 l0_1.length c0_1] 63 (0, 0)) (by (with_reducible repeat (first | refine blk_drewN ?_ _ | refine blk_drew ?_ | refine blk_alloc ?_ _)); refine blk_far ?_ NB370_387.out _; (with_reducible repeat (first | refine blk_drewN ?_ _ | refine blk_drew ?_ | refine blk_alloc ?_ _)); refine blk_far ?_ NB370_387.out _; (with_reducible repeat (first | refine blk_drewN ?_ _ | refine blk_drew ?_ | refine blk_alloc ?_ _)); exact BK370.out) hb); have n5_ := Aside0.mk (blk_below (g := gb380) (o := .cells #[.slice Ao28 t374.length co28, .slice Ao31 t377.length co31] 63 (0, 0)) (by (with_reducible repeat (first | refine blk_drewN ?_ _ | refine blk_drew ?_ | refine blk_alloc ?_ _)); refine blk_far ?_ NB380_387.out _; (with_reducible repeat (first | refine blk_drewN ?_ _ | refine blk_drew ?_ | refine blk_alloc ?_ _)); refine blk_far ?_ NB380_387.out _; (with_reducible repeat (first | refine blk_drewN ?_ _ | refine blk_drew ?_ | refine blk_alloc ?_ _)); exact BK380.out) hb); have n6_ := Aside0.mk (blk_below (g := gb387) (o := .cells #[.slice Ao35 t381.length co35, .slice Ao39 t384.length co39] 63 (0, 0)) (by (with_reducible repeat (first | refine blk_drewN ?_ _ | refine blk_drew ?_ | refine blk_alloc ?_ _)); refine blk_put (cs := #[.slice Ao35 t381.length co35, .slice none 0 0]) ?_ 1 _ rfl; (with_reducible repeat (first | refine blk_drewN ?_ _ | refine blk_drew ?_ | refine blk_alloc ?_ _)); refine blk_put (cs := #[.slice none 0 0, .slice none 0 0]) ?_ 0 _ rfl; (with_reducible repeat (first | refine blk_drewN ?_ _ | refine blk_drew ?_ | refine blk_alloc ?_ _)); exact BK387.out) hb); have n7_ := Aside0.mk (below_step (by repeat (first | (with_reducible first | exact HB.out | apply below_alloc | apply pw_below_drewN | apply below_drew1 | refine below_set ?_ GE370.out | refine below_set ?_ GE380.out | refine below_set ?_ GE387.out) | exact HB.out)) hb); clear HO376; clear HO379; clear HO383; clear HO386; clear BK370; clear BK380; clear BK387; clear HB; have HO376 := n0_; have HO379 := n1_; have HO383 := n2_; have HO386 := n3_; have BK370 := n4_; have BK380 := n5_; have BK387 := n6_; have HB := n7_; clear n0_ n1_ n2_ n3_ n4_ n5_ n6_ n7_; (try clear hb); (try clear hb2); (try clear hk); (try clear hi); have hnb60 := NB387_370.out; have hnc60 := NB370_387.out; have hcz61_0 : w59.cell? ⟨gb387, 0, none⟩ = some (.slice Ao35 t381.length co35) := (blk_cell BK387.out 0).trans rfl; have hcz61_1 : w59.cell? ⟨gb387, 1, none⟩ = some (.slice Ao39 t384.length co39) := (blk_cell BK387.out 1).trans rfl; have hfz61_0 := blk_frozen BK387.out 0; have hfz61_1 := blk_frozen BK387.out 1) | (go_at_call 37; (with_reducible refine (R2_Right.calls kj3 _ _ t381 _ _ t384 true _ ?side1 ?side2 ?side3 ?side4 A42.out).mono ?_); (case side1 => repeat (first | exact (Kd.R_reads' HO383.out).2.2 | (with_reducible refine Kd.C_alloc ?_ _) | (with_reducible refine Kd.C_drewN ?_ _) | (with_reducible refine Kd.C_drew ?_))); (case side2 => exact (Kd.R_reads' HO383.out).2.1); (case side3 => repeat (first | exact (Kd.R_reads' HO386.out).2.2 | (with_reducible refine Kd.C_alloc ?_ _) | (with_reducible refine Kd.C_drewN ?_ _) | (with_reducible refine Kd.C_drew ?_))); (case side4 => exact (Kd.R_reads' HO386.out).2.1); rintro e w62 ⟨rfl, hb⟩; have n0_ := Aside0.mk (Kd.R_below (by (with_reducible repeat (first | apply Kd.R_alloc | apply Kd.R_drewN | apply Kd.R_drew)); exact HO376.out) hb); have n1_ := Aside0.mk (Kd.R_below (by (with_reducible repeat (first | apply Kd.R_alloc | apply Kd.R_drewN | apply Kd.R_drew)); exact HO379.out) hb); have n2_ := Aside0.mk (Kd.R_below (by (with_reducible repeat (first | apply Kd.R_alloc | apply Kd.R_drewN | apply Kd.R_drew)); exact HO383.out) hb); have n3_ := Aside0.mk (Kd.R_below (by (with_reducible repeat (first | apply Kd.R_alloc | apply Kd.R_drewN | apply Kd.R_drew)); exact HO386.out) hb); have n4_ := Aside0.mk (blk_below (g := gb370) (o := .cells #[.slice A0_0 l0_0.length c0_0, .slice A0_1 l0_1.length c0_1] 63 (0, 0)) (by (with_reducible repeat (first | refine blk_drewN ?_ _ | refine blk_drew ?_ | refine blk_alloc ?_ _)); exact BK370.out) hb); have n5_ := Aside0.mk (blk_below (g := gb380) (o := .cells #[.slice Ao28 t374.length co28, .slice Ao31 t377.length co31] 63 (0, 0)) (by (with_reducible repeat (first | refine blk_drewN ?_ _ | refine blk_drew ?_ | refine blk_alloc ?_ _)); exact BK380.out) hb); have n6_ := Aside0.mk (blk_below (g := gb387) (o := .cells #[.slice Ao35 t381.length co35, .slice Ao39 t384.length co39] 63 (0, 0)) (by (with_reducible repeat (first | refine blk_drewN ?_ _ | refine blk_drew ?_ | refine blk_alloc ?_ _)); exact BK387.out) hb); have n7_ := Aside0.mk (below_step (by repeat (first | (with_reducible first | exact HB.out | apply below_alloc | apply pw_below_drewN | apply below_drew1 | refine below_set ?_ GE370.out | refine below_set ?_ GE380.out | refine below_set ?_ GE387.out) | exact HB.out)) hb); clear HO376; clear HO379; clear HO383; clear HO386; clear BK370; clear BK380; clear BK387; clear HB; have HO376 := n0_; have HO379 := n1_; have HO383 := n2_; have HO386 := n3_; have BK370 := n4_; have BK380 := n5_; have BK387 := n6_; have HB := n7_; clear n0_ n1_ n2_ n3_ n4_ n5_ n6_ n7_; (try clear hb); (try clear hb2); (try clear hk); (try clear hi); have hcz63_0 : w62.cell? ⟨gb380, 0, none⟩ = some (.slice Ao28 t374.length co28) := (blk_cell BK380.out 0).trans rfl; have hcz63_1 : w62.cell? ⟨gb380, 1, none⟩ = some (.slice Ao31 t377.length co31) := (blk_cell BK380.out 1).trans rfl; have hfz63_0 := blk_frozen BK380.out 0; have hfz63_1 := blk_frozen BK380.out 1; have hcz64_0 : w62.cell? ⟨gb387, 0, none⟩ = some (.slice Ao35 t381.length co35) := (blk_cell BK387.out 0).trans rfl; have hcz64_1 : w62.cell? ⟨gb387, 1, none⟩ = some (.slice Ao39 t384.length co39) := (blk_cell BK387.out 1).trans rfl; have hfz64_0 := blk_frozen BK387.out 0; have hfz64_1 := blk_frozen BK387.out 1; have hcz65_0 : w62.cell? ⟨gb370, 0, none⟩ = some (.slice A0_0 l0_0.length c0_0) := (blk_cell BK370.out 0).trans rfl; have hcz65_1 : w62.cell? ⟨gb370, 1, none⟩ = some (.slice A0_1 l0_1.length c0_1) := (blk_cell BK370.out 1).trans rfl; have hfz65_0 := blk_frozen BK370.out 0; have hfz65_1 := blk_frozen BK370.out 1))
         go_meet
         case rel => exact ⟨_, (true), (by first | rfl | (simp; done) | (simp [*]; done)), H', ⟨by have := HJ3.out; first | omega | exact Nat.le_refl _⟩, ⟨by (with_reducible repeat (first | apply Kd.R_alloc | apply Kd.R_drewN | apply Kd.R_drew)); exact Kd.R_mono HO376.out (fun _ hk => hk.2)⟩, ⟨by (with_reducible repeat (first | apply Kd.R_alloc | apply Kd.R_drewN | apply Kd.R_drew)); exact Kd.R_mono HO379.out (fun _ hk => hk.2)⟩, ⟨by (with_reducible repeat (first | apply Kd.R_alloc | apply Kd.R_drewN | apply Kd.R_drew)); exact Kd.R_mono HO383.out (fun _ hk => hk.2)⟩, ⟨by (with_reducible repeat (first | apply Kd.R_alloc | apply Kd.R_drewN | apply Kd.R_drew)); exact Kd.R_mono HO386.out (fun _ hk => hk.2)⟩, ⟨by (with_reducible repeat (first | refine blk_drewN ?_ _ | refine blk_drew ?_ | refine blk_alloc ?_ _)); exact BK370.out⟩, ⟨by (with_reducible repeat (first | refine blk_drewN ?_ _ | refine blk_drew ?_ | refine blk_alloc ?_ _)); exact BK380.out⟩, ⟨by (with_reducible repeat (first | refine blk_drewN ?_ _ | refine blk_drew ?_ | refine blk_alloc ?_ _)); exact BK387.out⟩, ⟨by repeat (first | (with_reducible first | exact HB.out | apply below_alloc | apply pw_below_drewN | apply below_drew1 | refine below_set ?_ GE370.out | refine below_set ?_ GE380.out | refine below_set ?_ GE387.out) | exact HB.out)⟩⟩
       ·rw [if_neg c44] at H
        have c44b0 : ((wrap64 ((t377.length : Int) + (t384.length : Int))) == 0) = false := beq_eq_false_iff_ne.mpr c44
        have c44b1 : ((wrap64 ((t377.length : Int) + (t384.length : Int))) != 0) = true := bne_iff_ne.mpr c44
        (first | rw [c44b0] | (simp only [i64_w, i32_w]; rw [c44b0]) | skip)
        have H' := Aside0.mk H
        clear H
        have hnb66 := NB380_370.out
        have hnc66 := NB370_380.out
        have hnb67 := NB380_387.out
        have hnc67 := NB387_380.out
        have hcz68_0 : w34.cell? ⟨gb380, 0, none⟩ = some (.slice Ao28 t374.length co28) := (blk_cell BK380.out 0).trans rfl
        have hcz68_1 : w34.cell? ⟨gb380, 1, none⟩ = some (.slice Ao31 t377.length co31) := (blk_cell BK380.out 1).trans rfl
        have hfz68_0 := blk_frozen BK380.out 0
        have hfz68_1 := blk_frozen BK380.out 1
        go_wp2_with (first | ((with_reducible refine gate_callee (f := 37) rfl ?_); refine goesL_ (some 36) rfl rfl Try.func37 (by kernel_rfl) rfl #[.agg #[.slice Ao28 t374.length co28, .slice Ao31 t377.length co31]] rfl (by (try simp only [List.map_toArray, List.map_cons, List.map_nil]); first | done | rfl | (simp only [List.length_drop, List.length_take]; rfl)) ?_; (with_reducible refine (R2_Right.calls kj3 _ _ t374 _ _ t377 true _ ?side1 ?side2 ?side3 ?side4 A40.out).mono ?_); (case side1 => refine (Kd.R_reads' (e := 9) (base := w.heap.size) (ok := fun k_ => (True ∧ some k_ ≠ (.slice Ao35 t381.length co35 : Value).ownBlock)) (n := t374.length) (c := co28) ?_).2.2; exact (by (with_reducible repeat (first | apply Kd.R_alloc | apply Kd.R_drewN | apply Kd.R_drew)); exact (Kd.R_mono (Kd.R_far (p := ⟨gb387, 1, none⟩) (Kd.R_far (p := ⟨gb387, 0, none⟩) (Kd.R_types HO376.out BK387.out (by decide)) (fun _ hk => hk.2) (.slice Ao35 t381.length co35)) (fun _ hk => hk.2) (.slice Ao39 t384.length co39)) (fun _ h_ => h_.1)))); (case side2 => exact (Kd.R_reads' HO376.out).2.1); (case side3 => refine (Kd.R_reads' (e := 79) (base := w.heap.size) (ok := fun k_ => (True ∧ some k_ ≠ (.slice Ao39 t384.length co39 : Value).ownBlock)) (n := t377.length) (c := co31) ?_).2.2; exact (by (with_reducible repeat (first | apply Kd.R_alloc | apply Kd.R_drewN | apply Kd.R_drew)); exact (Kd.R_mono (Kd.R_far (p := ⟨gb387, 1, none⟩) (Kd.R_far (p := ⟨gb387, 0, none⟩) (Kd.R_types HO379.out BK387.out (by decide)) (fun _ hk => hk.2) (.slice Ao35 t381.length co35)) (fun _ hk => hk.2) (.slice Ao39 t384.length co39)) (fun _ h_ => h_.1)))); (case side4 => exact (Kd.R_reads' HO379.out).2.1); rintro e w69 ⟨rfl, hb⟩; refine ⟨_, rfl, ?_⟩; have n0_ := Aside0.mk (Kd.R_below (by (with_reducible repeat (first | apply Kd.R_alloc | apply Kd.R_drewN | apply Kd.R_drew)); exact (Kd.R_mono (Kd.R_far (p := ⟨gb387, 1, none⟩) (Kd.R_far (p := ⟨gb387, 0, none⟩) (Kd.R_types HO376.out BK387.out (by decide)) (fun _ hk => hk.2) (.slice Ao35 t381.length co35)) (fun _ hk => hk.2) (.slice Ao39 t384.length co39)) (fun _ h_ => h_.1))) hb); have n1_ := Aside0.mk (Kd.R_below (by (with_reducible repeat (first | apply Kd.R_alloc | apply Kd.R_drewN | apply Kd.R_drew)); exact (Kd.R_mono (Kd.R_far (p := ⟨gb387, 1, none⟩) (Kd.R_far (p := ⟨gb387, 0, none⟩) (Kd.R_types HO379.out BK387.out (by decide)) (fun _ hk => hk.2) (.slice Ao35 t381.length co35)) (fun _ hk => hk.2) (.slice Ao39 t384.length co39)) (fun _ h_ => h_.1))) hb); have n2_ := Aside0.mk (Kd.R_below (by (with_reducible repeat (first | apply Kd.R_alloc | apply Kd.R_drewN | apply Kd.R_drew)); exact (Kd.R_mono (Kd.R_far (p := ⟨gb387, 1, none⟩) (Kd.R_far (p := ⟨gb387, 0, none⟩) (Kd.R_types HO383.out BK387.out (by decide)) (fun _ hk => hk.2) (.slice Ao35 t381.length co35)) (fun _ hk => hk.2) (.slice Ao39 t384.length co39)) (fun _ h_ => h_.1))) hb); have n3_ := Aside0.mk (Kd.R_below (by (with_reducible repeat (first | apply Kd.R_alloc | apply Kd.R_drewN | apply Kd.R_drew)); exact (Kd.R_mono (Kd.R_far (p := ⟨gb387, 1, none⟩) (Kd.R_far (p := ⟨gb387, 0, none⟩) (Kd.R_types HO386.out BK387.out (by decide)) (fun _ hk => hk.2) (.slice Ao35 t381.length co35)) (fun _ hk => hk.2) (.slice Ao39 t384.length co39)) (fun _ h_ => h_.1))) hb); have n4_ := Aside0.mk (blk_below (g := gb370) (o := .cells #[.slice A0_0 l0_0.length c0_0, .slice A0_1 l0_1.length c0_1] 63 (0, 0)) (by (with_reducible repeat (first | refine blk_drewN ?_ _ | refine blk_drew ?_ | refine blk_alloc ?_ _)); refine blk_far ?_ NB370_387.out _; (with_reducible repeat (first | refine blk_drewN ?_ _ | refine blk_drew ?_ | refine blk_alloc ?_ _)); refine blk_far ?_ NB370_387.out _; (with_reducible repeat (first | refine blk_drewN ?_ _ | refine blk_drew ?_ | refine blk_alloc ?_ _)); exact BK370.out) hb); have n5_ := Aside0.mk (blk_below (g := gb380) (o := .cells #[.slice Ao28 t374.length co28, .slice Ao31 t377.length co31] 63 (0, 0)) (by (with_reducible repeat (first | refine blk_drewN ?_ _ | refine blk_drew ?_ | refine blk_alloc ?_ _)); refine blk_far ?_ NB380_387.out _; (with_reducible repeat (first | refine blk_drewN ?_ _ | refine blk_drew ?_ | refine blk_alloc ?_ _)); refine blk_far ?_ NB380_387.out _; (with_reducible repeat (first | refine blk_drewN ?_ _ | refine blk_drew ?_ | refine blk_alloc ?_ _)); exact BK380.out) hb); have n6_ := Aside0.mk (blk_below (g := gb387) (o := .cells #[.slice Ao35 t381.length co35, .slice Ao39 t384.length co39] 63 (0, 0)) (by (with_reducible repeat (first | refine blk_drewN ?_ _ | refine blk_drew ?_ | refine blk_alloc ?_ _)); refine blk_put (cs := #[.slice Ao35 t381.length co35, .slice none 0 0]) ?_ 1 _ rfl; (with_reducible repeat (first | refine blk_drewN ?_ _ | refine blk_drew ?_ | refine blk_alloc ?_ _)); refine blk_put (cs := #[.slice none 0 0, .slice none 0 0]) ?_ 0 _ rfl; (with_reducible repeat (first | refine blk_drewN ?_ _ | refine blk_drew ?_ | refine blk_alloc ?_ _)); exact BK387.out) hb); have n7_ := Aside0.mk (below_step (by repeat (first | (with_reducible first | exact HB.out | apply below_alloc | apply pw_below_drewN | apply below_drew1 | refine below_set ?_ GE370.out | refine below_set ?_ GE380.out | refine below_set ?_ GE387.out) | exact HB.out)) hb); clear HO376; clear HO379; clear HO383; clear HO386; clear BK370; clear BK380; clear BK387; clear HB; have HO376 := n0_; have HO379 := n1_; have HO383 := n2_; have HO386 := n3_; have BK370 := n4_; have BK380 := n5_; have BK387 := n6_; have HB := n7_; clear n0_ n1_ n2_ n3_ n4_ n5_ n6_ n7_; (try clear hb); (try clear hb2); (try clear hk); (try clear hi); have hnb70 := NB387_370.out; have hnc70 := NB370_387.out; have hcz71_0 : w69.cell? ⟨gb387, 0, none⟩ = some (.slice Ao35 t381.length co35) := (blk_cell BK387.out 0).trans rfl; have hcz71_1 : w69.cell? ⟨gb387, 1, none⟩ = some (.slice Ao39 t384.length co39) := (blk_cell BK387.out 1).trans rfl; have hfz71_0 := blk_frozen BK387.out 0; have hfz71_1 := blk_frozen BK387.out 1) | (go_at_call 37; (with_reducible refine (R2_Right.calls kj3 _ _ t381 _ _ t384 true _ ?side1 ?side2 ?side3 ?side4 A42.out).mono ?_); (case side1 => repeat (first | exact (Kd.R_reads' HO383.out).2.2 | (with_reducible refine Kd.C_alloc ?_ _) | (with_reducible refine Kd.C_drewN ?_ _) | (with_reducible refine Kd.C_drew ?_))); (case side2 => exact (Kd.R_reads' HO383.out).2.1); (case side3 => repeat (first | exact (Kd.R_reads' HO386.out).2.2 | (with_reducible refine Kd.C_alloc ?_ _) | (with_reducible refine Kd.C_drewN ?_ _) | (with_reducible refine Kd.C_drew ?_))); (case side4 => exact (Kd.R_reads' HO386.out).2.1); rintro e w72 ⟨rfl, hb⟩; have n0_ := Aside0.mk (Kd.R_below (by (with_reducible repeat (first | apply Kd.R_alloc | apply Kd.R_drewN | apply Kd.R_drew)); exact HO376.out) hb); have n1_ := Aside0.mk (Kd.R_below (by (with_reducible repeat (first | apply Kd.R_alloc | apply Kd.R_drewN | apply Kd.R_drew)); exact HO379.out) hb); have n2_ := Aside0.mk (Kd.R_below (by (with_reducible repeat (first | apply Kd.R_alloc | apply Kd.R_drewN | apply Kd.R_drew)); exact HO383.out) hb); have n3_ := Aside0.mk (Kd.R_below (by (with_reducible repeat (first | apply Kd.R_alloc | apply Kd.R_drewN | apply Kd.R_drew)); exact HO386.out) hb); have n4_ := Aside0.mk (blk_below (g := gb370) (o := .cells #[.slice A0_0 l0_0.length c0_0, .slice A0_1 l0_1.length c0_1] 63 (0, 0)) (by (with_reducible repeat (first | refine blk_drewN ?_ _ | refine blk_drew ?_ | refine blk_alloc ?_ _)); exact BK370.out) hb); have n5_ := Aside0.mk (blk_below (g := gb380) (o := .cells #[.slice Ao28 t374.length co28, .slice Ao31 t377.length co31] 63 (0, 0)) (by (with_reducible repeat (first | refine blk_drewN ?_ _ | refine blk_drew ?_ | refine blk_alloc ?_ _)); exact BK380.out) hb); have n6_ := Aside0.mk (blk_below (g := gb387) (o := .cells #[.slice Ao35 t381.length co35, .slice Ao39 t384.length co39] 63 (0, 0)) (by (with_reducible repeat (first | refine blk_drewN ?_ _ | refine blk_drew ?_ | refine blk_alloc ?_ _)); exact BK387.out) hb); have n7_ := Aside0.mk (below_step (by repeat (first | (with_reducible first | exact HB.out | apply below_alloc | apply pw_below_drewN | apply below_drew1 | refine below_set ?_ GE370.out | refine below_set ?_ GE380.out | refine below_set ?_ GE387.out) | exact HB.out)) hb); clear HO376; clear HO379; clear HO383; clear HO386; clear BK370; clear BK380; clear BK387; clear HB; have HO376 := n0_; have HO379 := n1_; have HO383 := n2_; have HO386 := n3_; have BK370 := n4_; have BK380 := n5_; have BK387 := n6_; have HB := n7_; clear n0_ n1_ n2_ n3_ n4_ n5_ n6_ n7_; (try clear hb); (try clear hb2); (try clear hk); (try clear hi); have hcz73_0 : w72.cell? ⟨gb380, 0, none⟩ = some (.slice Ao28 t374.length co28) := (blk_cell BK380.out 0).trans rfl; have hcz73_1 : w72.cell? ⟨gb380, 1, none⟩ = some (.slice Ao31 t377.length co31) := (blk_cell BK380.out 1).trans rfl; have hfz73_0 := blk_frozen BK380.out 0; have hfz73_1 := blk_frozen BK380.out 1; have hcz74_0 : w72.cell? ⟨gb387, 0, none⟩ = some (.slice Ao35 t381.length co35) := (blk_cell BK387.out 0).trans rfl; have hcz74_1 : w72.cell? ⟨gb387, 1, none⟩ = some (.slice Ao39 t384.length co39) := (blk_cell BK387.out 1).trans rfl; have hfz74_0 := blk_frozen BK387.out 0; have hfz74_1 := blk_frozen BK387.out 1))
        go_meet
        case rel => exact ⟨_, (true), (by first | rfl | (simp; done) | (simp [*]; done)), H', ⟨by have := HJ3.out; first | omega | exact Nat.le_refl _⟩, ⟨by (with_reducible repeat (first | apply Kd.R_alloc | apply Kd.R_drewN | apply Kd.R_drew)); exact Kd.R_mono HO376.out (fun _ hk => hk.2)⟩, ⟨by (with_reducible repeat (first | apply Kd.R_alloc | apply Kd.R_drewN | apply Kd.R_drew)); exact Kd.R_mono HO379.out (fun _ hk => hk.2)⟩, ⟨by (with_reducible repeat (first | apply Kd.R_alloc | apply Kd.R_drewN | apply Kd.R_drew)); exact Kd.R_mono HO383.out (fun _ hk => hk.2)⟩, ⟨by (with_reducible repeat (first | apply Kd.R_alloc | apply Kd.R_drewN | apply Kd.R_drew)); exact Kd.R_mono HO386.out (fun _ hk => hk.2)⟩, ⟨by (with_reducible repeat (first | refine blk_drewN ?_ _ | refine blk_drew ?_ | refine blk_alloc ?_ _)); exact BK370.out⟩, ⟨by (with_reducible repeat (first | refine blk_drewN ?_ _ | refine blk_drew ?_ | refine blk_alloc ?_ _)); exact BK380.out⟩, ⟨by (with_reducible repeat (first | refine blk_drewN ?_ _ | refine blk_drew ?_ | refine blk_alloc ?_ _)); exact BK387.out⟩, ⟨by repeat (first | (with_reducible first | exact HB.out | apply below_alloc | apply pw_below_drewN | apply below_drew1 | refine below_set ?_ GE370.out | refine below_set ?_ GE380.out | refine below_set ?_ GE387.out) | exact HB.out)⟩⟩
      ·replace c43 := Bool.eq_false_iff.mpr c43
       subst c43
       have H1 : (L2_DiskStays.j1 kj3 l1 t371 true l0_0 l0_1 t374 t377 t381 t384) = some r := by rw [if_neg (show ¬ (false = true) by decide)] at H; exact H
       clear H
       have H := H1
       clear H1
       have H' := Aside0.mk H
       clear H
       have hnb75 := NB380_370.out
       have hnc75 := NB370_380.out
       have hnb76 := NB380_387.out
       have hnc76 := NB387_380.out
       have hcz77_0 : w34.cell? ⟨gb380, 0, none⟩ = some (.slice Ao28 t374.length co28) := (blk_cell BK380.out 0).trans rfl
       have hcz77_1 : w34.cell? ⟨gb380, 1, none⟩ = some (.slice Ao31 t377.length co31) := (blk_cell BK380.out 1).trans rfl
       have hfz77_0 := blk_frozen BK380.out 0
       have hfz77_1 := blk_frozen BK380.out 1
       go_wp2_with (first | ((with_reducible refine gate_callee (f := 37) rfl ?_); refine goesL_ (some 36) rfl rfl Try.func37 (by kernel_rfl) rfl #[.agg #[.slice Ao28 t374.length co28, .slice Ao31 t377.length co31]] rfl (by (try simp only [List.map_toArray, List.map_cons, List.map_nil]); first | done | rfl | (simp only [List.length_drop, List.length_take]; rfl)) ?_; (with_reducible refine (R2_Right.calls kj3 _ _ t374 _ _ t377 true _ ?side1 ?side2 ?side3 ?side4 A40.out).mono ?_); (case side1 => refine (Kd.R_reads' (e := 9) (base := w.heap.size) (ok := fun k_ => (True ∧ some k_ ≠ (.slice Ao35 t381.length co35 : Value).ownBlock)) (n := t374.length) (c := co28) ?_).2.2; exact (by (with_reducible repeat (first | apply Kd.R_alloc | apply Kd.R_drewN | apply Kd.R_drew)); exact (Kd.R_mono (Kd.R_far (p := ⟨gb387, 1, none⟩) (Kd.R_far (p := ⟨gb387, 0, none⟩) (Kd.R_types HO376.out BK387.out (by decide)) (fun _ hk => hk.2) (.slice Ao35 t381.length co35)) (fun _ hk => hk.2) (.slice Ao39 t384.length co39)) (fun _ h_ => h_.1)))); (case side2 => exact (Kd.R_reads' HO376.out).2.1); (case side3 => refine (Kd.R_reads' (e := 79) (base := w.heap.size) (ok := fun k_ => (True ∧ some k_ ≠ (.slice Ao39 t384.length co39 : Value).ownBlock)) (n := t377.length) (c := co31) ?_).2.2; exact (by (with_reducible repeat (first | apply Kd.R_alloc | apply Kd.R_drewN | apply Kd.R_drew)); exact (Kd.R_mono (Kd.R_far (p := ⟨gb387, 1, none⟩) (Kd.R_far (p := ⟨gb387, 0, none⟩) (Kd.R_types HO379.out BK387.out (by decide)) (fun _ hk => hk.2) (.slice Ao35 t381.length co35)) (fun _ hk => hk.2) (.slice Ao39 t384.length co39)) (fun _ h_ => h_.1)))); (case side4 => exact (Kd.R_reads' HO379.out).2.1); rintro e w78 ⟨rfl, hb⟩; refine ⟨_, rfl, ?_⟩; have n0_ := Aside0.mk (Kd.R_below (by (with_reducible repeat (first | apply Kd.R_alloc | apply Kd.R_drewN | apply Kd.R_drew)); exact (Kd.R_mono (Kd.R_far (p := ⟨gb387, 1, none⟩) (Kd.R_far (p := ⟨gb387, 0, none⟩) (Kd.R_types HO376.out BK387.out (by decide)) (fun _ hk => hk.2) (.slice Ao35 t381.length co35)) (fun _ hk => hk.2) (.slice Ao39 t384.length co39)) (fun _ h_ => h_.1))) hb); have n1_ := Aside0.mk (Kd.R_below (by (with_reducible repeat (first | apply Kd.R_alloc | apply Kd.R_drewN | apply Kd.R_drew)); exact (Kd.R_mono (Kd.R_far (p := ⟨gb387, 1, none⟩) (Kd.R_far (p := ⟨gb387, 0, none⟩) (Kd.R_types HO379.out BK387.out (by decide)) (fun _ hk => hk.2) (.slice Ao35 t381.length co35)) (fun _ hk => hk.2) (.slice Ao39 t384.length co39)) (fun _ h_ => h_.1))) hb); have n2_ := Aside0.mk (Kd.R_below (by (with_reducible repeat (first | apply Kd.R_alloc | apply Kd.R_drewN | apply Kd.R_drew)); exact (Kd.R_mono (Kd.R_far (p := ⟨gb387, 1, none⟩) (Kd.R_far (p := ⟨gb387, 0, none⟩) (Kd.R_types HO383.out BK387.out (by decide)) (fun _ hk => hk.2) (.slice Ao35 t381.length co35)) (fun _ hk => hk.2) (.slice Ao39 t384.length co39)) (fun _ h_ => h_.1))) hb); have n3_ := Aside0.mk (Kd.R_below (by (with_reducible repeat (first | apply Kd.R_alloc | apply Kd.R_drewN | apply Kd.R_drew)); exact (Kd.R_mono (Kd.R_far (p := ⟨gb387, 1, none⟩) (Kd.R_far (p := ⟨gb387, 0, none⟩) (Kd.R_types HO386.out BK387.out (by decide)) (fun _ hk => hk.2) (.slice Ao35 t381.length co35)) (fun _ hk => hk.2) (.slice Ao39 t384.length co39)) (fun _ h_ => h_.1))) hb); have n4_ := Aside0.mk (blk_below (g := gb370) (o := .cells #[.slice A0_0 l0_0.length c0_0, .slice A0_1 l0_1.length c0_1] 63 (0, 0)) (by (with_reducible repeat (first | refine blk_drewN ?_ _ | refine blk_drew ?_ | refine blk_alloc ?_ _)); refine blk_far ?_ NB370_387.out _; (with_reducible repeat (first | refine blk_drewN ?_ _ | refine blk_drew ?_ | refine blk_alloc ?_ _)); refine blk_far ?_ NB370_387.out _; (with_reducible repeat (first | refine blk_drewN ?_ _ | refine blk_drew ?_ | refine blk_alloc ?_ _)); exact BK370.out) hb); have n5_ := Aside0.mk (blk_below (g := gb380) (o := .cells #[.slice Ao28 t374.length co28, .slice Ao31 t377.length co31] 63 (0, 0)) (by (with_reducible repeat (first | refine blk_drewN ?_ _ | refine blk_drew ?_ | refine blk_alloc ?_ _)); refine blk_far ?_ NB380_387.out _; (with_reducible repeat (first | refine blk_drewN ?_ _ | refine blk_drew ?_ | refine blk_alloc ?_ _)); refine blk_far ?_ NB380_387.out _; (with_reducible repeat (first | refine blk_drewN ?_ _ | refine blk_drew ?_ | refine blk_alloc ?_ _)); exact BK380.out) hb); have n6_ := Aside0.mk (blk_below (g := gb387) (o := .cells #[.slice Ao35 t381.length co35, .slice Ao39 t384.length co39] 63 (0, 0)) (by (with_reducible repeat (first | refine blk_drewN ?_ _ | refine blk_drew ?_ | refine blk_alloc ?_ _)); refine blk_put (cs := #[.slice Ao35 t381.length co35, .slice none 0 0]) ?_ 1 _ rfl; (with_reducible repeat (first | refine blk_drewN ?_ _ | refine blk_drew ?_ | refine blk_alloc ?_ _)); refine blk_put (cs := #[.slice none 0 0, .slice none 0 0]) ?_ 0 _ rfl; (with_reducible repeat (first | refine blk_drewN ?_ _ | refine blk_drew ?_ | refine blk_alloc ?_ _)); exact BK387.out) hb); have n7_ := Aside0.mk (below_step (by repeat (first | (with_reducible first | exact HB.out | apply below_alloc | apply pw_below_drewN | apply below_drew1 | refine below_set ?_ GE370.out | refine below_set ?_ GE380.out | refine below_set ?_ GE387.out) | exact HB.out)) hb); clear HO376; clear HO379; clear HO383; clear HO386; clear BK370; clear BK380; clear BK387; clear HB; have HO376 := n0_; have HO379 := n1_; have HO383 := n2_; have HO386 := n3_; have BK370 := n4_; have BK380 := n5_; have BK387 := n6_; have HB := n7_; clear n0_ n1_ n2_ n3_ n4_ n5_ n6_ n7_; (try clear hb); (try clear hb2); (try clear hk); (try clear hi); have hnb79 := NB387_370.out; have hnc79 := NB370_387.out; have hcz80_0 : w78.cell? ⟨gb387, 0, none⟩ = some (.slice Ao35 t381.length co35) := (blk_cell BK387.out 0).trans rfl; have hcz80_1 : w78.cell? ⟨gb387, 1, none⟩ = some (.slice Ao39 t384.length co39) := (blk_cell BK387.out 1).trans rfl; have hfz80_0 := blk_frozen BK387.out 0; have hfz80_1 := blk_frozen BK387.out 1) | (go_at_call 37; (with_reducible refine (R2_Right.calls kj3 _ _ t381 _ _ t384 false _ ?side1 ?side2 ?side3 ?side4 A42.out).mono ?_); (case side1 => repeat (first | exact (Kd.R_reads' HO383.out).2.2 | (with_reducible refine Kd.C_alloc ?_ _) | (with_reducible refine Kd.C_drewN ?_ _) | (with_reducible refine Kd.C_drew ?_))); (case side2 => exact (Kd.R_reads' HO383.out).2.1); (case side3 => repeat (first | exact (Kd.R_reads' HO386.out).2.2 | (with_reducible refine Kd.C_alloc ?_ _) | (with_reducible refine Kd.C_drewN ?_ _) | (with_reducible refine Kd.C_drew ?_))); (case side4 => exact (Kd.R_reads' HO386.out).2.1); rintro e w81 ⟨rfl, hb⟩; have n0_ := Aside0.mk (Kd.R_below (by (with_reducible repeat (first | apply Kd.R_alloc | apply Kd.R_drewN | apply Kd.R_drew)); exact HO376.out) hb); have n1_ := Aside0.mk (Kd.R_below (by (with_reducible repeat (first | apply Kd.R_alloc | apply Kd.R_drewN | apply Kd.R_drew)); exact HO379.out) hb); have n2_ := Aside0.mk (Kd.R_below (by (with_reducible repeat (first | apply Kd.R_alloc | apply Kd.R_drewN | apply Kd.R_drew)); exact HO383.out) hb); have n3_ := Aside0.mk (Kd.R_below (by (with_reducible repeat (first | apply Kd.R_alloc | apply Kd.R_drewN | apply Kd.R_drew)); exact HO386.out) hb); have n4_ := Aside0.mk (blk_below (g := gb370) (o := .cells #[.slice A0_0 l0_0.length c0_0, .slice A0_1 l0_1.length c0_1] 63 (0, 0)) (by (with_reducible repeat (first | refine blk_drewN ?_ _ | refine blk_drew ?_ | refine blk_alloc ?_ _)); exact BK370.out) hb); have n5_ := Aside0.mk (blk_below (g := gb380) (o := .cells #[.slice Ao28 t374.length co28, .slice Ao31 t377.length co31] 63 (0, 0)) (by (with_reducible repeat (first | refine blk_drewN ?_ _ | refine blk_drew ?_ | refine blk_alloc ?_ _)); exact BK380.out) hb); have n6_ := Aside0.mk (blk_below (g := gb387) (o := .cells #[.slice Ao35 t381.length co35, .slice Ao39 t384.length co39] 63 (0, 0)) (by (with_reducible repeat (first | refine blk_drewN ?_ _ | refine blk_drew ?_ | refine blk_alloc ?_ _)); exact BK387.out) hb); have n7_ := Aside0.mk (below_step (by repeat (first | (with_reducible first | exact HB.out | apply below_alloc | apply pw_below_drewN | apply below_drew1 | refine below_set ?_ GE370.out | refine below_set ?_ GE380.out | refine below_set ?_ GE387.out) | exact HB.out)) hb); clear HO376; clear HO379; clear HO383; clear HO386; clear BK370; clear BK380; clear BK387; clear HB; have HO376 := n0_; have HO379 := n1_; have HO383 := n2_; have HO386 := n3_; have BK370 := n4_; have BK380 := n5_; have BK387 := n6_; have HB := n7_; clear n0_ n1_ n2_ n3_ n4_ n5_ n6_ n7_; (try clear hb); (try clear hb2); (try clear hk); (try clear hi)))
       go_meet
       case rel => exact ⟨_, (true), (by first | rfl | (simp; done) | (simp [*]; done)), H', ⟨by have := HJ3.out; first | omega | exact Nat.le_refl _⟩, ⟨by (with_reducible repeat (first | apply Kd.R_alloc | apply Kd.R_drewN | apply Kd.R_drew)); exact Kd.R_mono HO376.out (fun _ hk => hk.2)⟩, ⟨by (with_reducible repeat (first | apply Kd.R_alloc | apply Kd.R_drewN | apply Kd.R_drew)); exact Kd.R_mono HO379.out (fun _ hk => hk.2)⟩, ⟨by (with_reducible repeat (first | apply Kd.R_alloc | apply Kd.R_drewN | apply Kd.R_drew)); exact Kd.R_mono HO383.out (fun _ hk => hk.2)⟩, ⟨by (with_reducible repeat (first | apply Kd.R_alloc | apply Kd.R_drewN | apply Kd.R_drew)); exact Kd.R_mono HO386.out (fun _ hk => hk.2)⟩, ⟨by (with_reducible repeat (first | refine blk_drewN ?_ _ | refine blk_drew ?_ | refine blk_alloc ?_ _)); exact BK370.out⟩, ⟨by (with_reducible repeat (first | refine blk_drewN ?_ _ | refine blk_drew ?_ | refine blk_alloc ?_ _)); exact BK380.out⟩, ⟨by (with_reducible repeat (first | refine blk_drewN ?_ _ | refine blk_drew ?_ | refine blk_alloc ?_ _)); exact BK387.out⟩, ⟨by repeat (first | (with_reducible first | exact HB.out | apply below_alloc | apply pw_below_drewN | apply below_drew1 | refine below_set ?_ GE370.out | refine below_set ?_ GE380.out | refine below_set ?_ GE387.out) | exact HB.out)⟩⟩
     ·replace c41 := Bool.eq_false_iff.mpr c41
      subst c41
      have H1 : (L2_DiskStays.j1 kj3 l1 t371 true l0_0 l0_1 t374 t377 t381 t384) = some r := by rw [if_neg (show ¬ (false = true) by decide)] at H; exact H
      clear H
      have H := H1
      clear H1
      have H' := Aside0.mk H
      clear H
      have hnb82 := NB380_370.out
      have hnc82 := NB370_380.out
      have hnb83 := NB380_387.out
      have hnc83 := NB387_380.out
      have hcz84_0 : w34.cell? ⟨gb380, 0, none⟩ = some (.slice Ao28 t374.length co28) := (blk_cell BK380.out 0).trans rfl
      have hcz84_1 : w34.cell? ⟨gb380, 1, none⟩ = some (.slice Ao31 t377.length co31) := (blk_cell BK380.out 1).trans rfl
      have hfz84_0 := blk_frozen BK380.out 0
      have hfz84_1 := blk_frozen BK380.out 1
      go_wp2_with (first | ((with_reducible refine gate_callee (f := 37) rfl ?_); refine goesL_ (some 36) rfl rfl Try.func37 (by kernel_rfl) rfl #[.agg #[.slice Ao28 t374.length co28, .slice Ao31 t377.length co31]] rfl (by (try simp only [List.map_toArray, List.map_cons, List.map_nil]); first | done | rfl | (simp only [List.length_drop, List.length_take]; rfl)) ?_; (with_reducible refine (R2_Right.calls kj3 _ _ t374 _ _ t377 false _ ?side1 ?side2 ?side3 ?side4 A40.out).mono ?_); (case side1 => refine (Kd.R_reads' (e := 9) (base := w.heap.size) (ok := fun k_ => (True ∧ some k_ ≠ (.slice Ao35 t381.length co35 : Value).ownBlock)) (n := t374.length) (c := co28) ?_).2.2; exact (by (with_reducible repeat (first | apply Kd.R_alloc | apply Kd.R_drewN | apply Kd.R_drew)); exact (Kd.R_mono (Kd.R_far (p := ⟨gb387, 1, none⟩) (Kd.R_far (p := ⟨gb387, 0, none⟩) (Kd.R_types HO376.out BK387.out (by decide)) (fun _ hk => hk.2) (.slice Ao35 t381.length co35)) (fun _ hk => hk.2) (.slice Ao39 t384.length co39)) (fun _ h_ => h_.1)))); (case side2 => exact (Kd.R_reads' HO376.out).2.1); (case side3 => refine (Kd.R_reads' (e := 79) (base := w.heap.size) (ok := fun k_ => (True ∧ some k_ ≠ (.slice Ao39 t384.length co39 : Value).ownBlock)) (n := t377.length) (c := co31) ?_).2.2; exact (by (with_reducible repeat (first | apply Kd.R_alloc | apply Kd.R_drewN | apply Kd.R_drew)); exact (Kd.R_mono (Kd.R_far (p := ⟨gb387, 1, none⟩) (Kd.R_far (p := ⟨gb387, 0, none⟩) (Kd.R_types HO379.out BK387.out (by decide)) (fun _ hk => hk.2) (.slice Ao35 t381.length co35)) (fun _ hk => hk.2) (.slice Ao39 t384.length co39)) (fun _ h_ => h_.1)))); (case side4 => exact (Kd.R_reads' HO379.out).2.1); rintro e w85 ⟨rfl, hb⟩; refine ⟨_, rfl, ?_⟩; have n0_ := Aside0.mk (Kd.R_below (by (with_reducible repeat (first | apply Kd.R_alloc | apply Kd.R_drewN | apply Kd.R_drew)); exact (Kd.R_mono (Kd.R_far (p := ⟨gb387, 1, none⟩) (Kd.R_far (p := ⟨gb387, 0, none⟩) (Kd.R_types HO376.out BK387.out (by decide)) (fun _ hk => hk.2) (.slice Ao35 t381.length co35)) (fun _ hk => hk.2) (.slice Ao39 t384.length co39)) (fun _ h_ => h_.1))) hb); have n1_ := Aside0.mk (Kd.R_below (by (with_reducible repeat (first | apply Kd.R_alloc | apply Kd.R_drewN | apply Kd.R_drew)); exact (Kd.R_mono (Kd.R_far (p := ⟨gb387, 1, none⟩) (Kd.R_far (p := ⟨gb387, 0, none⟩) (Kd.R_types HO379.out BK387.out (by decide)) (fun _ hk => hk.2) (.slice Ao35 t381.length co35)) (fun _ hk => hk.2) (.slice Ao39 t384.length co39)) (fun _ h_ => h_.1))) hb); have n2_ := Aside0.mk (Kd.R_below (by (with_reducible repeat (first | apply Kd.R_alloc | apply Kd.R_drewN | apply Kd.R_drew)); exact (Kd.R_mono (Kd.R_far (p := ⟨gb387, 1, none⟩) (Kd.R_far (p := ⟨gb387, 0, none⟩) (Kd.R_types HO383.out BK387.out (by decide)) (fun _ hk => hk.2) (.slice Ao35 t381.length co35)) (fun _ hk => hk.2) (.slice Ao39 t384.length co39)) (fun _ h_ => h_.1))) hb); have n3_ := Aside0.mk (Kd.R_below (by (with_reducible repeat (first | apply Kd.R_alloc | apply Kd.R_drewN | apply Kd.R_drew)); exact (Kd.R_mono (Kd.R_far (p := ⟨gb387, 1, none⟩) (Kd.R_far (p := ⟨gb387, 0, none⟩) (Kd.R_types HO386.out BK387.out (by decide)) (fun _ hk => hk.2) (.slice Ao35 t381.length co35)) (fun _ hk => hk.2) (.slice Ao39 t384.length co39)) (fun _ h_ => h_.1))) hb); have n4_ := Aside0.mk (blk_below (g := gb370) (o := .cells #[.slice A0_0 l0_0.length c0_0, .slice A0_1 l0_1.length c0_1] 63 (0, 0)) (by (with_reducible repeat (first | refine blk_drewN ?_ _ | refine blk_drew ?_ | refine blk_alloc ?_ _)); refine blk_far ?_ NB370_387.out _; (with_reducible repeat (first | refine blk_drewN ?_ _ | refine blk_drew ?_ | refine blk_alloc ?_ _)); refine blk_far ?_ NB370_387.out _; (with_reducible repeat (first | refine blk_drewN ?_ _ | refine blk_drew ?_ | refine blk_alloc ?_ _)); exact BK370.out) hb); have n5_ := Aside0.mk (blk_below (g := gb380) (o := .cells #[.slice Ao28 t374.length co28, .slice Ao31 t377.length co31] 63 (0, 0)) (by (with_reducible repeat (first | refine blk_drewN ?_ _ | refine blk_drew ?_ | refine blk_alloc ?_ _)); refine blk_far ?_ NB380_387.out _; (with_reducible repeat (first | refine blk_drewN ?_ _ | refine blk_drew ?_ | refine blk_alloc ?_ _)); refine blk_far ?_ NB380_387.out _; (with_reducible repeat (first | refine blk_drewN ?_ _ | refine blk_drew ?_ | refine blk_alloc ?_ _)); exact BK380.out) hb); have n6_ := Aside0.mk (blk_below (g := gb387) (o := .cells #[.slice Ao35 t381.length co35, .slice Ao39 t384.length co39] 63 (0, 0)) (by (with_reducible repeat (first | refine blk_drewN ?_ _ | refine blk_drew ?_ | refine blk_alloc ?_ _)); refine blk_put (cs := #[.slice Ao35 t381.length co35, .slice none 0 0]) ?_ 1 _ rfl; (with_reducible repeat (first | refine blk_drewN ?_ _ | refine blk_drew ?_ | refine blk_alloc ?_ _)); refine blk_put (cs := #[.slice none 0 0, .slice none 0 0]) ?_ 0 _ rfl; (with_reducible repeat (first | refine blk_drewN ?_ _ | refine blk_drew ?_ | refine blk_alloc ?_ _)); exact BK387.out) hb); have n7_ := Aside0.mk (below_step (by repeat (first | (with_reducible first | exact HB.out | apply below_alloc | apply pw_below_drewN | apply below_drew1 | refine below_set ?_ GE370.out | refine below_set ?_ GE380.out | refine below_set ?_ GE387.out) | exact HB.out)) hb); clear HO376; clear HO379; clear HO383; clear HO386; clear BK370; clear BK380; clear BK387; clear HB; have HO376 := n0_; have HO379 := n1_; have HO383 := n2_; have HO386 := n3_; have BK370 := n4_; have BK380 := n5_; have BK387 := n6_; have HB := n7_; clear n0_ n1_ n2_ n3_ n4_ n5_ n6_ n7_; (try clear hb); (try clear hb2); (try clear hk); (try clear hi)))
      go_meet
      case rel => exact ⟨_, (true), (by first | rfl | (simp; done) | (simp [*]; done)), H', ⟨by have := HJ3.out; first | omega | exact Nat.le_refl _⟩, ⟨by (with_reducible repeat (first | apply Kd.R_alloc | apply Kd.R_drewN | apply Kd.R_drew)); exact Kd.R_mono HO376.out (fun _ hk => hk.2)⟩, ⟨by (with_reducible repeat (first | apply Kd.R_alloc | apply Kd.R_drewN | apply Kd.R_drew)); exact Kd.R_mono HO379.out (fun _ hk => hk.2)⟩, ⟨by (with_reducible repeat (first | apply Kd.R_alloc | apply Kd.R_drewN | apply Kd.R_drew)); exact Kd.R_mono HO383.out (fun _ hk => hk.2)⟩, ⟨by (with_reducible repeat (first | apply Kd.R_alloc | apply Kd.R_drewN | apply Kd.R_drew)); exact Kd.R_mono HO386.out (fun _ hk => hk.2)⟩, ⟨by (with_reducible repeat (first | refine blk_drewN ?_ _ | refine blk_drew ?_ | refine blk_alloc ?_ _)); exact BK370.out⟩, ⟨by (with_reducible repeat (first | refine blk_drewN ?_ _ | refine blk_drew ?_ | refine blk_alloc ?_ _)); exact BK380.out⟩, ⟨by (with_reducible repeat (first | refine blk_drewN ?_ _ | refine blk_drew ?_ | refine blk_alloc ?_ _)); exact BK387.out⟩, ⟨by repeat (first | (with_reducible first | exact HB.out | apply below_alloc | apply pw_below_drewN | apply below_drew1 | refine below_set ?_ GE370.out | refine below_set ?_ GE380.out | refine below_set ?_ GE387.out) | exact HB.out)⟩⟩
    case rest =>
     clear HC24
     try clear c1
     try clear c2
     try clear p2
     try clear c3
     try clear c4
     try clear c5
     try clear c6
     try clear p6
     try clear c7
     try clear c8
     try clear c9
     try clear c10
     try clear c21
     try clear c29
     try clear c33
     try clear c34
     try clear c36
     try clear c37
     try clear c41
     try clear c43
     try clear c44
     try clear c44b0
     try clear c44b1
     try clear c45
     try clear c45b0
     try clear c45b1
     try clear c45b2
     try clear c46
     try clear c47
     try clear c48
     try clear c50
     try clear c56
     try clear c57
     try clear c60
     try clear p64
     try clear c66
     try clear c67
     try clear c70
     try clear c75
     try clear c76
     try clear c79
     try clear c82
     try clear c83
     try clear hcz11_0
     try clear hcz11_1
     try clear hcz13_0
     try clear hcz13_1
     try clear hcz15_0
     try clear hcz15_1
     try clear hcz17_0
     try clear hcz17_1
     try clear hcz19_0
     try clear hcz19_1
     try clear hcz25_0
     try clear hcz25_1
     try clear hcz30_0
     try clear hcz30_1
     try clear hcz32_0
     try clear hcz32_1
     try clear hcz38_0
     try clear hcz38_1
     try clear hcz48_0
     try clear hcz48_1
     try clear hcz51_0
     try clear hcz51_1
     try clear hcz53_0
     try clear hcz53_1
     try clear hcz54_0
     try clear hcz54_1
     try clear hcz55_0
     try clear hcz55_1
     try clear hcz58_0
     try clear hcz58_1
     try clear hcz61_0
     try clear hcz61_1
     try clear hcz63_0
     try clear hcz63_1
     try clear hcz64_0
     try clear hcz64_1
     try clear hcz65_0
     try clear hcz65_1
     try clear hcz68_0
     try clear hcz68_1
     try clear hcz71_0
     try clear hcz71_1
     try clear hcz73_0
     try clear hcz73_1
     try clear hcz74_0
     try clear hcz74_1
     try clear hcz77_0
     try clear hcz77_1
     try clear hcz80_0
     try clear hcz80_1
     try clear hcz84_0
     try clear hcz84_1
     try clear hfz11_0
     try clear hfz11_1
     try clear hfz13_0
     try clear hfz13_1
     try clear hfz15_0
     try clear hfz15_1
     try clear hfz17_0
     try clear hfz17_1
     try clear hfz19_0
     try clear hfz19_1
     try clear hfz25_0
     try clear hfz25_1
     try clear hfz30_0
     try clear hfz30_1
     try clear hfz32_0
     try clear hfz32_1
     try clear hfz38_0
     try clear hfz38_1
     try clear hfz48_0
     try clear hfz48_1
     try clear hfz51_0
     try clear hfz51_1
     try clear hfz53_0
     try clear hfz53_1
     try clear hfz54_0
     try clear hfz54_1
     try clear hfz55_0
     try clear hfz55_1
     try clear hfz58_0
     try clear hfz58_1
     try clear hfz61_0
     try clear hfz61_1
     try clear hfz63_0
     try clear hfz63_1
     try clear hfz64_0
     try clear hfz64_1
     try clear hfz65_0
     try clear hfz65_1
     try clear hfz68_0
     try clear hfz68_1
     try clear hfz71_0
     try clear hfz71_1
     try clear hfz73_0
     try clear hfz73_1
     try clear hfz74_0
     try clear hfz74_1
     try clear hfz77_0
     try clear hfz77_1
     try clear hfz80_0
     try clear hfz80_1
     try clear hfz84_0
     try clear hfz84_1
     try clear p2
     obtain ⟨kq, x70_23, rfl, HA, HJ23, HO_381000, HO_381001, HO_388000, HO_388001, BK370, BK380, BK387, HB⟩ := hcut
     cases kq with
     | zero => exact absurd HA.out (by simp [L2_DiskStays.j1])
     | succ kj23 =>
      have H := HA.out
      clear HA
      simp only [L2_DiskStays.j1] at H
      by_cases c86 : x70_23 = true
      ·subst c86
       have H1 : (none) = some r := by rw [if_pos rfl] at H; exact H
       clear H
       have H := H1
       clear H1
       exact absurd H (by simp)
      ·replace c86 := Bool.eq_false_iff.mpr c86
       subst c86
       have H1 : (L2_DiskStays.l0 kj23 l1 t371 (([] : List Bool)) 0 l0_0 l0_1 t374 t377 t381 t384) = some r := by rw [if_neg (show ¬ (false = true) by decide)] at H; exact H
       clear H
       have H := H1
       clear H1
       obtain ⟨y390, hy390⟩ : ∃ y_ : List Bool, y_ = (([] : List Bool)) := ⟨_, rfl⟩
       replace H : (L2_DiskStays.l0 kj23 l1 t371 y390 0 l0_0 l0_1 t374 t377 t381 t384) = some r := by first | (rw [hy390]; with_reducible exact H) | (have H2_ := (Option.bind_some _ _).symm.trans H; rw [hy390]; with_reducible exact H2_) | (have H2_ := (Option.bind_some _ _).symm.trans H; with_reducible exact H2_) | with_reducible exact H | (rw [hy390]; exact H) | exact H
       have Ny390 := Aside0.mk hy390
       clear hy390
       have H' := Aside0.mk H
       clear H
       go_wp2_with (first | ((with_reducible refine gate_dst (N := 71) rfl ?_); (try (refine gate_guard (by rfl) ?_; dsimp only)); refine Kd.R_lit Kd.bool _ 4 ?hg (N := 71) ?hd (xs := ([] : List Bool)) (inner := []) (ok := fun _ => True) (okp := fun _ => True) ?hr ?hp (fun _ hk => hk) trivial (Below.refl _ _) (Nat.le_refl _) (by simp) ?_; (case hd => rfl); (case hg => rfl); (case hr => first | (go_simp; done) | (go_simp; rfl)); (case hp => exact (Reps.none _ _)); intro v391 w87 ho88 hb hg_ hnew_; clear hg_ hnew_; (first | rw [← Ny390.out] at ho88 | (simp only [Int.reduceToNat] at ho88; rw [← Ny390.out] at ho88)); have n0_ := Aside0.mk (Kd.R_below (by (with_reducible repeat (first | apply Kd.R_alloc | apply Kd.R_drewN | apply Kd.R_drew)); exact HO_381000.out) hb); have n1_ := Aside0.mk (Kd.R_below (by (with_reducible repeat (first | apply Kd.R_alloc | apply Kd.R_drewN | apply Kd.R_drew)); exact HO_381001.out) hb); have n2_ := Aside0.mk (Kd.R_below (by (with_reducible repeat (first | apply Kd.R_alloc | apply Kd.R_drewN | apply Kd.R_drew)); exact HO_388000.out) hb); have n3_ := Aside0.mk (Kd.R_below (by (with_reducible repeat (first | apply Kd.R_alloc | apply Kd.R_drewN | apply Kd.R_drew)); exact HO_388001.out) hb); have n4_ := Aside0.mk (Kd.R_lower ho88 (below_size (by repeat (first | (with_reducible first | exact HB.out | apply below_alloc | apply pw_below_drewN | apply below_drew1 | refine below_set ?_ GE370.out | refine below_set ?_ GE380.out | refine below_set ?_ GE387.out) | exact HB.out)))); have n5_ := Aside0.mk (blk_below (g := gb370) (o := .cells #[.slice A0_0 l0_0.length c0_0, .slice A0_1 l0_1.length c0_1] 63 (0, 0)) (by (with_reducible repeat (first | refine blk_drewN ?_ _ | refine blk_drew ?_ | refine blk_alloc ?_ _)); exact BK370.out) hb); have n6_ := Aside0.mk (blk_below (g := gb380) (o := .cells #[.slice Ao28 t374.length co28, .slice Ao31 t377.length co31] 63 (0, 0)) (by (with_reducible repeat (first | refine blk_drewN ?_ _ | refine blk_drew ?_ | refine blk_alloc ?_ _)); exact BK380.out) hb); have n7_ := Aside0.mk (blk_below (g := gb387) (o := .cells #[.slice Ao35 t381.length co35, .slice Ao39 t384.length co39] 63 (0, 0)) (by (with_reducible repeat (first | refine blk_drewN ?_ _ | refine blk_drew ?_ | refine blk_alloc ?_ _)); exact BK387.out) hb); have n8_ := Aside0.mk (below_step (by repeat (first | (with_reducible first | exact HB.out | apply below_alloc | apply pw_below_drewN | apply below_drew1 | refine below_set ?_ GE370.out | refine below_set ?_ GE380.out | refine below_set ?_ GE387.out) | exact HB.out)) hb); clear HO_381000; clear HO_381001; clear HO_388000; clear HO_388001; clear BK370; clear BK380; clear BK387; clear HB; have HO_381000 := n0_; have HO_381001 := n1_; have HO_388000 := n2_; have HO_388001 := n3_; have HO392 := n4_; have BK370 := n5_; have BK380 := n6_; have BK387 := n7_; have HB := n8_; clear n0_ n1_ n2_ n3_ n4_ n5_ n6_ n7_ n8_; clear hb ho88))
       go_loopg [8, 9] kj23 (fun kq v8 v9 w' => ∃ (x8_3 : List Bool) (x9_3 : Int), v9 = .int .i64 x9_3 ∧ Aside0 (L2_DiskStays.l0 kq l1 t371 x8_3 x9_3 l0_0 l0_1 t374 t377 t381 t384 = some r) ∧ Aside0 (kq ≤ kj23) ∧ Aside0 (Kd.R Kd.bool 4 w' w.heap.size (fun _ => True) v8 x8_3) ∧ Aside0 (Kd.R Kd.string 9 w' w.heap.size (fun k_ => some k_ ≠ ((.slice Ao35 t381.length co35) : Value).ownBlock) (.slice Ao28 t374.length co28) t374) ∧ Aside0 (Kd.R k79 79 w' w.heap.size (fun k_ => some k_ ≠ ((.slice Ao39 t384.length co39) : Value).ownBlock) (.slice Ao31 t377.length co31) t377) ∧ Aside0 (Kd.R Kd.string 9 w' w.heap.size (fun k_ => some k_ ≠ ((.slice Ao28 t374.length co28) : Value).ownBlock) (.slice Ao35 t381.length co35) t381) ∧ Aside0 (Kd.R k79 79 w' w.heap.size (fun k_ => some k_ ≠ ((.slice Ao31 t377.length co31) : Value).ownBlock) (.slice Ao39 t384.length co39) t384) ∧ Aside0 (w'.heap[gb370]? = some (.cells #[(.slice A0_0 l0_0.length c0_0), (.slice A0_1 l0_1.length c0_1)] 63 (0, 0))) ∧ Aside0 (w'.heap[gb380]? = some (.cells #[(.slice Ao28 t374.length co28), (.slice Ao31 t377.length co31)] 63 (0, 0))) ∧ Aside0 (w'.heap[gb387]? = some (.cells #[(.slice Ao35 t381.length co35), (.slice Ao39 t384.length co39)] 63 (0, 0))) ∧ Aside0 (Below w.heap.size w w'))
       case atStart => exact ⟨(y390), (0), (by first | rfl | (simp; done) | (simp [*]; done)), H', ⟨Nat.le_refl _⟩, ⟨by (with_reducible repeat (first | apply Kd.R_alloc | apply Kd.R_drewN | apply Kd.R_drew)); exact HO392.out⟩, ⟨by (with_reducible repeat (first | apply Kd.R_alloc | apply Kd.R_drewN | apply Kd.R_drew)); exact HO_381000.out⟩, ⟨by (with_reducible repeat (first | apply Kd.R_alloc | apply Kd.R_drewN | apply Kd.R_drew)); exact HO_381001.out⟩, ⟨by (with_reducible repeat (first | apply Kd.R_alloc | apply Kd.R_drewN | apply Kd.R_drew)); exact HO_388000.out⟩, ⟨by (with_reducible repeat (first | apply Kd.R_alloc | apply Kd.R_drewN | apply Kd.R_drew)); exact HO_388001.out⟩, ⟨by (with_reducible repeat (first | refine blk_drewN ?_ _ | refine blk_drew ?_ | refine blk_alloc ?_ _)); exact BK370.out⟩, ⟨by (with_reducible repeat (first | refine blk_drewN ?_ _ | refine blk_drew ?_ | refine blk_alloc ?_ _)); exact BK380.out⟩, ⟨by (with_reducible repeat (first | refine blk_drewN ?_ _ | refine blk_drew ?_ | refine blk_alloc ?_ _)); exact BK387.out⟩, ⟨by repeat (first | (with_reducible first | exact HB.out | apply below_alloc | apply pw_below_drewN | apply below_drew1 | refine below_set ?_ GE370.out | refine below_set ?_ GE380.out | refine below_set ?_ GE387.out) | exact HB.out)⟩⟩
       case round =>
        clear H'
        try clear c1
        try clear c2
        try clear p2
        try clear c3
        try clear c4
        try clear c5
        try clear c6
        try clear p6
        try clear c7
        try clear c8
        try clear c9
        try clear c10
        try clear c21
        try clear c29
        try clear c33
        try clear c34
        try clear c36
        try clear c37
        try clear c41
        try clear c43
        try clear c44
        try clear c44b0
        try clear c44b1
        try clear c45
        try clear c45b0
        try clear c45b1
        try clear c45b2
        try clear c46
        try clear c47
        try clear c48
        try clear c50
        try clear c56
        try clear c57
        try clear c60
        try clear p64
        try clear c66
        try clear c67
        try clear c70
        try clear c75
        try clear c76
        try clear c79
        try clear c82
        try clear c83
        try clear c86
        try clear hcz11_0
        try clear hcz11_1
        try clear hcz13_0
        try clear hcz13_1
        try clear hcz15_0
        try clear hcz15_1
        try clear hcz17_0
        try clear hcz17_1
        try clear hcz19_0
        try clear hcz19_1
        try clear hcz25_0
        try clear hcz25_1
        try clear hcz30_0
        try clear hcz30_1
        try clear hcz32_0
        try clear hcz32_1
        try clear hcz38_0
        try clear hcz38_1
        try clear hcz48_0
        try clear hcz48_1
        try clear hcz51_0
        try clear hcz51_1
        try clear hcz53_0
        try clear hcz53_1
        try clear hcz54_0
        try clear hcz54_1
        try clear hcz55_0
        try clear hcz55_1
        try clear hcz58_0
        try clear hcz58_1
        try clear hcz61_0
        try clear hcz61_1
        try clear hcz63_0
        try clear hcz63_1
        try clear hcz64_0
        try clear hcz64_1
        try clear hcz65_0
        try clear hcz65_1
        try clear hcz68_0
        try clear hcz68_1
        try clear hcz71_0
        try clear hcz71_1
        try clear hcz73_0
        try clear hcz73_1
        try clear hcz74_0
        try clear hcz74_1
        try clear hcz77_0
        try clear hcz77_1
        try clear hcz80_0
        try clear hcz80_1
        try clear hcz84_0
        try clear hcz84_1
        try clear hfz11_0
        try clear hfz11_1
        try clear hfz13_0
        try clear hfz13_1
        try clear hfz15_0
        try clear hfz15_1
        try clear hfz17_0
        try clear hfz17_1
        try clear hfz19_0
        try clear hfz19_1
        try clear hfz25_0
        try clear hfz25_1
        try clear hfz30_0
        try clear hfz30_1
        try clear hfz32_0
        try clear hfz32_1
        try clear hfz38_0
        try clear hfz38_1
        try clear hfz48_0
        try clear hfz48_1
        try clear hfz51_0
        try clear hfz51_1
        try clear hfz53_0
        try clear hfz53_1
        try clear hfz54_0
        try clear hfz54_1
        try clear hfz55_0
        try clear hfz55_1
        try clear hfz58_0
        try clear hfz58_1
        try clear hfz61_0
        try clear hfz61_1
        try clear hfz63_0
        try clear hfz63_1
        try clear hfz64_0
        try clear hfz64_1
        try clear hfz65_0
        try clear hfz65_1
        try clear hfz68_0
        try clear hfz68_1
        try clear hfz71_0
        try clear hfz71_1
        try clear hfz73_0
        try clear hfz73_1
        try clear hfz74_0
        try clear hfz74_1
        try clear hfz77_0
        try clear hfz77_1
        try clear hfz80_0
        try clear hfz80_1
        try clear hfz84_0
        try clear hfz84_1
        try clear p2
        try clear p6
        try clear p64
        obtain ⟨x8_3, x9_3, rfl, HA, HK3, HO_8, HO_381000, HO_381001, HO_388000, HO_388001, BK370, BK380, BK387, HB⟩ := hrel
        cases gk with
        | zero => exact absurd HA.out (by simp [L2_DiskStays.l0])
        | succ k3 =>
         have H := HA.out
         clear HA
         simp only [L2_DiskStays.l0] at H
         by_cases c89 : x9_3 < (l0_1.length : Int)
         ·rw [if_pos c89] at H
          have c89b0 : decide (x9_3 < (l0_1.length : Int)) = true := decide_eq_true c89
          clear c89
          by_cases c90 : x8_3.length < 140737488355328
          ·rw [if_pos c90] at H
           have LMc90 := Aside0.mk c90
           clear c90
           obtain ⟨y393, hy393⟩ : ∃ y_ : List Bool, y_ = (x8_3 ++ [true]) := ⟨_, rfl⟩
           replace H : (L2_DiskStays.l0 k3 l1 t371 y393 (wrap64 (x9_3 + 1)) l0_0 l0_1 t374 t377 t381 t384) = some r := by first | (rw [hy393]; with_reducible exact H) | (have H2_ := (Option.bind_some _ _).symm.trans H; rw [hy393]; with_reducible exact H2_) | (have H2_ := (Option.bind_some _ _).symm.trans H; with_reducible exact H2_) | with_reducible exact H | (rw [hy393]; exact H) | exact H
           have Ny393 := Aside0.mk hy393
           clear hy393
           have H' := Aside0.mk H
           clear H
           have hnb91 := NB370_380.out
           have hnc91 := NB380_370.out
           have hnb92 := NB370_387.out
           have hnc92 := NB387_370.out
           have hcz93_0 : wr.cell? ⟨gb370, 0, none⟩ = some (.slice A0_0 l0_0.length c0_0) := (blk_cell BK370.out 0).trans rfl
           have hcz93_1 : wr.cell? ⟨gb370, 1, none⟩ = some (.slice A0_1 l0_1.length c0_1) := (blk_cell BK370.out 1).trans rfl
           have hfz93_0 := blk_frozen BK370.out 0
           have hfz93_1 := blk_frozen BK370.out 1
           go_wp2_with (first | ((with_reducible refine gate_builtin (b := .append) (xs := #[.tmp 79, .tmp 80]) rfl ?_); (try (refine gate_guard (by rfl) ?_; dsimp only)); at_builtin; refine Kd.R_append Kd.bool (w0 := w) w.heap.size rfl (.tmp 79) (.tmp 80) 80 4 (.bool false) 1 rfl Try.underlying80 info4 rfl (by decide) (by omega) u8 x8_3 true [.bool true] (fun _ => True) (fun _ => False) rfl rfl ?aP (fun _ hk => hk.elim) ?aF ?aO ?aB ?aS ?aL ?_; (case aP => exact rfl); (case aB => exact (by repeat (first | (with_reducible first | exact HB.out | apply below_alloc | apply pw_below_drewN | apply below_drew1 | refine below_set ?_ GE370.out | refine below_set ?_ GE380.out | refine below_set ?_ GE387.out) | exact HB.out))); (case aF => exact (fun _ _ => trivial)); (case aO => exact (by (with_reducible repeat (first | apply Kd.R_alloc | apply Kd.R_drewN | apply Kd.R_drew)); exact HO_8.out)); (case aS => exact (below_size (by repeat (first | (with_reducible first | exact HB.out | apply below_alloc | apply pw_below_drewN | apply below_drew1 | refine below_set ?_ GE370.out | refine below_set ?_ GE380.out | refine below_set ?_ GE387.out) | exact HB.out)))); (case aL => have := LMc90.out; omega); intro v394 w94 ho hb hg hat; rw [← Ny393.out] at ho; have n0_ := Aside0.mk (Kd.R_over' (by (with_reducible repeat (first | apply Kd.R_alloc | apply Kd.R_drewN | apply Kd.R_drew)); exact HO_381000.out) (Kd.R_typed (by (with_reducible repeat (first | apply Kd.R_alloc | apply Kd.R_drewN | apply Kd.R_drew)); exact HO_8.out)) (by decide) hg); have n1_ := Aside0.mk (Kd.R_over' (by (with_reducible repeat (first | apply Kd.R_alloc | apply Kd.R_drewN | apply Kd.R_drew)); exact HO_381001.out) (Kd.R_typed (by (with_reducible repeat (first | apply Kd.R_alloc | apply Kd.R_drewN | apply Kd.R_drew)); exact HO_8.out)) (by decide) hg); have n2_ := Aside0.mk (Kd.R_over' (by (with_reducible repeat (first | apply Kd.R_alloc | apply Kd.R_drewN | apply Kd.R_drew)); exact HO_388000.out) (Kd.R_typed (by (with_reducible repeat (first | apply Kd.R_alloc | apply Kd.R_drewN | apply Kd.R_drew)); exact HO_8.out)) (by decide) hg); have n3_ := Aside0.mk (Kd.R_over' (by (with_reducible repeat (first | apply Kd.R_alloc | apply Kd.R_drewN | apply Kd.R_drew)); exact HO_388001.out) (Kd.R_typed (by (with_reducible repeat (first | apply Kd.R_alloc | apply Kd.R_drewN | apply Kd.R_drew)); exact HO_8.out)) (by decide) hg); have n4_ := Aside0.mk (blk_grown (g := gb370) (o := .cells #[.slice A0_0 l0_0.length c0_0, .slice A0_1 l0_1.length c0_1] 63 (0, 0)) (by (with_reducible repeat (first | refine blk_drewN ?_ _ | refine blk_drew ?_ | refine blk_alloc ?_ _)); exact BK370.out) hg (Kd.R_ne HO_8.out BK370.out (by decide))); have n5_ := Aside0.mk (blk_grown (g := gb380) (o := .cells #[.slice Ao28 t374.length co28, .slice Ao31 t377.length co31] 63 (0, 0)) (by (with_reducible repeat (first | refine blk_drewN ?_ _ | refine blk_drew ?_ | refine blk_alloc ?_ _)); exact BK380.out) hg (Kd.R_ne HO_8.out BK380.out (by decide))); have n6_ := Aside0.mk (blk_grown (g := gb387) (o := .cells #[.slice Ao35 t381.length co35, .slice Ao39 t384.length co39] 63 (0, 0)) (by (with_reducible repeat (first | refine blk_drewN ?_ _ | refine blk_drew ?_ | refine blk_alloc ?_ _)); exact BK387.out) hg (Kd.R_ne HO_8.out BK387.out (by decide))); have n7_ := Aside0.mk (hb); have n8_ := Aside0.mk (ho); clear HO_381000; clear HO_381001; clear HO_388000; clear HO_388001; clear BK370; clear BK380; clear BK387; clear HB; clear HO_8; have HO_381000 := n0_; have HO_381001 := n1_; have HO_388000 := n2_; have HO_388001 := n3_; have BK370 := n4_; have BK380 := n5_; have BK387 := n6_; have HB := n7_; have HO395 := n8_; clear n0_ n1_ n2_ n3_ n4_ n5_ n6_ n7_ n8_; clear ho hb hg hat))
           go_roundg k3
           case measure => have := HJ3.out; have := HJ23.out; have := HK3.out; omega
           case rel => exact ⟨(y393), (wrap64 (x9_3 + 1)), (by first | rfl | (simp; done) | (simp [*]; done)), H', ⟨by have := HJ3.out; have := HJ23.out; have := HK3.out; omega⟩, ⟨by (with_reducible repeat (first | apply Kd.R_alloc | apply Kd.R_drewN | apply Kd.R_drew)); exact HO395.out⟩, ⟨by (with_reducible repeat (first | apply Kd.R_alloc | apply Kd.R_drewN | apply Kd.R_drew)); exact HO_381000.out⟩, ⟨by (with_reducible repeat (first | apply Kd.R_alloc | apply Kd.R_drewN | apply Kd.R_drew)); exact HO_381001.out⟩, ⟨by (with_reducible repeat (first | apply Kd.R_alloc | apply Kd.R_drewN | apply Kd.R_drew)); exact HO_388000.out⟩, ⟨by (with_reducible repeat (first | apply Kd.R_alloc | apply Kd.R_drewN | apply Kd.R_drew)); exact HO_388001.out⟩, ⟨by (with_reducible repeat (first | refine blk_drewN ?_ _ | refine blk_drew ?_ | refine blk_alloc ?_ _)); exact BK370.out⟩, ⟨by (with_reducible repeat (first | refine blk_drewN ?_ _ | refine blk_drew ?_ | refine blk_alloc ?_ _)); exact BK380.out⟩, ⟨by (with_reducible repeat (first | refine blk_drewN ?_ _ | refine blk_drew ?_ | refine blk_alloc ?_ _)); exact BK387.out⟩, ⟨by repeat (first | (with_reducible first | exact HB.out | apply below_alloc | apply pw_below_drewN | apply below_drew1 | refine below_set ?_ GE370.out | refine below_set ?_ GE380.out | refine below_set ?_ GE387.out) | exact HB.out)⟩⟩
          ·rw [if_neg c90] at H
           exact absurd H (by simp)
         ·rw [if_neg c89] at H
          have c89b0 : decide (x9_3 < (l0_1.length : Int)) = false := decide_eq_false c89
          clear c89
          have H' := Aside0.mk H
          clear H
          have hnb95 := NB370_380.out
          have hnc95 := NB380_370.out
          have hnb96 := NB370_387.out
          have hnc96 := NB387_370.out
          have hcz97_0 : wr.cell? ⟨gb370, 0, none⟩ = some (.slice A0_0 l0_0.length c0_0) := (blk_cell BK370.out 0).trans rfl
          have hcz97_1 : wr.cell? ⟨gb370, 1, none⟩ = some (.slice A0_1 l0_1.length c0_1) := (blk_cell BK370.out 1).trans rfl
          have hfz97_0 := blk_frozen BK370.out 0
          have hfz97_1 := blk_frozen BK370.out 1
          go_wp2
          go_loopg [10] k3 (fun kq v10 w' => ∃ (x10_4 : Int), v10 = .int .i64 x10_4 ∧ Aside0 (L2_DiskStays.l1 kq l1 t371 x8_3 x10_4 l0_0 l0_1 t374 t377 t381 t384 = some r) ∧ Aside0 (kq ≤ k3) ∧ Aside0 (Kd.R Kd.bool 4 w' w.heap.size (fun _ => True) u8 x8_3) ∧ Aside0 (Kd.R Kd.string 9 w' w.heap.size (fun k_ => some k_ ≠ ((.slice Ao35 t381.length co35) : Value).ownBlock) (.slice Ao28 t374.length co28) t374) ∧ Aside0 (Kd.R k79 79 w' w.heap.size (fun k_ => some k_ ≠ ((.slice Ao39 t384.length co39) : Value).ownBlock) (.slice Ao31 t377.length co31) t377) ∧ Aside0 (Kd.R Kd.string 9 w' w.heap.size (fun k_ => some k_ ≠ ((.slice Ao28 t374.length co28) : Value).ownBlock) (.slice Ao35 t381.length co35) t381) ∧ Aside0 (Kd.R k79 79 w' w.heap.size (fun k_ => some k_ ≠ ((.slice Ao31 t377.length co31) : Value).ownBlock) (.slice Ao39 t384.length co39) t384) ∧ Aside0 (w'.heap[gb370]? = some (.cells #[(.slice A0_0 l0_0.length c0_0), (.slice A0_1 l0_1.length c0_1)] 63 (0, 0))) ∧ Aside0 (w'.heap[gb380]? = some (.cells #[(.slice Ao28 t374.length co28), (.slice Ao31 t377.length co31)] 63 (0, 0))) ∧ Aside0 (w'.heap[gb387]? = some (.cells #[(.slice Ao35 t381.length co35), (.slice Ao39 t384.length co39)] 63 (0, 0))) ∧ Aside0 (Below w.heap.size w w'))
          case atStart => exact ⟨(0), (by first | rfl | (simp; done) | (simp [*]; done)), H', ⟨Nat.le_refl _⟩, ⟨by (with_reducible repeat (first | apply Kd.R_alloc | apply Kd.R_drewN | apply Kd.R_drew)); exact HO_8.out⟩, ⟨by (with_reducible repeat (first | apply Kd.R_alloc | apply Kd.R_drewN | apply Kd.R_drew)); exact HO_381000.out⟩, ⟨by (with_reducible repeat (first | apply Kd.R_alloc | apply Kd.R_drewN | apply Kd.R_drew)); exact HO_381001.out⟩, ⟨by (with_reducible repeat (first | apply Kd.R_alloc | apply Kd.R_drewN | apply Kd.R_drew)); exact HO_388000.out⟩, ⟨by (with_reducible repeat (first | apply Kd.R_alloc | apply Kd.R_drewN | apply Kd.R_drew)); exact HO_388001.out⟩, ⟨by (with_reducible repeat (first | refine blk_drewN ?_ _ | refine blk_drew ?_ | refine blk_alloc ?_ _)); exact BK370.out⟩, ⟨by (with_reducible repeat (first | refine blk_drewN ?_ _ | refine blk_drew ?_ | refine blk_alloc ?_ _)); exact BK380.out⟩, ⟨by (with_reducible repeat (first | refine blk_drewN ?_ _ | refine blk_drew ?_ | refine blk_alloc ?_ _)); exact BK387.out⟩, ⟨by repeat (first | (with_reducible first | exact HB.out | apply below_alloc | apply pw_below_drewN | apply below_drew1 | refine below_set ?_ GE370.out | refine below_set ?_ GE380.out | refine below_set ?_ GE387.out) | exact HB.out)⟩⟩
          case round =>
           clear H'
           try clear c1
           try clear c2
           try clear p2
           try clear c3
           try clear c4
           try clear c5
           try clear c6
           try clear p6
           try clear c7
           try clear c8
           try clear c9
           try clear c10
           try clear c21
           try clear c29
           try clear c33
           try clear c34
           try clear c36
           try clear c37
           try clear c41
           try clear c43
           try clear c44
           try clear c44b0
           try clear c44b1
           try clear c45
           try clear c45b0
           try clear c45b1
           try clear c45b2
           try clear c46
           try clear c47
           try clear c48
           try clear c50
           try clear c56
           try clear c57
           try clear c60
           try clear p64
           try clear c66
           try clear c67
           try clear c70
           try clear c75
           try clear c76
           try clear c79
           try clear c82
           try clear c83
           try clear c86
           try clear c89
           try clear c89b0
           try clear c90
           try clear c91
           try clear c92
           try clear c95
           try clear c96
           try clear hcz11_0
           try clear hcz11_1
           try clear hcz13_0
           try clear hcz13_1
           try clear hcz15_0
           try clear hcz15_1
           try clear hcz17_0
           try clear hcz17_1
           try clear hcz19_0
           try clear hcz19_1
           try clear hcz25_0
           try clear hcz25_1
           try clear hcz30_0
           try clear hcz30_1
           try clear hcz32_0
           try clear hcz32_1
           try clear hcz38_0
           try clear hcz38_1
           try clear hcz48_0
           try clear hcz48_1
           try clear hcz51_0
           try clear hcz51_1
           try clear hcz53_0
           try clear hcz53_1
           try clear hcz54_0
           try clear hcz54_1
           try clear hcz55_0
           try clear hcz55_1
           try clear hcz58_0
           try clear hcz58_1
           try clear hcz61_0
           try clear hcz61_1
           try clear hcz63_0
           try clear hcz63_1
           try clear hcz64_0
           try clear hcz64_1
           try clear hcz65_0
           try clear hcz65_1
           try clear hcz68_0
           try clear hcz68_1
           try clear hcz71_0
           try clear hcz71_1
           try clear hcz73_0
           try clear hcz73_1
           try clear hcz74_0
           try clear hcz74_1
           try clear hcz77_0
           try clear hcz77_1
           try clear hcz80_0
           try clear hcz80_1
           try clear hcz84_0
           try clear hcz84_1
           try clear hcz93_0
           try clear hcz93_1
           try clear hcz97_0
           try clear hcz97_1
           try clear hfz11_0
           try clear hfz11_1
           try clear hfz13_0
           try clear hfz13_1
           try clear hfz15_0
           try clear hfz15_1
           try clear hfz17_0
           try clear hfz17_1
           try clear hfz19_0
           try clear hfz19_1
           try clear hfz25_0
           try clear hfz25_1
           try clear hfz30_0
           try clear hfz30_1
           try clear hfz32_0
           try clear hfz32_1
           try clear hfz38_0
           try clear hfz38_1
           try clear hfz48_0
           try clear hfz48_1
           try clear hfz51_0
           try clear hfz51_1
           try clear hfz53_0
           try clear hfz53_1
           try clear hfz54_0
           try clear hfz54_1
           try clear hfz55_0
           try clear hfz55_1
           try clear hfz58_0
           try clear hfz58_1
           try clear hfz61_0
           try clear hfz61_1
           try clear hfz63_0
           try clear hfz63_1
           try clear hfz64_0
           try clear hfz64_1
           try clear hfz65_0
           try clear hfz65_1
           try clear hfz68_0
           try clear hfz68_1
           try clear hfz71_0
           try clear hfz71_1
           try clear hfz73_0
           try clear hfz73_1
           try clear hfz74_0
           try clear hfz74_1
           try clear hfz77_0
           try clear hfz77_1
           try clear hfz80_0
           try clear hfz80_1
           try clear hfz84_0
           try clear hfz84_1
           try clear hfz93_0
           try clear hfz93_1
           try clear hfz97_0
           try clear hfz97_1
           try clear p2
           try clear p6
           try clear p64
           obtain ⟨x10_4, rfl, HA, HK4, HO_8, HO_381000, HO_381001, HO_388000, HO_388001, BK370, BK380, BK387, HB⟩ := hrel
           cases gk with
           | zero => exact absurd HA.out (by simp [L2_DiskStays.l1])
           | succ k4 =>
            have H := HA.out
            clear HA
            simp only [L2_DiskStays.l1] at H
            by_cases c98 : x10_4 < (l0_0.length : Int)
            ·rw [if_pos c98] at H
             have c98b0 : decide (x10_4 < (l0_0.length : Int)) = true := decide_eq_true c98
             clear c98
             by_cases c99 : 0 ≤ x10_4
             ·rw [if_pos c99] at H
              have c99b0 : decide (0 ≤ x10_4) = true := decide_eq_true c99
              clear c99
              by_cases c100 : x10_4 < (t374.length : Int)
              ·rw [if_pos c100] at H
               have c100b0 : decide (x10_4 < (t374.length : Int)) = true := decide_eq_true c100
               clear c100
               have H' := Aside0.mk H
               clear H
               have hnb101 := NB370_380.out
               have hnc101 := NB380_370.out
               have hnb102 := NB370_387.out
               have hnc102 := NB387_370.out
               have hcz103_0 : wr.cell? ⟨gb370, 0, none⟩ = some (.slice A0_0 l0_0.length c0_0) := (blk_cell BK370.out 0).trans rfl
               have hcz103_1 : wr.cell? ⟨gb370, 1, none⟩ = some (.slice A0_1 l0_1.length c0_1) := (blk_cell BK370.out 1).trans rfl
               have hfz103_0 := blk_frozen BK370.out 0
               have hfz103_1 := blk_frozen BK370.out 1
               try go_wp2
               have n0_ := Aside0.mk (Kd.R_drew HO_8.out)
               have n1_ := Aside0.mk (Kd.R_drew HO_381000.out)
               have n2_ := Aside0.mk (Kd.R_drew HO_381001.out)
               have n3_ := Aside0.mk (Kd.R_drew HO_388000.out)
               have n4_ := Aside0.mk (Kd.R_drew HO_388001.out)
               have n5_ := Aside0.mk (blk_drew BK370.out)
               have n6_ := Aside0.mk (blk_drew BK380.out)
               have n7_ := Aside0.mk (blk_drew BK387.out)
               have n8_ := Aside0.mk (below_drew1 HB.out)
               clear HO_8
               clear HO_381000
               clear HO_381001
               clear HO_388000
               clear HO_388001
               clear BK370
               clear BK380
               clear BK387
               clear HB
               have HO_8 := n0_
               have HO_381000 := n1_
               have HO_381001 := n2_
               have HO_388000 := n3_
               have HO_388001 := n4_
               have BK370 := n5_
               have BK380 := n6_
               have BK387 := n7_
               have HB := n8_
               clear n0_ n1_ n2_ n3_ n4_ n5_ n6_ n7_ n8_
               have p396 : 0 ≤ (x10_4 : Int) := of_decide_eq_true (by first | (with_reducible assumption) | assumption)
               have q396 : x10_4 < (t374.length : Int) := of_decide_eq_true (by first | (with_reducible assumption) | assumption)
               obtain ⟨ad396, e396, hx396_0⟩ := Kd.at_string (Kd.R_reads' HO_381000.out).2.2 x10_4 p396 q396
               cases e396
               replace p396 := eq_true p396
               replace q396 := eq_true q396
               have p397 : 0 ≤ (x10_4 : Int) := of_decide_eq_true (by first | (with_reducible assumption) | assumption)
               have q397 : x10_4 < (l0_0.length : Int) := of_decide_eq_true (by first | (with_reducible assumption) | assumption)
               obtain ⟨ad397, e397, hx397_0⟩ := Kd.at_string HR0_0.out x10_4 p397 q397
               have hw397_0 := hx397_0
               cases e397
               replace hx397_0 := (HB.out.cell (World.block_lt_of_cell? w _ hx397_0)).trans hx397_0
               replace p397 := eq_true p397
               replace q397 := eq_true q397
               refine start_ (n := 12) (S := fun w' => w'.cell? ⟨gb380, 0, none⟩ = some (.slice (some ad396) t374.length co28) ∧ w'.cell? ⟨gb380, 1, none⟩ = some (.slice Ao31 t377.length co31) ∧ w'.cell? ⟨gb370, 0, none⟩ = some (.slice (some ad397) l0_0.length c0_0) ∧ w'.cell? ⟨gb370, 1, none⟩ = some (.slice A0_1 l0_1.length c0_1) ∧ w'.cell? (ad396.add (x10_4).toNat) = some (.string (rdOf ByteArray.empty t374 x10_4)) ∧ w'.cell? (ad397.add (x10_4).toNat) = some (.string (rdOf ByteArray.empty l0_0 x10_4))) (ds := []) #[false, false, false, false, false, false, false, false, false, false, false, false] (by kernel_rfl) rfl rfl ⟨(blk_cell BK380.out 0).trans rfl, (blk_cell BK380.out 1).trans rfl, (blk_cell BK370.out 0).trans rfl, (blk_cell BK370.out 1).trans rfl, hx396_0, ((HB.out.cell (World.block_lt_of_cell? w _ hw397_0)).trans hw397_0)⟩ (fun hHeld => ?_); refine with_tabW L2_DiskStays.tab16 L2_DiskStays.bits16 (fun HT_ HW_ => ?_)
               generalize wr.drew = w104 at HO_8 HO_381000 HO_381001 HO_388000 HO_388001 BK370 BK380 BK387 HB hx396_0 hx397_0 hHeld ⊢
               refine pure_ (i := 0) (N := some 89) (v := ?_) (a' := ?_) #[true, false, false, false, false, false, false, false, false, false, false, false] rfl rfl (any_of HT_.out (by kernel_rfl)) (fun _ _ _ h => h) (Or.inl ⟨by rfl, ?_⟩) ?_ ?_
               rotate_left
               ·intro w'
                go_simp
                with_reducible rfl
               rotate_left
               ·simp only [Act.put, List.setIfInBounds_toArray, List.set_cons_zero, List.set_cons_succ, i64_w, i32_w]
                rfl
               refine pure_ (i := 2) (N := some 91) (v := ?_) (a' := ?_) #[true, false, true, false, false, false, false, false, false, false, false, false] rfl rfl (any_of HT_.out (by kernel_rfl)) (fun _ _ _ h => h) (Or.inl ⟨by rfl, ?_⟩) ?_ ?_
               rotate_left
               ·intro w'
                go_simp
                with_reducible rfl
               rotate_left
               ·simp only [Act.put, List.setIfInBounds_toArray, List.set_cons_zero, List.set_cons_succ, i64_w, i32_w]
                rfl
               refine pure_ (i := 5) (N := some 94) (v := ?_) (a' := ?_) #[true, false, true, false, false, true, false, false, false, false, false, false] rfl rfl (any_of HT_.out (by kernel_rfl)) (fun _ _ _ h => h) (Or.inl ⟨by rfl, ?_⟩) ?_ ?_
               rotate_left
               ·intro w'
                go_simp
                with_reducible rfl
               rotate_left
               ·simp only [Act.put, List.setIfInBounds_toArray, List.set_cons_zero, List.set_cons_succ, i64_w, i32_w]
                rfl
               refine pure_ (i := 7) (N := some 96) (v := ?_) (a' := ?_) #[true, false, true, false, false, true, false, true, false, false, false, false] rfl rfl (any_of HT_.out (by kernel_rfl)) (fun _ _ _ h => h) (Or.inl ⟨by rfl, ?_⟩) ?_ ?_
               rotate_left
               ·intro w'
                go_simp
                with_reducible rfl
               rotate_left
               ·simp only [Act.put, List.setIfInBounds_toArray, List.set_cons_zero, List.set_cons_succ, i64_w, i32_w]
                rfl
               refine take_ (i := 1) (N := some 90) (v := ?_) (a' := ?_) #[true, true, true, false, false, true, false, true, false, false, false, false] rfl rfl (take_ofW HT_.out HW_.out (by kernel_rfl)) (fun _ _ _ h => h) (Or.inl ⟨by rfl, ?_⟩) hHeld ?_ ?_
               rotate_left
               ·rintro w' ⟨s0, s1, s2, s3, s4, s5⟩
                go_simp
                with_reducible rfl
               rotate_left
               ·simp only [Act.put, List.setIfInBounds_toArray, List.set_cons_zero, List.set_cons_succ, i64_w, i32_w]
                rfl
               refine pure_ (i := 3) (N := some 92) (v := ?_) (a' := ?_) #[true, true, true, true, false, true, false, true, false, false, false, false] rfl rfl (any_of HT_.out (by kernel_rfl)) (fun _ _ _ h => h) (Or.inl ⟨by rfl, ?_⟩) ?_ ?_
               rotate_left
               ·intro w'
                go_simp
                with_reducible rfl
               rotate_left
               ·simp only [Act.put, List.setIfInBounds_toArray, List.set_cons_zero, List.set_cons_succ, i64_w, i32_w]
                rfl
               refine take_ (i := 4) (N := some 93) (v := ?_) (a' := ?_) #[true, true, true, true, true, true, false, true, false, false, false, false] rfl rfl (take_ofW HT_.out HW_.out (by kernel_rfl)) (fun _ _ _ h => h) (Or.inl ⟨by rfl, ?_⟩) hHeld ?_ ?_
               rotate_left
               ·rintro w' ⟨s0, s1, s2, s3, s4, s5⟩
                go_simp
                with_reducible rfl
               rotate_left
               ·simp only [Act.put, List.setIfInBounds_toArray, List.set_cons_zero, List.set_cons_succ, i64_w, i32_w]
                rfl
               refine take_ (i := 6) (N := some 95) (v := ?_) (a' := ?_) #[true, true, true, true, true, true, true, true, false, false, false, false] rfl rfl (take_ofW HT_.out HW_.out (by kernel_rfl)) (fun _ _ _ h => h) (Or.inl ⟨by rfl, ?_⟩) hHeld ?_ ?_
               rotate_left
               ·rintro w' ⟨s0, s1, s2, s3, s4, s5⟩
                go_simp
                with_reducible rfl
               rotate_left
               ·simp only [Act.put, List.setIfInBounds_toArray, List.set_cons_zero, List.set_cons_succ, i64_w, i32_w]
                rfl
               refine pure_ (i := 8) (N := some 97) (v := ?_) (a' := ?_) #[true, true, true, true, true, true, true, true, true, false, false, false] rfl rfl (any_of HT_.out (by kernel_rfl)) (fun _ _ _ h => h) (Or.inl ⟨by rfl, ?_⟩) ?_ ?_
               rotate_left
               ·intro w'
                go_simp
                with_reducible rfl
               rotate_left
               ·simp only [Act.put, List.setIfInBounds_toArray, List.set_cons_zero, List.set_cons_succ, i64_w, i32_w]
                rfl
               refine take_ (i := 9) (N := some 98) (v := ?_) (a' := ?_) #[true, true, true, true, true, true, true, true, true, true, false, false] rfl rfl (take_ofW HT_.out HW_.out (by kernel_rfl)) (fun _ _ _ h => h) (Or.inl ⟨by rfl, ?_⟩) hHeld ?_ ?_
               rotate_left
               ·rintro w' ⟨s0, s1, s2, s3, s4, s5⟩
                go_simp
                with_reducible rfl
               rotate_left
               ·simp only [Act.put, List.setIfInBounds_toArray, List.set_cons_zero, List.set_cons_succ, i64_w, i32_w]
                rfl
               refine pure_ (i := 10) (N := some 99) (v := ?_) (a' := ?_) #[true, true, true, true, true, true, true, true, true, true, true, false] rfl rfl (any_of HT_.out (by kernel_rfl)) (fun _ _ _ h => h) (Or.inl ⟨by rfl, ?_⟩) ?_ ?_
               rotate_left
               ·intro w'
                go_simp
                with_reducible rfl
               rotate_left
               ·simp only [Act.put, List.setIfInBounds_toArray, List.set_cons_zero, List.set_cons_succ, i64_w, i32_w]
                rfl
               refine pure_ (i := 11) (N := some 11) (v := ?_) (a' := ?_) #[true, true, true, true, true, true, true, true, true, true, true, true] rfl rfl (any_of HT_.out (by kernel_rfl)) (fun _ _ _ h => h) (Or.inl ⟨by rfl, ?_⟩) ?_ ?_
               rotate_left
               ·intro w'
                go_simp
                with_reducible rfl
               rotate_left
               ·simp only [Act.put, List.setIfInBounds_toArray, List.set_cons_zero, List.set_cons_succ, i64_w, i32_w]
                rfl
               refine done_ (done_of HT_.out (by kernel_rfl)) ?_
               try go_wp2
               go_loopg [11, 12] k4 (fun kq v11 v12 w' => ∃ (x11_5 : Bool) (x12_5 : Int), v11 = .bool x11_5 ∧ v12 = .int .i64 x12_5 ∧ Aside0 (L2_DiskStays.l2 kq l1 t371 x8_3 x10_4 x11_5 x12_5 l0_0 l0_1 t374 t377 t381 t384 = some r) ∧ Aside0 (kq ≤ k4) ∧ Aside0 (Kd.R Kd.bool 4 w' w.heap.size (fun _ => True) u8 x8_3) ∧ Aside0 (Kd.R Kd.string 9 w' w.heap.size (fun k_ => some k_ ≠ ((.slice Ao35 t381.length co35) : Value).ownBlock) (.slice (some ad396) t374.length co28) t374) ∧ Aside0 (Kd.R k79 79 w' w.heap.size (fun k_ => some k_ ≠ ((.slice Ao39 t384.length co39) : Value).ownBlock) (.slice Ao31 t377.length co31) t377) ∧ Aside0 (Kd.R Kd.string 9 w' w.heap.size (fun k_ => some k_ ≠ ((.slice (some ad396) t374.length co28) : Value).ownBlock) (.slice Ao35 t381.length co35) t381) ∧ Aside0 (Kd.R k79 79 w' w.heap.size (fun k_ => some k_ ≠ ((.slice Ao31 t377.length co31) : Value).ownBlock) (.slice Ao39 t384.length co39) t384) ∧ Aside0 (w'.heap[gb370]? = some (.cells #[(.slice (some ad397) l0_0.length c0_0), (.slice A0_1 l0_1.length c0_1)] 63 (0, 0))) ∧ Aside0 (w'.heap[gb380]? = some (.cells #[(.slice (some ad396) t374.length co28), (.slice Ao31 t377.length co31)] 63 (0, 0))) ∧ Aside0 (w'.heap[gb387]? = some (.cells #[(.slice Ao35 t381.length co35), (.slice Ao39 t384.length co39)] 63 (0, 0))) ∧ Aside0 (Below w.heap.size w w'))
               case atStart => exact ⟨(((rdOf ByteArray.empty t374 x10_4).toList == (rdOf ByteArray.empty l0_0 x10_4).toList)), (0), (by first | rfl | (simp; done) | (simp [*]; done)), (by first | rfl | (simp; done) | (simp [*]; done)), H', ⟨Nat.le_refl _⟩, ⟨by (with_reducible repeat (first | apply Kd.R_alloc | apply Kd.R_drewN | apply Kd.R_drew)); exact HO_8.out⟩, ⟨by (with_reducible repeat (first | apply Kd.R_alloc | apply Kd.R_drewN | apply Kd.R_drew)); exact HO_381000.out⟩, ⟨by (with_reducible repeat (first | apply Kd.R_alloc | apply Kd.R_drewN | apply Kd.R_drew)); exact HO_381001.out⟩, ⟨by (with_reducible repeat (first | apply Kd.R_alloc | apply Kd.R_drewN | apply Kd.R_drew)); exact HO_388000.out⟩, ⟨by (with_reducible repeat (first | apply Kd.R_alloc | apply Kd.R_drewN | apply Kd.R_drew)); exact HO_388001.out⟩, ⟨by (with_reducible repeat (first | refine blk_drewN ?_ _ | refine blk_drew ?_ | refine blk_alloc ?_ _)); exact BK370.out⟩, ⟨by (with_reducible repeat (first | refine blk_drewN ?_ _ | refine blk_drew ?_ | refine blk_alloc ?_ _)); exact BK380.out⟩, ⟨by (with_reducible repeat (first | refine blk_drewN ?_ _ | refine blk_drew ?_ | refine blk_alloc ?_ _)); exact BK387.out⟩, ⟨by repeat (first | (with_reducible first | exact HB.out | apply below_alloc | apply pw_below_drewN | apply below_drew1 | refine below_set ?_ GE370.out | refine below_set ?_ GE380.out | refine below_set ?_ GE387.out) | exact HB.out)⟩⟩
               case round =>
                clear H'
                try clear c1
                try clear c2
                try clear p2
                try clear c3
                try clear p3
                try clear q3
                try clear hx3
                try clear c4
                try clear c5
                try clear c6
                try clear p6
                try clear c7
                try clear c8
                try clear c9
                try clear c10
                try clear c21
                try clear c29
                try clear c33
                try clear c34
                try clear c36
                try clear c37
                try clear p39
                try clear q39
                try clear hx39
                try clear c41
                try clear c43
                try clear c44
                try clear c44b0
                try clear c44b1
                try clear c45
                try clear c45b0
                try clear c45b1
                try clear c45b2
                try clear c46
                try clear c47
                try clear c48
                try clear c50
                try clear c56
                try clear c57
                try clear c60
                try clear p64
                try clear c66
                try clear c67
                try clear c70
                try clear c75
                try clear c76
                try clear c79
                try clear c82
                try clear c83
                try clear c86
                try clear c89
                try clear c89b0
                try clear c90
                try clear c91
                try clear c92
                try clear c95
                try clear c96
                try clear c98
                try clear c98b0
                try clear c99
                try clear c99b0
                try clear c100
                try clear c100b0
                try clear c101
                try clear c102
                try clear hcz103_0
                try clear hcz103_1
                try clear hcz11_0
                try clear hcz11_1
                try clear hcz13_0
                try clear hcz13_1
                try clear hcz15_0
                try clear hcz15_1
                try clear hcz17_0
                try clear hcz17_1
                try clear hcz19_0
                try clear hcz19_1
                try clear hcz25_0
                try clear hcz25_1
                try clear hcz30_0
                try clear hcz30_1
                try clear hcz32_0
                try clear hcz32_1
                try clear hcz38_0
                try clear hcz38_1
                try clear hcz48_0
                try clear hcz48_1
                try clear hcz51_0
                try clear hcz51_1
                try clear hcz53_0
                try clear hcz53_1
                try clear hcz54_0
                try clear hcz54_1
                try clear hcz55_0
                try clear hcz55_1
                try clear hcz58_0
                try clear hcz58_1
                try clear hcz61_0
                try clear hcz61_1
                try clear hcz63_0
                try clear hcz63_1
                try clear hcz64_0
                try clear hcz64_1
                try clear hcz65_0
                try clear hcz65_1
                try clear hcz68_0
                try clear hcz68_1
                try clear hcz71_0
                try clear hcz71_1
                try clear hcz73_0
                try clear hcz73_1
                try clear hcz74_0
                try clear hcz74_1
                try clear hcz77_0
                try clear hcz77_1
                try clear hcz80_0
                try clear hcz80_1
                try clear hcz84_0
                try clear hcz84_1
                try clear hcz93_0
                try clear hcz93_1
                try clear hcz97_0
                try clear hcz97_1
                try clear hfz103_0
                try clear hfz103_1
                try clear hfz11_0
                try clear hfz11_1
                try clear hfz13_0
                try clear hfz13_1
                try clear hfz15_0
                try clear hfz15_1
                try clear hfz17_0
                try clear hfz17_1
                try clear hfz19_0
                try clear hfz19_1
                try clear hfz25_0
                try clear hfz25_1
                try clear hfz30_0
                try clear hfz30_1
                try clear hfz32_0
                try clear hfz32_1
                try clear hfz38_0
                try clear hfz38_1
                try clear hfz48_0
                try clear hfz48_1
                try clear hfz51_0
                try clear hfz51_1
                try clear hfz53_0
                try clear hfz53_1
                try clear hfz54_0
                try clear hfz54_1
                try clear hfz55_0
                try clear hfz55_1
                try clear hfz58_0
                try clear hfz58_1
                try clear hfz61_0
                try clear hfz61_1
                try clear hfz63_0
                try clear hfz63_1
                try clear hfz64_0
                try clear hfz64_1
                try clear hfz65_0
                try clear hfz65_1
                try clear hfz68_0
                try clear hfz68_1
                try clear hfz71_0
                try clear hfz71_1
                try clear hfz73_0
                try clear hfz73_1
                try clear hfz74_0
                try clear hfz74_1
                try clear hfz77_0
                try clear hfz77_1
                try clear hfz80_0
                try clear hfz80_1
                try clear hfz84_0
                try clear hfz84_1
                try clear hfz93_0
                try clear hfz93_1
                try clear hfz97_0
                try clear hfz97_1
                try clear hx396_0
                try clear hx397_0
                try clear p2
                try clear p396
                try clear p397
                try clear p6
                try clear p64
                try clear q396
                try clear q397
                obtain ⟨x11_5, x12_5, rfl, rfl, HA, HK5, HO_8, HO_381000, HO_381001, HO_388000, HO_388001, BK370, BK380, BK387, HB⟩ := hrel
                cases gk with
                | zero => exact absurd HA.out (by simp [L2_DiskStays.l2])
                | succ k5 =>
                 have H := HA.out
                 clear HA
                 simp only [L2_DiskStays.l2] at H
                 by_cases c105 : x12_5 < (l0_1.length : Int)
                 ·rw [if_pos c105] at H
                  have c105b0 : decide (x12_5 < (l0_1.length : Int)) = true := decide_eq_true c105
                  clear c105
                  by_cases c106 : x11_5 = true
                  ·subst c106
                   have H1 : (L2_DiskStays.l2 k5 l1 t371 x8_3 x10_4 true (wrap64 (x12_5 + 1)) l0_0 l0_1 t374 t377 t381 t384) = some r := by rw [if_pos rfl] at H; exact H
                   clear H
                   have H := H1
                   clear H1
                   have H' := Aside0.mk H
                   clear H
                   have hnb107 := NB370_380.out
                   have hnc107 := NB380_370.out
                   have hnb108 := NB370_387.out
                   have hnc108 := NB387_370.out
                   have hcz109_0 : wr.cell? ⟨gb370, 0, none⟩ = some (.slice (some ad397) l0_0.length c0_0) := (blk_cell BK370.out 0).trans rfl
                   have hcz109_1 : wr.cell? ⟨gb370, 1, none⟩ = some (.slice A0_1 l0_1.length c0_1) := (blk_cell BK370.out 1).trans rfl
                   have hfz109_0 := blk_frozen BK370.out 0
                   have hfz109_1 := blk_frozen BK370.out 1
                   try go_wp2
                   have n0_ := Aside0.mk (Kd.R_drew HO_8.out)
                   have n1_ := Aside0.mk (Kd.R_drew HO_381000.out)
                   have n2_ := Aside0.mk (Kd.R_drew HO_381001.out)
                   have n3_ := Aside0.mk (Kd.R_drew HO_388000.out)
                   have n4_ := Aside0.mk (Kd.R_drew HO_388001.out)
                   have n5_ := Aside0.mk (blk_drew BK370.out)
                   have n6_ := Aside0.mk (blk_drew BK380.out)
                   have n7_ := Aside0.mk (blk_drew BK387.out)
                   have n8_ := Aside0.mk (below_drew1 HB.out)
                   clear HO_8
                   clear HO_381000
                   clear HO_381001
                   clear HO_388000
                   clear HO_388001
                   clear BK370
                   clear BK380
                   clear BK387
                   clear HB
                   have HO_8 := n0_
                   have HO_381000 := n1_
                   have HO_381001 := n2_
                   have HO_388000 := n3_
                   have HO_388001 := n4_
                   have BK370 := n5_
                   have BK380 := n6_
                   have BK387 := n7_
                   have HB := n8_
                   clear n0_ n1_ n2_ n3_ n4_ n5_ n6_ n7_ n8_
                   refine start_ (n := 26) (S := fun w' => True) (ds := []) #[false, false, false, false, false, false, false, false, false, false, false, false, false, false, false, false, false, false, false, false, false, false, false, false, false, false] (by kernel_rfl) rfl rfl trivial (fun hHeld => ?_); refine with_tabW L2_DiskStays.tab20 L2_DiskStays.bits20 (fun HT_ HW_ => ?_)
                   generalize wr.drew = w110 at HO_8 HO_381000 HO_381001 HO_388000 HO_388001 BK370 BK380 BK387 HB hHeld ⊢
                   refine pure_ (i := 0) (N := some 107) (v := ?_) (a' := ?_) #[true, false, false, false, false, false, false, false, false, false, false, false, false, false, false, false, false, false, false, false, false, false, false, false, false, false] rfl rfl (any_of HT_.out (by kernel_rfl)) (fun _ _ _ h => h) (Or.inl ⟨by rfl, ?_⟩) ?_ ?_
                   rotate_left
                   ·intro w'
                    go_simp
                    with_reducible rfl
                   rotate_left
                   ·simp only [Act.put, List.setIfInBounds_toArray, List.set_cons_zero, List.set_cons_succ, i64_w, i32_w]
                    rfl
                   refine pure_ (i := 1) (N := some 108) (v := ?_) (a' := ?_) #[true, true, false, false, false, false, false, false, false, false, false, false, false, false, false, false, false, false, false, false, false, false, false, false, false, false] rfl rfl (any_of HT_.out (by kernel_rfl)) (fun _ _ _ h => h) (Or.inl ⟨by rfl, ?_⟩) ?_ ?_
                   rotate_left
                   ·intro w'
                    go_simp
                    with_reducible rfl
                   rotate_left
                   ·simp only [Act.put, List.setIfInBounds_toArray, List.set_cons_zero, List.set_cons_succ, i64_w, i32_w]
                    rfl
                   refine pure_ (i := 2) (N := some 109) (v := undef) (a' := ?_) #[true, true, true, false, false, false, false, false, false, false, false, false, false, false, false, false, false, false, false, false, false, false, false, false, false, false] rfl rfl (any_of HT_.out (by kernel_rfl)) (fun _ _ _ h => h) (Or.inr ⟨by rfl, rfl⟩) ?_ ?_
                   rotate_left
                   ·simp only [Act.put, List.setIfInBounds_toArray, List.set_cons_zero, List.set_cons_succ, i64_w, i32_w]
                    rfl
                   refine pure_ (i := 3) (N := some 110) (v := undef) (a' := ?_) #[true, true, true, true, false, false, false, false, false, false, false, false, false, false, false, false, false, false, false, false, false, false, false, false, false, false] rfl rfl (any_of HT_.out (by kernel_rfl)) (fun _ _ _ h => h) (Or.inr ⟨by rfl, rfl⟩) ?_ ?_
                   rotate_left
                   ·simp only [Act.put, List.setIfInBounds_toArray, List.set_cons_zero, List.set_cons_succ, i64_w, i32_w]
                    rfl
                   refine pure_ (i := 4) (N := some 111) (v := undef) (a' := ?_) #[true, true, true, true, true, false, false, false, false, false, false, false, false, false, false, false, false, false, false, false, false, false, false, false, false, false] rfl rfl (any_of HT_.out (by kernel_rfl)) (fun _ _ _ h => h) (Or.inr ⟨by rfl, rfl⟩) ?_ ?_
                   rotate_left
                   ·simp only [Act.put, List.setIfInBounds_toArray, List.set_cons_zero, List.set_cons_succ, i64_w, i32_w]
                    rfl
                   refine pure_ (i := 5) (N := some 112) (v := undef) (a' := ?_) #[true, true, true, true, true, true, false, false, false, false, false, false, false, false, false, false, false, false, false, false, false, false, false, false, false, false] rfl rfl (any_of HT_.out (by kernel_rfl)) (fun _ _ _ h => h) (Or.inr ⟨by rfl, rfl⟩) ?_ ?_
                   rotate_left
                   ·simp only [Act.put, List.setIfInBounds_toArray, List.set_cons_zero, List.set_cons_succ, i64_w, i32_w]
                    rfl
                   refine pure_ (i := 6) (N := some 113) (v := undef) (a' := ?_) #[true, true, true, true, true, true, true, false, false, false, false, false, false, false, false, false, false, false, false, false, false, false, false, false, false, false] rfl rfl (any_of HT_.out (by kernel_rfl)) (fun _ _ _ h => h) (Or.inr ⟨by rfl, rfl⟩) ?_ ?_
                   rotate_left
                   ·simp only [Act.put, List.setIfInBounds_toArray, List.set_cons_zero, List.set_cons_succ, i64_w, i32_w]
                    rfl
                   refine pure_ (i := 7) (N := some 114) (v := undef) (a' := ?_) #[true, true, true, true, true, true, true, true, false, false, false, false, false, false, false, false, false, false, false, false, false, false, false, false, false, false] rfl rfl (any_of HT_.out (by kernel_rfl)) (fun _ _ _ h => h) (Or.inr ⟨by rfl, rfl⟩) ?_ ?_
                   rotate_left
                   ·simp only [Act.put, List.setIfInBounds_toArray, List.set_cons_zero, List.set_cons_succ, i64_w, i32_w]
                    rfl
                   refine pure_ (i := 8) (N := some 115) (v := undef) (a' := ?_) #[true, true, true, true, true, true, true, true, true, false, false, false, false, false, false, false, false, false, false, false, false, false, false, false, false, false] rfl rfl (any_of HT_.out (by kernel_rfl)) (fun _ _ _ h => h) (Or.inr ⟨by rfl, rfl⟩) ?_ ?_
                   rotate_left
                   ·simp only [Act.put, List.setIfInBounds_toArray, List.set_cons_zero, List.set_cons_succ, i64_w, i32_w]
                    rfl
                   refine pure_ (i := 9) (N := some 116) (v := undef) (a' := ?_) #[true, true, true, true, true, true, true, true, true, true, false, false, false, false, false, false, false, false, false, false, false, false, false, false, false, false] rfl rfl (any_of HT_.out (by kernel_rfl)) (fun _ _ _ h => h) (Or.inr ⟨by rfl, rfl⟩) ?_ ?_
                   rotate_left
                   ·simp only [Act.put, List.setIfInBounds_toArray, List.set_cons_zero, List.set_cons_succ, i64_w, i32_w]
                    rfl
                   refine pure_ (i := 10) (N := some 117) (v := undef) (a' := ?_) #[true, true, true, true, true, true, true, true, true, true, true, false, false, false, false, false, false, false, false, false, false, false, false, false, false, false] rfl rfl (any_of HT_.out (by kernel_rfl)) (fun _ _ _ h => h) (Or.inr ⟨by rfl, rfl⟩) ?_ ?_
                   rotate_left
                   ·simp only [Act.put, List.setIfInBounds_toArray, List.set_cons_zero, List.set_cons_succ, i64_w, i32_w]
                    rfl
                   refine pure_ (i := 11) (N := some 118) (v := undef) (a' := ?_) #[true, true, true, true, true, true, true, true, true, true, true, true, false, false, false, false, false, false, false, false, false, false, false, false, false, false] rfl rfl (any_of HT_.out (by kernel_rfl)) (fun _ _ _ h => h) (Or.inr ⟨by rfl, rfl⟩) ?_ ?_
                   rotate_left
                   ·simp only [Act.put, List.setIfInBounds_toArray, List.set_cons_zero, List.set_cons_succ, i64_w, i32_w]
                    rfl
                   refine pure_ (i := 12) (N := some 119) (v := undef) (a' := ?_) #[true, true, true, true, true, true, true, true, true, true, true, true, true, false, false, false, false, false, false, false, false, false, false, false, false, false] rfl rfl (any_of HT_.out (by kernel_rfl)) (fun _ _ _ h => h) (Or.inr ⟨by rfl, rfl⟩) ?_ ?_
                   rotate_left
                   ·simp only [Act.put, List.setIfInBounds_toArray, List.set_cons_zero, List.set_cons_succ, i64_w, i32_w]
                    rfl
                   refine pure_ (i := 13) (N := some 120) (v := undef) (a' := ?_) #[true, true, true, true, true, true, true, true, true, true, true, true, true, true, false, false, false, false, false, false, false, false, false, false, false, false] rfl rfl (any_of HT_.out (by kernel_rfl)) (fun _ _ _ h => h) (Or.inr ⟨by rfl, rfl⟩) ?_ ?_
                   rotate_left
                   ·simp only [Act.put, List.setIfInBounds_toArray, List.set_cons_zero, List.set_cons_succ, i64_w, i32_w]
                    rfl
                   refine pure_ (i := 14) (N := some 121) (v := undef) (a' := ?_) #[true, true, true, true, true, true, true, true, true, true, true, true, true, true, true, false, false, false, false, false, false, false, false, false, false, false] rfl rfl (any_of HT_.out (by kernel_rfl)) (fun _ _ _ h => h) (Or.inr ⟨by rfl, rfl⟩) ?_ ?_
                   rotate_left
                   ·simp only [Act.put, List.setIfInBounds_toArray, List.set_cons_zero, List.set_cons_succ, i64_w, i32_w]
                    rfl
                   refine pure_ (i := 15) (N := some 122) (v := undef) (a' := ?_) #[true, true, true, true, true, true, true, true, true, true, true, true, true, true, true, true, false, false, false, false, false, false, false, false, false, false] rfl rfl (any_of HT_.out (by kernel_rfl)) (fun _ _ _ h => h) (Or.inr ⟨by rfl, rfl⟩) ?_ ?_
                   rotate_left
                   ·simp only [Act.put, List.setIfInBounds_toArray, List.set_cons_zero, List.set_cons_succ, i64_w, i32_w]
                    rfl
                   refine pure_ (i := 16) (N := some 123) (v := undef) (a' := ?_) #[true, true, true, true, true, true, true, true, true, true, true, true, true, true, true, true, true, false, false, false, false, false, false, false, false, false] rfl rfl (any_of HT_.out (by kernel_rfl)) (fun _ _ _ h => h) (Or.inr ⟨by rfl, rfl⟩) ?_ ?_
                   rotate_left
                   ·simp only [Act.put, List.setIfInBounds_toArray, List.set_cons_zero, List.set_cons_succ, i64_w, i32_w]
                    rfl
                   refine pure_ (i := 17) (N := some 124) (v := undef) (a' := ?_) #[true, true, true, true, true, true, true, true, true, true, true, true, true, true, true, true, true, true, false, false, false, false, false, false, false, false] rfl rfl (any_of HT_.out (by kernel_rfl)) (fun _ _ _ h => h) (Or.inr ⟨by rfl, rfl⟩) ?_ ?_
                   rotate_left
                   ·simp only [Act.put, List.setIfInBounds_toArray, List.set_cons_zero, List.set_cons_succ, i64_w, i32_w]
                    rfl
                   refine pure_ (i := 18) (N := some 125) (v := undef) (a' := ?_) #[true, true, true, true, true, true, true, true, true, true, true, true, true, true, true, true, true, true, true, false, false, false, false, false, false, false] rfl rfl (any_of HT_.out (by kernel_rfl)) (fun _ _ _ h => h) (Or.inr ⟨by rfl, rfl⟩) ?_ ?_
                   rotate_left
                   ·simp only [Act.put, List.setIfInBounds_toArray, List.set_cons_zero, List.set_cons_succ, i64_w, i32_w]
                    rfl
                   refine pure_ (i := 19) (N := some 126) (v := undef) (a' := ?_) #[true, true, true, true, true, true, true, true, true, true, true, true, true, true, true, true, true, true, true, true, false, false, false, false, false, false] rfl rfl (any_of HT_.out (by kernel_rfl)) (fun _ _ _ h => h) (Or.inr ⟨by rfl, rfl⟩) ?_ ?_
                   rotate_left
                   ·simp only [Act.put, List.setIfInBounds_toArray, List.set_cons_zero, List.set_cons_succ, i64_w, i32_w]
                    rfl
                   refine pure_ (i := 20) (N := some 127) (v := undef) (a' := ?_) #[true, true, true, true, true, true, true, true, true, true, true, true, true, true, true, true, true, true, true, true, true, false, false, false, false, false] rfl rfl (any_of HT_.out (by kernel_rfl)) (fun _ _ _ h => h) (Or.inr ⟨by rfl, rfl⟩) ?_ ?_
                   rotate_left
                   ·simp only [Act.put, List.setIfInBounds_toArray, List.set_cons_zero, List.set_cons_succ, i64_w, i32_w]
                    rfl
                   refine pure_ (i := 21) (N := some 128) (v := undef) (a' := ?_) #[true, true, true, true, true, true, true, true, true, true, true, true, true, true, true, true, true, true, true, true, true, true, false, false, false, false] rfl rfl (any_of HT_.out (by kernel_rfl)) (fun _ _ _ h => h) (Or.inr ⟨by rfl, rfl⟩) ?_ ?_
                   rotate_left
                   ·simp only [Act.put, List.setIfInBounds_toArray, List.set_cons_zero, List.set_cons_succ, i64_w, i32_w]
                    rfl
                   refine pure_ (i := 22) (N := some 129) (v := undef) (a' := ?_) #[true, true, true, true, true, true, true, true, true, true, true, true, true, true, true, true, true, true, true, true, true, true, true, false, false, false] rfl rfl (any_of HT_.out (by kernel_rfl)) (fun _ _ _ h => h) (Or.inr ⟨by rfl, rfl⟩) ?_ ?_
                   rotate_left
                   ·simp only [Act.put, List.setIfInBounds_toArray, List.set_cons_zero, List.set_cons_succ, i64_w, i32_w]
                    rfl
                   refine pure_ (i := 23) (N := some 130) (v := undef) (a' := ?_) #[true, true, true, true, true, true, true, true, true, true, true, true, true, true, true, true, true, true, true, true, true, true, true, true, false, false] rfl rfl (any_of HT_.out (by kernel_rfl)) (fun _ _ _ h => h) (Or.inr ⟨by rfl, rfl⟩) ?_ ?_
                   rotate_left
                   ·simp only [Act.put, List.setIfInBounds_toArray, List.set_cons_zero, List.set_cons_succ, i64_w, i32_w]
                    rfl
                   refine pure_ (i := 24) (N := some 131) (v := ?_) (a' := ?_) #[true, true, true, true, true, true, true, true, true, true, true, true, true, true, true, true, true, true, true, true, true, true, true, true, true, false] rfl rfl (any_of HT_.out (by kernel_rfl)) (fun _ _ _ h => h) (Or.inl ⟨by rfl, ?_⟩) ?_ ?_
                   rotate_left
                   ·intro w'
                    go_simp
                    with_reducible rfl
                   rotate_left
                   ·simp only [Act.put, List.setIfInBounds_toArray, List.set_cons_zero, List.set_cons_succ, i64_w, i32_w]
                    rfl
                   refine pure_ (i := 25) (N := some 11) (v := ?_) (a' := ?_) #[true, true, true, true, true, true, true, true, true, true, true, true, true, true, true, true, true, true, true, true, true, true, true, true, true, true] rfl rfl (any_of HT_.out (by kernel_rfl)) (fun _ _ _ h => h) (Or.inl ⟨by rfl, ?_⟩) ?_ ?_
                   rotate_left
                   ·intro w'
                    go_simp
                    with_reducible rfl
                   rotate_left
                   ·simp only [Act.put, List.setIfInBounds_toArray, List.set_cons_zero, List.set_cons_succ, i64_w, i32_w]
                    rfl
                   refine done_ (done_of HT_.out (by kernel_rfl)) ?_
                   try go_wp2
                   go_roundg k5
                   case measure => have := HJ3.out; have := HJ23.out; have := HK3.out; have := HK4.out; have := HK5.out; omega
                   case rel => exact ⟨(true), (wrap64 (x12_5 + 1)), (by first | rfl | (simp; done) | (simp [*]; done)), (by first | rfl | (simp; done) | (simp [*]; done)), H', ⟨by have := HJ3.out; have := HJ23.out; have := HK3.out; have := HK4.out; have := HK5.out; omega⟩, ⟨by (with_reducible repeat (first | apply Kd.R_alloc | apply Kd.R_drewN | apply Kd.R_drew)); exact HO_8.out⟩, ⟨by (with_reducible repeat (first | apply Kd.R_alloc | apply Kd.R_drewN | apply Kd.R_drew)); exact HO_381000.out⟩, ⟨by (with_reducible repeat (first | apply Kd.R_alloc | apply Kd.R_drewN | apply Kd.R_drew)); exact HO_381001.out⟩, ⟨by (with_reducible repeat (first | apply Kd.R_alloc | apply Kd.R_drewN | apply Kd.R_drew)); exact HO_388000.out⟩, ⟨by (with_reducible repeat (first | apply Kd.R_alloc | apply Kd.R_drewN | apply Kd.R_drew)); exact HO_388001.out⟩, ⟨by (with_reducible repeat (first | refine blk_drewN ?_ _ | refine blk_drew ?_ | refine blk_alloc ?_ _)); exact BK370.out⟩, ⟨by (with_reducible repeat (first | refine blk_drewN ?_ _ | refine blk_drew ?_ | refine blk_alloc ?_ _)); exact BK380.out⟩, ⟨by (with_reducible repeat (first | refine blk_drewN ?_ _ | refine blk_drew ?_ | refine blk_alloc ?_ _)); exact BK387.out⟩, ⟨by repeat (first | (with_reducible first | exact HB.out | apply below_alloc | apply pw_below_drewN | apply below_drew1 | refine below_set ?_ GE370.out | refine below_set ?_ GE380.out | refine below_set ?_ GE387.out) | exact HB.out)⟩⟩
                  ·replace c106 := Bool.eq_false_iff.mpr c106
                   subst c106
                   have H1 : (if 0 ≤ x12_5 then (if ((rd_T79 l0_1 x12_5).f0) = x10_4 then (if 0 ≤ x10_4 then (if x10_4 < (t374.length : Int) then (L2_DiskStays.l2 k5 l1 t371 x8_3 x10_4 (((rd_T79 l0_1 x12_5).f1).toList == (rdOf ByteArray.empty t374 x10_4).toList) (wrap64 (x12_5 + 1)) l0_0 l0_1 t374 t377 t381 t384) else (none)) else (none)) else (L2_DiskStays.l2 k5 l1 t371 x8_3 x10_4 false (wrap64 (x12_5 + 1)) l0_0 l0_1 t374 t377 t381 t384)) else (none)) = some r := by rw [if_neg (show ¬ (false = true) by decide)] at H; exact H
                   clear H
                   have H := H1
                   clear H1
                   by_cases c111 : 0 ≤ x12_5
                   ·rw [if_pos c111] at H
                    have c111b0 : decide (0 ≤ x12_5) = true := decide_eq_true c111
                    clear c111
                    by_cases c112 : ((rd_T79 l0_1 x12_5).f0) = x10_4
                    ·rw [if_pos c112] at H
                     have c112b0 : (((rd_T79 l0_1 x12_5).f0) == x10_4) = true := beq_iff_eq.mpr c112
                     have c112b1 : (((rd_T79 l0_1 x12_5).f0) != x10_4) = false := bne_eq_false_iff_eq.mpr c112
                     clear c112
                     by_cases c113 : 0 ≤ x10_4
                     ·rw [if_pos c113] at H
                      have c113b0 : decide (0 ≤ x10_4) = true := decide_eq_true c113
                      clear c113
                      by_cases c114 : x10_4 < (t374.length : Int)
                      ·rw [if_pos c114] at H
                       have c114b0 : decide (x10_4 < (t374.length : Int)) = true := decide_eq_true c114
                       clear c114
                       have H' := Aside0.mk H
                       clear H
                       have hnb115 := NB370_380.out
                       have hnc115 := NB380_370.out
                       have hnb116 := NB370_387.out
                       have hnc116 := NB387_370.out
                       have hcz117_0 : wr.cell? ⟨gb370, 0, none⟩ = some (.slice (some ad397) l0_0.length c0_0) := (blk_cell BK370.out 0).trans rfl
                       have hcz117_1 : wr.cell? ⟨gb370, 1, none⟩ = some (.slice A0_1 l0_1.length c0_1) := (blk_cell BK370.out 1).trans rfl
                       have hfz117_0 := blk_frozen BK370.out 0
                       have hfz117_1 := blk_frozen BK370.out 1
                       try go_wp2
                       have n0_ := Aside0.mk (Kd.R_drew HO_8.out)
                       have n1_ := Aside0.mk (Kd.R_drew HO_381000.out)
                       have n2_ := Aside0.mk (Kd.R_drew HO_381001.out)
                       have n3_ := Aside0.mk (Kd.R_drew HO_388000.out)
                       have n4_ := Aside0.mk (Kd.R_drew HO_388001.out)
                       have n5_ := Aside0.mk (blk_drew BK370.out)
                       have n6_ := Aside0.mk (blk_drew BK380.out)
                       have n7_ := Aside0.mk (blk_drew BK387.out)
                       have n8_ := Aside0.mk (below_drew1 HB.out)
                       clear HO_8
                       clear HO_381000
                       clear HO_381001
                       clear HO_388000
                       clear HO_388001
                       clear BK370
                       clear BK380
                       clear BK387
                       clear HB
                       have HO_8 := n0_
                       have HO_381000 := n1_
                       have HO_381001 := n2_
                       have HO_388000 := n3_
                       have HO_388001 := n4_
                       have BK370 := n5_
                       have BK380 := n6_
                       have BK387 := n7_
                       have HB := n8_
                       clear n0_ n1_ n2_ n3_ n4_ n5_ n6_ n7_ n8_
                       have p398 : 0 ≤ (x12_5 : Int) := of_decide_eq_true (by first | (with_reducible assumption) | assumption)
                       have q398 : x12_5 < (l0_1.length : Int) := of_decide_eq_true (by first | (with_reducible assumption) | assumption)
                       obtain ⟨ad398, e398, hx398_0, hx398_1⟩ := at_T79 HR0_1.out x12_5 p398 q398
                       have hw398_1 := hx398_1
                       have hw398_0 := hx398_0
                       cases e398
                       replace hx398_0 := (HB.out.cell (World.block_lt_of_cell? w _ hx398_0)).trans hx398_0
                       replace hx398_1 := (HB.out.cell (World.block_lt_of_cell? w _ hx398_1)).trans hx398_1
                       replace p398 := eq_true p398
                       replace q398 := eq_true q398
                       have p399 : 0 ≤ (x12_5 : Int) := of_decide_eq_true (by first | (with_reducible assumption) | assumption)
                       have q399 : x12_5 < (l0_1.length : Int) := of_decide_eq_true (by first | (with_reducible assumption) | assumption)
                       obtain ⟨ad399, e399, hx399_0, hx399_1⟩ := at_T79 HR0_1.out x12_5 p399 q399
                       have hw399_1 := hx399_1
                       have hw399_0 := hx399_0
                       obtain rfl : ad398 = ad399 := (by injection e399)
                       replace hx399_0 := (HB.out.cell (World.block_lt_of_cell? w _ hx399_0)).trans hx399_0
                       replace hx399_1 := (HB.out.cell (World.block_lt_of_cell? w _ hx399_1)).trans hx399_1
                       replace p399 := eq_true p399
                       replace q399 := eq_true q399
                       have p400 : 0 ≤ (x10_4 : Int) := of_decide_eq_true (by first | (with_reducible assumption) | assumption)
                       have q400 : x10_4 < (t374.length : Int) := of_decide_eq_true (by first | (with_reducible assumption) | assumption)
                       obtain ⟨ad400, e400, hx400_0⟩ := Kd.at_string (Kd.R_reads' HO_381000.out).2.2 x10_4 p400 q400
                       obtain rfl : ad396 = ad400 := (by injection e400)
                       replace p400 := eq_true p400
                       replace q400 := eq_true q400
                       refine start_ (n := 26) (S := fun w' => w'.cell? ⟨gb370, 0, none⟩ = some (.slice (some ad397) l0_0.length c0_0) ∧ w'.cell? ⟨gb370, 1, none⟩ = some (.slice (some ad398) l0_1.length c0_1) ∧ w'.cell? ⟨gb380, 0, none⟩ = some (.slice (some ad396) t374.length co28) ∧ w'.cell? ⟨gb380, 1, none⟩ = some (.slice Ao31 t377.length co31) ∧ w'.cell? (ad398.add ((x12_5).toNat * 2)) = some (.int .i64 ((rd_T79 l0_1 x12_5).f0)) ∧ w'.cell? ⟨(ad398.add ((x12_5).toNat * 2)).block, (ad398.add ((x12_5).toNat * 2)).off + 1, none⟩ = some (.string ((rd_T79 l0_1 x12_5).f1)) ∧ w'.cell? (ad398.add ((x12_5).toNat * 2)) = some (.int .i64 ((rd_T79 l0_1 x12_5).f0)) ∧ w'.cell? ⟨(ad398.add ((x12_5).toNat * 2)).block, (ad398.add ((x12_5).toNat * 2)).off + 1, none⟩ = some (.string ((rd_T79 l0_1 x12_5).f1)) ∧ w'.cell? (ad396.add (x10_4).toNat) = some (.string (rdOf ByteArray.empty t374 x10_4))) (ds := []) #[false, false, false, false, false, false, false, false, false, false, false, false, false, false, false, false, false, false, false, false, false, false, false, false, false, false] (by kernel_rfl) rfl rfl ⟨(blk_cell BK370.out 0).trans rfl, (blk_cell BK370.out 1).trans rfl, (blk_cell BK380.out 0).trans rfl, (blk_cell BK380.out 1).trans rfl, ((HB.out.cell (World.block_lt_of_cell? w _ hw398_0)).trans hw398_0), ((HB.out.cell (World.block_lt_of_cell? w _ hw398_1)).trans hw398_1), ((HB.out.cell (World.block_lt_of_cell? w _ hw399_0)).trans hw399_0), ((HB.out.cell (World.block_lt_of_cell? w _ hw399_1)).trans hw399_1), hx400_0⟩ (fun hHeld => ?_); refine with_tabW L2_DiskStays.tab20 L2_DiskStays.bits20 (fun HT_ HW_ => ?_)
                       generalize wr.drew = w118 at HO_8 HO_381000 HO_381001 HO_388000 HO_388001 BK370 BK380 BK387 HB hx398_0 hx398_1 hx399_0 hx399_1 hx400_0 hHeld ⊢
                       refine pure_ (i := 0) (N := some 107) (v := ?_) (a' := ?_) #[true, false, false, false, false, false, false, false, false, false, false, false, false, false, false, false, false, false, false, false, false, false, false, false, false, false] rfl rfl (any_of HT_.out (by kernel_rfl)) (fun _ _ _ h => h) (Or.inl ⟨by rfl, ?_⟩) ?_ ?_
                       rotate_left
                       ·intro w'
                        go_simp
                        with_reducible rfl
                       rotate_left
                       ·simp only [Act.put, List.setIfInBounds_toArray, List.set_cons_zero, List.set_cons_succ, i64_w, i32_w]
                        rfl
                       refine pure_ (i := 1) (N := some 108) (v := ?_) (a' := ?_) #[true, true, false, false, false, false, false, false, false, false, false, false, false, false, false, false, false, false, false, false, false, false, false, false, false, false] rfl rfl (any_of HT_.out (by kernel_rfl)) (fun _ _ _ h => h) (Or.inl ⟨by rfl, ?_⟩) ?_ ?_
                       rotate_left
                       ·intro w'
                        go_simp
                        with_reducible rfl
                       rotate_left
                       ·simp only [Act.put, List.setIfInBounds_toArray, List.set_cons_zero, List.set_cons_succ, i64_w, i32_w]
                        rfl
                       refine pure_ (i := 2) (N := some 109) (v := ?_) (a' := ?_) #[true, true, true, false, false, false, false, false, false, false, false, false, false, false, false, false, false, false, false, false, false, false, false, false, false, false] rfl rfl (any_of HT_.out (by kernel_rfl)) (fun _ _ _ h => h) (Or.inl ⟨by rfl, ?_⟩) ?_ ?_
                       rotate_left
                       ·intro w'
                        go_simp
                        with_reducible rfl
                       rotate_left
                       ·simp only [Act.put, List.setIfInBounds_toArray, List.set_cons_zero, List.set_cons_succ, i64_w, i32_w]
                        rfl
                       refine pure_ (i := 4) (N := some 111) (v := ?_) (a' := ?_) #[true, true, true, false, true, false, false, false, false, false, false, false, false, false, false, false, false, false, false, false, false, false, false, false, false, false] rfl rfl (any_of HT_.out (by kernel_rfl)) (fun _ _ _ h => h) (Or.inl ⟨by rfl, ?_⟩) ?_ ?_
                       rotate_left
                       ·intro w'
                        go_simp
                        with_reducible rfl
                       rotate_left
                       ·simp only [Act.put, List.setIfInBounds_toArray, List.set_cons_zero, List.set_cons_succ, i64_w, i32_w]
                        rfl
                       refine pure_ (i := 8) (N := some 115) (v := ?_) (a' := ?_) #[true, true, true, false, true, false, false, false, true, false, false, false, false, false, false, false, false, false, false, false, false, false, false, false, false, false] rfl rfl (any_of HT_.out (by kernel_rfl)) (fun _ _ _ h => h) (Or.inl ⟨by rfl, ?_⟩) ?_ ?_
                       rotate_left
                       ·intro w'
                        go_simp
                        with_reducible rfl
                       rotate_left
                       ·simp only [Act.put, List.setIfInBounds_toArray, List.set_cons_zero, List.set_cons_succ, i64_w, i32_w]
                        rfl
                       refine take_ (i := 3) (N := some 110) (v := ?_) (a' := ?_) #[true, true, true, true, true, false, false, false, true, false, false, false, false, false, false, false, false, false, false, false, false, false, false, false, false, false] rfl rfl (take_ofW HT_.out HW_.out (by kernel_rfl)) (fun _ _ _ h => h) (Or.inl ⟨by rfl, ?_⟩) hHeld ?_ ?_
                       rotate_left
                       ·rintro w' ⟨s0, s1, s2, s3, s4, s5, s6, s7, s8⟩
                        go_simp
                        with_reducible rfl
                       rotate_left
                       ·simp only [Act.put, List.setIfInBounds_toArray, List.set_cons_zero, List.set_cons_succ, i64_w, i32_w]
                        rfl
                       refine pure_ (i := 5) (N := some 112) (v := ?_) (a' := ?_) #[true, true, true, true, true, true, false, false, true, false, false, false, false, false, false, false, false, false, false, false, false, false, false, false, false, false] rfl rfl (any_of HT_.out (by kernel_rfl)) (fun _ _ _ h => h) (Or.inl ⟨by rfl, ?_⟩) ?_ ?_
                       rotate_left
                       ·intro w'
                        go_simp
                        with_reducible rfl
                       rotate_left
                       ·simp only [Act.put, List.setIfInBounds_toArray, List.set_cons_zero, List.set_cons_succ, i64_w, i32_w]
                        rfl
                       refine pure_ (i := 6) (N := some 113) (v := ?_) (a' := ?_) #[true, true, true, true, true, true, true, false, true, false, false, false, false, false, false, false, false, false, false, false, false, false, false, false, false, false] rfl rfl (any_of HT_.out (by kernel_rfl)) (fun _ _ _ h => h) (Or.inl ⟨by rfl, ?_⟩) ?_ ?_
                       rotate_left
                       ·intro w'
                        go_simp
                        with_reducible rfl
                       rotate_left
                       ·simp only [Act.put, List.setIfInBounds_toArray, List.set_cons_zero, List.set_cons_succ, i64_w, i32_w]
                        rfl
                       refine take_ (i := 7) (N := some 114) (v := ?_) (a' := ?_) #[true, true, true, true, true, true, true, true, true, false, false, false, false, false, false, false, false, false, false, false, false, false, false, false, false, false] rfl rfl (take_ofW HT_.out HW_.out (by kernel_rfl)) (fun _ _ _ h => h) (Or.inl ⟨by rfl, ?_⟩) hHeld ?_ ?_
                       rotate_left
                       ·rintro w' ⟨s0, s1, s2, s3, s4, s5, s6, s7, s8⟩
                        go_simp
                        with_reducible rfl
                       rotate_left
                       ·simp only [Act.put, List.setIfInBounds_toArray, List.set_cons_zero, List.set_cons_succ, i64_w, i32_w]
                        rfl
                       refine pure_ (i := 9) (N := some 116) (v := ?_) (a' := ?_) #[true, true, true, true, true, true, true, true, true, true, false, false, false, false, false, false, false, false, false, false, false, false, false, false, false, false] rfl rfl (any_of HT_.out (by kernel_rfl)) (fun _ _ _ h => h) (Or.inl ⟨by rfl, ?_⟩) ?_ ?_
                       rotate_left
                       ·intro w'
                        go_simp
                        with_reducible rfl
                       rotate_left
                       ·simp only [Act.put, List.setIfInBounds_toArray, List.set_cons_zero, List.set_cons_succ, i64_w, i32_w]
                        rfl
                       refine pure_ (i := 10) (N := some 117) (v := ?_) (a' := ?_) #[true, true, true, true, true, true, true, true, true, true, true, false, false, false, false, false, false, false, false, false, false, false, false, false, false, false] rfl rfl (any_of HT_.out (by kernel_rfl)) (fun _ _ _ h => h) (Or.inl ⟨by rfl, ?_⟩) ?_ ?_
                       rotate_left
                       ·intro w'
                        go_simp
                        with_reducible rfl
                       rotate_left
                       ·simp only [Act.put, List.setIfInBounds_toArray, List.set_cons_zero, List.set_cons_succ, i64_w, i32_w]
                        rfl
                       refine pure_ (i := 11) (N := some 118) (v := ?_) (a' := ?_) #[true, true, true, true, true, true, true, true, true, true, true, true, false, false, false, false, false, false, false, false, false, false, false, false, false, false] rfl rfl (any_of HT_.out (by kernel_rfl)) (fun _ _ _ h => h) (Or.inl ⟨by rfl, ?_⟩) ?_ ?_
                       rotate_left
                       ·intro w'
                        go_simp
                        with_reducible rfl
                       rotate_left
                       ·simp only [Act.put, List.setIfInBounds_toArray, List.set_cons_zero, List.set_cons_succ, i64_w, i32_w]
                        rfl
                       refine pure_ (i := 13) (N := some 120) (v := ?_) (a' := ?_) #[true, true, true, true, true, true, true, true, true, true, true, true, false, true, false, false, false, false, false, false, false, false, false, false, false, false] rfl rfl (any_of HT_.out (by kernel_rfl)) (fun _ _ _ h => h) (Or.inl ⟨by rfl, ?_⟩) ?_ ?_
                       rotate_left
                       ·intro w'
                        go_simp
                        with_reducible rfl
                       rotate_left
                       ·simp only [Act.put, List.setIfInBounds_toArray, List.set_cons_zero, List.set_cons_succ, i64_w, i32_w]
                        rfl
                       refine pure_ (i := 17) (N := some 124) (v := ?_) (a' := ?_) #[true, true, true, true, true, true, true, true, true, true, true, true, false, true, false, false, false, true, false, false, false, false, false, false, false, false] rfl rfl (any_of HT_.out (by kernel_rfl)) (fun _ _ _ h => h) (Or.inl ⟨by rfl, ?_⟩) ?_ ?_
                       rotate_left
                       ·intro w'
                        go_simp
                        with_reducible rfl
                       rotate_left
                       ·simp only [Act.put, List.setIfInBounds_toArray, List.set_cons_zero, List.set_cons_succ, i64_w, i32_w]
                        rfl
                       refine pure_ (i := 19) (N := some 126) (v := ?_) (a' := ?_) #[true, true, true, true, true, true, true, true, true, true, true, true, false, true, false, false, false, true, false, true, false, false, false, false, false, false] rfl rfl (any_of HT_.out (by kernel_rfl)) (fun _ _ _ h => h) (Or.inl ⟨by rfl, ?_⟩) ?_ ?_
                       rotate_left
                       ·intro w'
                        go_simp
                        with_reducible rfl
                       rotate_left
                       ·simp only [Act.put, List.setIfInBounds_toArray, List.set_cons_zero, List.set_cons_succ, i64_w, i32_w]
                        rfl
                       refine take_ (i := 12) (N := some 119) (v := ?_) (a' := ?_) #[true, true, true, true, true, true, true, true, true, true, true, true, true, true, false, false, false, true, false, true, false, false, false, false, false, false] rfl rfl (take_ofW HT_.out HW_.out (by kernel_rfl)) (fun _ _ _ h => h) (Or.inl ⟨by rfl, ?_⟩) hHeld ?_ ?_
                       rotate_left
                       ·rintro w' ⟨s0, s1, s2, s3, s4, s5, s6, s7, s8⟩
                        go_simp
                        with_reducible rfl
                       rotate_left
                       ·simp only [Act.put, List.setIfInBounds_toArray, List.set_cons_zero, List.set_cons_succ, i64_w, i32_w]
                        rfl
                       refine pure_ (i := 14) (N := some 121) (v := ?_) (a' := ?_) #[true, true, true, true, true, true, true, true, true, true, true, true, true, true, true, false, false, true, false, true, false, false, false, false, false, false] rfl rfl (any_of HT_.out (by kernel_rfl)) (fun _ _ _ h => h) (Or.inl ⟨by rfl, ?_⟩) ?_ ?_
                       rotate_left
                       ·intro w'
                        go_simp
                        with_reducible rfl
                       rotate_left
                       ·simp only [Act.put, List.setIfInBounds_toArray, List.set_cons_zero, List.set_cons_succ, i64_w, i32_w]
                        rfl
                       refine pure_ (i := 15) (N := some 122) (v := ?_) (a' := ?_) #[true, true, true, true, true, true, true, true, true, true, true, true, true, true, true, true, false, true, false, true, false, false, false, false, false, false] rfl rfl (any_of HT_.out (by kernel_rfl)) (fun _ _ _ h => h) (Or.inl ⟨by rfl, ?_⟩) ?_ ?_
                       rotate_left
                       ·intro w'
                        go_simp
                        with_reducible rfl
                       rotate_left
                       ·simp only [Act.put, List.setIfInBounds_toArray, List.set_cons_zero, List.set_cons_succ, i64_w, i32_w]
                        rfl
                       refine take_ (i := 16) (N := some 123) (v := ?_) (a' := ?_) #[true, true, true, true, true, true, true, true, true, true, true, true, true, true, true, true, true, true, false, true, false, false, false, false, false, false] rfl rfl (take_ofW HT_.out HW_.out (by kernel_rfl)) (fun _ _ _ h => h) (Or.inl ⟨by rfl, ?_⟩) hHeld ?_ ?_
                       rotate_left
                       ·rintro w' ⟨s0, s1, s2, s3, s4, s5, s6, s7, s8⟩
                        go_simp
                        with_reducible rfl
                       rotate_left
                       ·simp only [Act.put, List.setIfInBounds_toArray, List.set_cons_zero, List.set_cons_succ, i64_w, i32_w]
                        rfl
                       refine take_ (i := 18) (N := some 125) (v := ?_) (a' := ?_) #[true, true, true, true, true, true, true, true, true, true, true, true, true, true, true, true, true, true, true, true, false, false, false, false, false, false] rfl rfl (take_ofW HT_.out HW_.out (by kernel_rfl)) (fun _ _ _ h => h) (Or.inl ⟨by rfl, ?_⟩) hHeld ?_ ?_
                       rotate_left
                       ·rintro w' ⟨s0, s1, s2, s3, s4, s5, s6, s7, s8⟩
                        go_simp
                        with_reducible rfl
                       rotate_left
                       ·simp only [Act.put, List.setIfInBounds_toArray, List.set_cons_zero, List.set_cons_succ, i64_w, i32_w]
                        rfl
                       refine pure_ (i := 20) (N := some 127) (v := ?_) (a' := ?_) #[true, true, true, true, true, true, true, true, true, true, true, true, true, true, true, true, true, true, true, true, true, false, false, false, false, false] rfl rfl (any_of HT_.out (by kernel_rfl)) (fun _ _ _ h => h) (Or.inl ⟨by rfl, ?_⟩) ?_ ?_
                       rotate_left
                       ·intro w'
                        go_simp
                        with_reducible rfl
                       rotate_left
                       ·simp only [Act.put, List.setIfInBounds_toArray, List.set_cons_zero, List.set_cons_succ, i64_w, i32_w]
                        rfl
                       refine take_ (i := 21) (N := some 128) (v := ?_) (a' := ?_) #[true, true, true, true, true, true, true, true, true, true, true, true, true, true, true, true, true, true, true, true, true, true, false, false, false, false] rfl rfl (take_ofW HT_.out HW_.out (by kernel_rfl)) (fun _ _ _ h => h) (Or.inl ⟨by rfl, ?_⟩) hHeld ?_ ?_
                       rotate_left
                       ·rintro w' ⟨s0, s1, s2, s3, s4, s5, s6, s7, s8⟩
                        go_simp
                        with_reducible rfl
                       rotate_left
                       ·simp only [Act.put, List.setIfInBounds_toArray, List.set_cons_zero, List.set_cons_succ, i64_w, i32_w]
                        rfl
                       refine pure_ (i := 22) (N := some 129) (v := ?_) (a' := ?_) #[true, true, true, true, true, true, true, true, true, true, true, true, true, true, true, true, true, true, true, true, true, true, true, false, false, false] rfl rfl (any_of HT_.out (by kernel_rfl)) (fun _ _ _ h => h) (Or.inl ⟨by rfl, ?_⟩) ?_ ?_
                       rotate_left
                       ·intro w'
                        go_simp
                        with_reducible rfl
                       rotate_left
                       ·simp only [Act.put, List.setIfInBounds_toArray, List.set_cons_zero, List.set_cons_succ, i64_w, i32_w]
                        rfl
                       refine pure_ (i := 23) (N := some 130) (v := ?_) (a' := ?_) #[true, true, true, true, true, true, true, true, true, true, true, true, true, true, true, true, true, true, true, true, true, true, true, true, false, false] rfl rfl (any_of HT_.out (by kernel_rfl)) (fun _ _ _ h => h) (Or.inl ⟨by rfl, ?_⟩) ?_ ?_
                       rotate_left
                       ·intro w'
                        go_simp
                        with_reducible rfl
                       rotate_left
                       ·simp only [Act.put, List.setIfInBounds_toArray, List.set_cons_zero, List.set_cons_succ, i64_w, i32_w]
                        rfl
                       refine pure_ (i := 24) (N := some 131) (v := ?_) (a' := ?_) #[true, true, true, true, true, true, true, true, true, true, true, true, true, true, true, true, true, true, true, true, true, true, true, true, true, false] rfl rfl (any_of HT_.out (by kernel_rfl)) (fun _ _ _ h => h) (Or.inl ⟨by rfl, ?_⟩) ?_ ?_
                       rotate_left
                       ·intro w'
                        go_simp
                        with_reducible rfl
                       rotate_left
                       ·simp only [Act.put, List.setIfInBounds_toArray, List.set_cons_zero, List.set_cons_succ, i64_w, i32_w]
                        rfl
                       refine pure_ (i := 25) (N := some 11) (v := ?_) (a' := ?_) #[true, true, true, true, true, true, true, true, true, true, true, true, true, true, true, true, true, true, true, true, true, true, true, true, true, true] rfl rfl (any_of HT_.out (by kernel_rfl)) (fun _ _ _ h => h) (Or.inl ⟨by rfl, ?_⟩) ?_ ?_
                       rotate_left
                       ·intro w'
                        go_simp
                        with_reducible rfl
                       rotate_left
                       ·simp only [Act.put, List.setIfInBounds_toArray, List.set_cons_zero, List.set_cons_succ, i64_w, i32_w]
                        rfl
                       refine done_ (done_of HT_.out (by kernel_rfl)) ?_
                       try go_wp2
                       go_roundg k5
                       case measure => have := HJ3.out; have := HJ23.out; have := HK3.out; have := HK4.out; have := HK5.out; omega
                       case rel => exact ⟨((((rd_T79 l0_1 x12_5).f1).toList == (rdOf ByteArray.empty t374 x10_4).toList)), (wrap64 (x12_5 + 1)), (by first | rfl | (simp; done) | (simp [*]; done)), (by first | rfl | (simp; done) | (simp [*]; done)), H', ⟨by have := HJ3.out; have := HJ23.out; have := HK3.out; have := HK4.out; have := HK5.out; omega⟩, ⟨by (with_reducible repeat (first | apply Kd.R_alloc | apply Kd.R_drewN | apply Kd.R_drew)); exact HO_8.out⟩, ⟨by (with_reducible repeat (first | apply Kd.R_alloc | apply Kd.R_drewN | apply Kd.R_drew)); exact HO_381000.out⟩, ⟨by (with_reducible repeat (first | apply Kd.R_alloc | apply Kd.R_drewN | apply Kd.R_drew)); exact HO_381001.out⟩, ⟨by (with_reducible repeat (first | apply Kd.R_alloc | apply Kd.R_drewN | apply Kd.R_drew)); exact HO_388000.out⟩, ⟨by (with_reducible repeat (first | apply Kd.R_alloc | apply Kd.R_drewN | apply Kd.R_drew)); exact HO_388001.out⟩, ⟨by (with_reducible repeat (first | refine blk_drewN ?_ _ | refine blk_drew ?_ | refine blk_alloc ?_ _)); exact BK370.out⟩, ⟨by (with_reducible repeat (first | refine blk_drewN ?_ _ | refine blk_drew ?_ | refine blk_alloc ?_ _)); exact BK380.out⟩, ⟨by (with_reducible repeat (first | refine blk_drewN ?_ _ | refine blk_drew ?_ | refine blk_alloc ?_ _)); exact BK387.out⟩, ⟨by repeat (first | (with_reducible first | exact HB.out | apply below_alloc | apply pw_below_drewN | apply below_drew1 | refine below_set ?_ GE370.out | refine below_set ?_ GE380.out | refine below_set ?_ GE387.out) | exact HB.out)⟩⟩
                      ·rw [if_neg c114] at H
                       exact absurd H (by simp)
                     ·rw [if_neg c113] at H
                      exact absurd H (by simp)
                    ·rw [if_neg c112] at H
                     have c112b0 : (((rd_T79 l0_1 x12_5).f0) == x10_4) = false := beq_eq_false_iff_ne.mpr c112
                     have c112b1 : (((rd_T79 l0_1 x12_5).f0) != x10_4) = true := bne_iff_ne.mpr c112
                     have H' := Aside0.mk H
                     clear H
                     have hnb119 := NB370_380.out
                     have hnc119 := NB380_370.out
                     have hnb120 := NB370_387.out
                     have hnc120 := NB387_370.out
                     have hcz121_0 : wr.cell? ⟨gb370, 0, none⟩ = some (.slice (some ad397) l0_0.length c0_0) := (blk_cell BK370.out 0).trans rfl
                     have hcz121_1 : wr.cell? ⟨gb370, 1, none⟩ = some (.slice A0_1 l0_1.length c0_1) := (blk_cell BK370.out 1).trans rfl
                     have hfz121_0 := blk_frozen BK370.out 0
                     have hfz121_1 := blk_frozen BK370.out 1
                     try go_wp2
                     have n0_ := Aside0.mk (Kd.R_drew HO_8.out)
                     have n1_ := Aside0.mk (Kd.R_drew HO_381000.out)
                     have n2_ := Aside0.mk (Kd.R_drew HO_381001.out)
                     have n3_ := Aside0.mk (Kd.R_drew HO_388000.out)
                     have n4_ := Aside0.mk (Kd.R_drew HO_388001.out)
                     have n5_ := Aside0.mk (blk_drew BK370.out)
                     have n6_ := Aside0.mk (blk_drew BK380.out)
                     have n7_ := Aside0.mk (blk_drew BK387.out)
                     have n8_ := Aside0.mk (below_drew1 HB.out)
                     clear HO_8
                     clear HO_381000
                     clear HO_381001
                     clear HO_388000
                     clear HO_388001
                     clear BK370
                     clear BK380
                     clear BK387
                     clear HB
                     have HO_8 := n0_
                     have HO_381000 := n1_
                     have HO_381001 := n2_
                     have HO_388000 := n3_
                     have HO_388001 := n4_
                     have BK370 := n5_
                     have BK380 := n6_
                     have BK387 := n7_
                     have HB := n8_
                     clear n0_ n1_ n2_ n3_ n4_ n5_ n6_ n7_ n8_
                     have p398 : 0 ≤ (x12_5 : Int) := of_decide_eq_true (by first | (with_reducible assumption) | assumption)
                     have q398 : x12_5 < (l0_1.length : Int) := of_decide_eq_true (by first | (with_reducible assumption) | assumption)
                     obtain ⟨ad398, e398, hx398_0, hx398_1⟩ := at_T79 HR0_1.out x12_5 p398 q398
                     have hw398_1 := hx398_1
                     have hw398_0 := hx398_0
                     cases e398
                     replace hx398_0 := (HB.out.cell (World.block_lt_of_cell? w _ hx398_0)).trans hx398_0
                     replace hx398_1 := (HB.out.cell (World.block_lt_of_cell? w _ hx398_1)).trans hx398_1
                     replace p398 := eq_true p398
                     replace q398 := eq_true q398
                     refine start_ (n := 26) (S := fun w' => w'.cell? ⟨gb370, 0, none⟩ = some (.slice (some ad397) l0_0.length c0_0) ∧ w'.cell? ⟨gb370, 1, none⟩ = some (.slice (some ad398) l0_1.length c0_1) ∧ w'.cell? (ad398.add ((x12_5).toNat * 2)) = some (.int .i64 ((rd_T79 l0_1 x12_5).f0)) ∧ w'.cell? ⟨(ad398.add ((x12_5).toNat * 2)).block, (ad398.add ((x12_5).toNat * 2)).off + 1, none⟩ = some (.string ((rd_T79 l0_1 x12_5).f1))) (ds := []) #[false, false, false, false, false, false, false, false, false, false, false, false, false, false, false, false, false, false, false, false, false, false, false, false, false, false] (by kernel_rfl) rfl rfl ⟨(blk_cell BK370.out 0).trans rfl, (blk_cell BK370.out 1).trans rfl, ((HB.out.cell (World.block_lt_of_cell? w _ hw398_0)).trans hw398_0), ((HB.out.cell (World.block_lt_of_cell? w _ hw398_1)).trans hw398_1)⟩ (fun hHeld => ?_); refine with_tabW L2_DiskStays.tab20 L2_DiskStays.bits20 (fun HT_ HW_ => ?_)
                     generalize wr.drew = w122 at HO_8 HO_381000 HO_381001 HO_388000 HO_388001 BK370 BK380 BK387 HB hx398_0 hx398_1 hHeld ⊢
                     refine pure_ (i := 0) (N := some 107) (v := ?_) (a' := ?_) #[true, false, false, false, false, false, false, false, false, false, false, false, false, false, false, false, false, false, false, false, false, false, false, false, false, false] rfl rfl (any_of HT_.out (by kernel_rfl)) (fun _ _ _ h => h) (Or.inl ⟨by rfl, ?_⟩) ?_ ?_
                     rotate_left
                     ·intro w'
                      go_simp
                      with_reducible rfl
                     rotate_left
                     ·simp only [Act.put, List.setIfInBounds_toArray, List.set_cons_zero, List.set_cons_succ, i64_w, i32_w]
                      rfl
                     refine pure_ (i := 1) (N := some 108) (v := ?_) (a' := ?_) #[true, true, false, false, false, false, false, false, false, false, false, false, false, false, false, false, false, false, false, false, false, false, false, false, false, false] rfl rfl (any_of HT_.out (by kernel_rfl)) (fun _ _ _ h => h) (Or.inl ⟨by rfl, ?_⟩) ?_ ?_
                     rotate_left
                     ·intro w'
                      go_simp
                      with_reducible rfl
                     rotate_left
                     ·simp only [Act.put, List.setIfInBounds_toArray, List.set_cons_zero, List.set_cons_succ, i64_w, i32_w]
                      rfl
                     refine pure_ (i := 2) (N := some 109) (v := ?_) (a' := ?_) #[true, true, true, false, false, false, false, false, false, false, false, false, false, false, false, false, false, false, false, false, false, false, false, false, false, false] rfl rfl (any_of HT_.out (by kernel_rfl)) (fun _ _ _ h => h) (Or.inl ⟨by rfl, ?_⟩) ?_ ?_
                     rotate_left
                     ·intro w'
                      go_simp
                      with_reducible rfl
                     rotate_left
                     ·simp only [Act.put, List.setIfInBounds_toArray, List.set_cons_zero, List.set_cons_succ, i64_w, i32_w]
                      rfl
                     refine pure_ (i := 4) (N := some 111) (v := ?_) (a' := ?_) #[true, true, true, false, true, false, false, false, false, false, false, false, false, false, false, false, false, false, false, false, false, false, false, false, false, false] rfl rfl (any_of HT_.out (by kernel_rfl)) (fun _ _ _ h => h) (Or.inl ⟨by rfl, ?_⟩) ?_ ?_
                     rotate_left
                     ·intro w'
                      go_simp
                      with_reducible rfl
                     rotate_left
                     ·simp only [Act.put, List.setIfInBounds_toArray, List.set_cons_zero, List.set_cons_succ, i64_w, i32_w]
                      rfl
                     refine pure_ (i := 8) (N := some 115) (v := ?_) (a' := ?_) #[true, true, true, false, true, false, false, false, true, false, false, false, false, false, false, false, false, false, false, false, false, false, false, false, false, false] rfl rfl (any_of HT_.out (by kernel_rfl)) (fun _ _ _ h => h) (Or.inl ⟨by rfl, ?_⟩) ?_ ?_
                     rotate_left
                     ·intro w'
                      go_simp
                      with_reducible rfl
                     rotate_left
                     ·simp only [Act.put, List.setIfInBounds_toArray, List.set_cons_zero, List.set_cons_succ, i64_w, i32_w]
                      rfl
                     refine take_ (i := 3) (N := some 110) (v := ?_) (a' := ?_) #[true, true, true, true, true, false, false, false, true, false, false, false, false, false, false, false, false, false, false, false, false, false, false, false, false, false] rfl rfl (take_ofW HT_.out HW_.out (by kernel_rfl)) (fun _ _ _ h => h) (Or.inl ⟨by rfl, ?_⟩) hHeld ?_ ?_
                     rotate_left
                     ·rintro w' ⟨s0, s1, s2, s3⟩
                      go_simp
                      with_reducible rfl
                     rotate_left
                     ·simp only [Act.put, List.setIfInBounds_toArray, List.set_cons_zero, List.set_cons_succ, i64_w, i32_w]
                      rfl
                     refine pure_ (i := 5) (N := some 112) (v := ?_) (a' := ?_) #[true, true, true, true, true, true, false, false, true, false, false, false, false, false, false, false, false, false, false, false, false, false, false, false, false, false] rfl rfl (any_of HT_.out (by kernel_rfl)) (fun _ _ _ h => h) (Or.inl ⟨by rfl, ?_⟩) ?_ ?_
                     rotate_left
                     ·intro w'
                      go_simp
                      with_reducible rfl
                     rotate_left
                     ·simp only [Act.put, List.setIfInBounds_toArray, List.set_cons_zero, List.set_cons_succ, i64_w, i32_w]
                      rfl
                     refine pure_ (i := 6) (N := some 113) (v := ?_) (a' := ?_) #[true, true, true, true, true, true, true, false, true, false, false, false, false, false, false, false, false, false, false, false, false, false, false, false, false, false] rfl rfl (any_of HT_.out (by kernel_rfl)) (fun _ _ _ h => h) (Or.inl ⟨by rfl, ?_⟩) ?_ ?_
                     rotate_left
                     ·intro w'
                      go_simp
                      with_reducible rfl
                     rotate_left
                     ·simp only [Act.put, List.setIfInBounds_toArray, List.set_cons_zero, List.set_cons_succ, i64_w, i32_w]
                      rfl
                     refine take_ (i := 7) (N := some 114) (v := ?_) (a' := ?_) #[true, true, true, true, true, true, true, true, true, false, false, false, false, false, false, false, false, false, false, false, false, false, false, false, false, false] rfl rfl (take_ofW HT_.out HW_.out (by kernel_rfl)) (fun _ _ _ h => h) (Or.inl ⟨by rfl, ?_⟩) hHeld ?_ ?_
                     rotate_left
                     ·rintro w' ⟨s0, s1, s2, s3⟩
                      go_simp
                      with_reducible rfl
                     rotate_left
                     ·simp only [Act.put, List.setIfInBounds_toArray, List.set_cons_zero, List.set_cons_succ, i64_w, i32_w]
                      rfl
                     refine pure_ (i := 9) (N := some 116) (v := ?_) (a' := ?_) #[true, true, true, true, true, true, true, true, true, true, false, false, false, false, false, false, false, false, false, false, false, false, false, false, false, false] rfl rfl (any_of HT_.out (by kernel_rfl)) (fun _ _ _ h => h) (Or.inl ⟨by rfl, ?_⟩) ?_ ?_
                     rotate_left
                     ·intro w'
                      go_simp
                      with_reducible rfl
                     rotate_left
                     ·simp only [Act.put, List.setIfInBounds_toArray, List.set_cons_zero, List.set_cons_succ, i64_w, i32_w]
                      rfl
                     refine pure_ (i := 10) (N := some 117) (v := ?_) (a' := ?_) #[true, true, true, true, true, true, true, true, true, true, true, false, false, false, false, false, false, false, false, false, false, false, false, false, false, false] rfl rfl (any_of HT_.out (by kernel_rfl)) (fun _ _ _ h => h) (Or.inl ⟨by rfl, ?_⟩) ?_ ?_
                     rotate_left
                     ·intro w'
                      go_simp
                      with_reducible rfl
                     rotate_left
                     ·simp only [Act.put, List.setIfInBounds_toArray, List.set_cons_zero, List.set_cons_succ, i64_w, i32_w]
                      rfl
                     refine pure_ (i := 11) (N := some 118) (v := undef) (a' := ?_) #[true, true, true, true, true, true, true, true, true, true, true, true, false, false, false, false, false, false, false, false, false, false, false, false, false, false] rfl rfl (any_of HT_.out (by kernel_rfl)) (fun _ _ _ h => h) (Or.inr ⟨by rfl, rfl⟩) ?_ ?_
                     rotate_left
                     ·simp only [Act.put, List.setIfInBounds_toArray, List.set_cons_zero, List.set_cons_succ, i64_w, i32_w]
                      rfl
                     refine pure_ (i := 12) (N := some 119) (v := undef) (a' := ?_) #[true, true, true, true, true, true, true, true, true, true, true, true, true, false, false, false, false, false, false, false, false, false, false, false, false, false] rfl rfl (any_of HT_.out (by kernel_rfl)) (fun _ _ _ h => h) (Or.inr ⟨by rfl, rfl⟩) ?_ ?_
                     rotate_left
                     ·simp only [Act.put, List.setIfInBounds_toArray, List.set_cons_zero, List.set_cons_succ, i64_w, i32_w]
                      rfl
                     refine pure_ (i := 13) (N := some 120) (v := undef) (a' := ?_) #[true, true, true, true, true, true, true, true, true, true, true, true, true, true, false, false, false, false, false, false, false, false, false, false, false, false] rfl rfl (any_of HT_.out (by kernel_rfl)) (fun _ _ _ h => h) (Or.inr ⟨by rfl, rfl⟩) ?_ ?_
                     rotate_left
                     ·simp only [Act.put, List.setIfInBounds_toArray, List.set_cons_zero, List.set_cons_succ, i64_w, i32_w]
                      rfl
                     refine pure_ (i := 14) (N := some 121) (v := undef) (a' := ?_) #[true, true, true, true, true, true, true, true, true, true, true, true, true, true, true, false, false, false, false, false, false, false, false, false, false, false] rfl rfl (any_of HT_.out (by kernel_rfl)) (fun _ _ _ h => h) (Or.inr ⟨by rfl, rfl⟩) ?_ ?_
                     rotate_left
                     ·simp only [Act.put, List.setIfInBounds_toArray, List.set_cons_zero, List.set_cons_succ, i64_w, i32_w]
                      rfl
                     refine pure_ (i := 15) (N := some 122) (v := undef) (a' := ?_) #[true, true, true, true, true, true, true, true, true, true, true, true, true, true, true, true, false, false, false, false, false, false, false, false, false, false] rfl rfl (any_of HT_.out (by kernel_rfl)) (fun _ _ _ h => h) (Or.inr ⟨by rfl, rfl⟩) ?_ ?_
                     rotate_left
                     ·simp only [Act.put, List.setIfInBounds_toArray, List.set_cons_zero, List.set_cons_succ, i64_w, i32_w]
                      rfl
                     refine pure_ (i := 16) (N := some 123) (v := undef) (a' := ?_) #[true, true, true, true, true, true, true, true, true, true, true, true, true, true, true, true, true, false, false, false, false, false, false, false, false, false] rfl rfl (any_of HT_.out (by kernel_rfl)) (fun _ _ _ h => h) (Or.inr ⟨by rfl, rfl⟩) ?_ ?_
                     rotate_left
                     ·simp only [Act.put, List.setIfInBounds_toArray, List.set_cons_zero, List.set_cons_succ, i64_w, i32_w]
                      rfl
                     refine pure_ (i := 17) (N := some 124) (v := undef) (a' := ?_) #[true, true, true, true, true, true, true, true, true, true, true, true, true, true, true, true, true, true, false, false, false, false, false, false, false, false] rfl rfl (any_of HT_.out (by kernel_rfl)) (fun _ _ _ h => h) (Or.inr ⟨by rfl, rfl⟩) ?_ ?_
                     rotate_left
                     ·simp only [Act.put, List.setIfInBounds_toArray, List.set_cons_zero, List.set_cons_succ, i64_w, i32_w]
                      rfl
                     refine pure_ (i := 18) (N := some 125) (v := undef) (a' := ?_) #[true, true, true, true, true, true, true, true, true, true, true, true, true, true, true, true, true, true, true, false, false, false, false, false, false, false] rfl rfl (any_of HT_.out (by kernel_rfl)) (fun _ _ _ h => h) (Or.inr ⟨by rfl, rfl⟩) ?_ ?_
                     rotate_left
                     ·simp only [Act.put, List.setIfInBounds_toArray, List.set_cons_zero, List.set_cons_succ, i64_w, i32_w]
                      rfl
                     refine pure_ (i := 19) (N := some 126) (v := undef) (a' := ?_) #[true, true, true, true, true, true, true, true, true, true, true, true, true, true, true, true, true, true, true, true, false, false, false, false, false, false] rfl rfl (any_of HT_.out (by kernel_rfl)) (fun _ _ _ h => h) (Or.inr ⟨by rfl, rfl⟩) ?_ ?_
                     rotate_left
                     ·simp only [Act.put, List.setIfInBounds_toArray, List.set_cons_zero, List.set_cons_succ, i64_w, i32_w]
                      rfl
                     refine pure_ (i := 20) (N := some 127) (v := undef) (a' := ?_) #[true, true, true, true, true, true, true, true, true, true, true, true, true, true, true, true, true, true, true, true, true, false, false, false, false, false] rfl rfl (any_of HT_.out (by kernel_rfl)) (fun _ _ _ h => h) (Or.inr ⟨by rfl, rfl⟩) ?_ ?_
                     rotate_left
                     ·simp only [Act.put, List.setIfInBounds_toArray, List.set_cons_zero, List.set_cons_succ, i64_w, i32_w]
                      rfl
                     refine pure_ (i := 21) (N := some 128) (v := undef) (a' := ?_) #[true, true, true, true, true, true, true, true, true, true, true, true, true, true, true, true, true, true, true, true, true, true, false, false, false, false] rfl rfl (any_of HT_.out (by kernel_rfl)) (fun _ _ _ h => h) (Or.inr ⟨by rfl, rfl⟩) ?_ ?_
                     rotate_left
                     ·simp only [Act.put, List.setIfInBounds_toArray, List.set_cons_zero, List.set_cons_succ, i64_w, i32_w]
                      rfl
                     refine pure_ (i := 22) (N := some 129) (v := undef) (a' := ?_) #[true, true, true, true, true, true, true, true, true, true, true, true, true, true, true, true, true, true, true, true, true, true, true, false, false, false] rfl rfl (any_of HT_.out (by kernel_rfl)) (fun _ _ _ h => h) (Or.inr ⟨by rfl, rfl⟩) ?_ ?_
                     rotate_left
                     ·simp only [Act.put, List.setIfInBounds_toArray, List.set_cons_zero, List.set_cons_succ, i64_w, i32_w]
                      rfl
                     refine pure_ (i := 23) (N := some 130) (v := ?_) (a' := ?_) #[true, true, true, true, true, true, true, true, true, true, true, true, true, true, true, true, true, true, true, true, true, true, true, true, false, false] rfl rfl (any_of HT_.out (by kernel_rfl)) (fun _ _ _ h => h) (Or.inl ⟨by rfl, ?_⟩) ?_ ?_
                     rotate_left
                     ·intro w'
                      go_simp
                      with_reducible rfl
                     rotate_left
                     ·simp only [Act.put, List.setIfInBounds_toArray, List.set_cons_zero, List.set_cons_succ, i64_w, i32_w]
                      rfl
                     refine pure_ (i := 24) (N := some 131) (v := ?_) (a' := ?_) #[true, true, true, true, true, true, true, true, true, true, true, true, true, true, true, true, true, true, true, true, true, true, true, true, true, false] rfl rfl (any_of HT_.out (by kernel_rfl)) (fun _ _ _ h => h) (Or.inl ⟨by rfl, ?_⟩) ?_ ?_
                     rotate_left
                     ·intro w'
                      go_simp
                      with_reducible rfl
                     rotate_left
                     ·simp only [Act.put, List.setIfInBounds_toArray, List.set_cons_zero, List.set_cons_succ, i64_w, i32_w]
                      rfl
                     refine pure_ (i := 25) (N := some 11) (v := ?_) (a' := ?_) #[true, true, true, true, true, true, true, true, true, true, true, true, true, true, true, true, true, true, true, true, true, true, true, true, true, true] rfl rfl (any_of HT_.out (by kernel_rfl)) (fun _ _ _ h => h) (Or.inl ⟨by rfl, ?_⟩) ?_ ?_
                     rotate_left
                     ·intro w'
                      go_simp
                      with_reducible rfl
                     rotate_left
                     ·simp only [Act.put, List.setIfInBounds_toArray, List.set_cons_zero, List.set_cons_succ, i64_w, i32_w]
                      rfl
                     refine done_ (done_of HT_.out (by kernel_rfl)) ?_
                     try go_wp2
                     go_roundg k5
                     case measure => have := HJ3.out; have := HJ23.out; have := HK3.out; have := HK4.out; have := HK5.out; omega
                     case rel => exact ⟨(false), (wrap64 (x12_5 + 1)), (by first | rfl | (simp; done) | (simp [*]; done)), (by first | rfl | (simp; done) | (simp [*]; done)), H', ⟨by have := HJ3.out; have := HJ23.out; have := HK3.out; have := HK4.out; have := HK5.out; omega⟩, ⟨by (with_reducible repeat (first | apply Kd.R_alloc | apply Kd.R_drewN | apply Kd.R_drew)); exact HO_8.out⟩, ⟨by (with_reducible repeat (first | apply Kd.R_alloc | apply Kd.R_drewN | apply Kd.R_drew)); exact HO_381000.out⟩, ⟨by (with_reducible repeat (first | apply Kd.R_alloc | apply Kd.R_drewN | apply Kd.R_drew)); exact HO_381001.out⟩, ⟨by (with_reducible repeat (first | apply Kd.R_alloc | apply Kd.R_drewN | apply Kd.R_drew)); exact HO_388000.out⟩, ⟨by (with_reducible repeat (first | apply Kd.R_alloc | apply Kd.R_drewN | apply Kd.R_drew)); exact HO_388001.out⟩, ⟨by (with_reducible repeat (first | refine blk_drewN ?_ _ | refine blk_drew ?_ | refine blk_alloc ?_ _)); exact BK370.out⟩, ⟨by (with_reducible repeat (first | refine blk_drewN ?_ _ | refine blk_drew ?_ | refine blk_alloc ?_ _)); exact BK380.out⟩, ⟨by (with_reducible repeat (first | refine blk_drewN ?_ _ | refine blk_drew ?_ | refine blk_alloc ?_ _)); exact BK387.out⟩, ⟨by repeat (first | (with_reducible first | exact HB.out | apply below_alloc | apply pw_below_drewN | apply below_drew1 | refine below_set ?_ GE370.out | refine below_set ?_ GE380.out | refine below_set ?_ GE387.out) | exact HB.out)⟩⟩
                   ·rw [if_neg c111] at H
                    exact absurd H (by simp)
                 ·rw [if_neg c105] at H
                  have c105b0 : decide (x12_5 < (l0_1.length : Int)) = false := decide_eq_false c105
                  clear c105
                  replace H := Option.bind_eq_some_iff.mp H
                  obtain ⟨⟨t401, t402⟩, A1230, H⟩ := H
                  replace H : (if x11_5 = true then (if t402 = 0 then (if 0 ≤ x10_4 then (if x10_4 < (t381.length : Int) then (if (rdOf ByteArray.empty t381 x10_4).toList = t401.toList then (L2_DiskStays.l1 k5 l1 t371 x8_3 (wrap64 (x10_4 + 1)) l0_0 l0_1 t374 t377 t381 t384) else (none)) else (none)) else (none)) else (none)) else (none)) = some r := H
                  have A123 := Aside0.mk A1230
                  clear A1230
                  by_cases c124 : x11_5 = true
                  ·subst c124
                   have H1 : (if t402 = 0 then (if 0 ≤ x10_4 then (if x10_4 < (t381.length : Int) then (if (rdOf ByteArray.empty t381 x10_4).toList = t401.toList then (L2_DiskStays.l1 k5 l1 t371 x8_3 (wrap64 (x10_4 + 1)) l0_0 l0_1 t374 t377 t381 t384) else (none)) else (none)) else (none)) else (none)) = some r := by rw [if_pos rfl] at H; exact H
                   clear H
                   have H := H1
                   clear H1
                   by_cases c125 : t402 = 0
                   ·rw [if_pos c125] at H
                    have c125b0 : (t402 == 0) = true := beq_iff_eq.mpr c125
                    have c125b1 : (t402 != 0) = false := bne_eq_false_iff_eq.mpr c125
                    clear c125
                    by_cases c126 : 0 ≤ x10_4
                    ·rw [if_pos c126] at H
                     have c126b0 : decide (0 ≤ x10_4) = true := decide_eq_true c126
                     clear c126
                     by_cases c127 : x10_4 < (t381.length : Int)
                     ·rw [if_pos c127] at H
                      have c127b0 : decide (x10_4 < (t381.length : Int)) = true := decide_eq_true c127
                      clear c127
                      by_cases c128 : (rdOf ByteArray.empty t381 x10_4).toList = t401.toList
                      ·rw [if_pos c128] at H
                       have c128b0 : ((rdOf ByteArray.empty t381 x10_4).toList == t401.toList) = true := beq_iff_eq.mpr c128
                       have c128b1 : ((rdOf ByteArray.empty t381 x10_4).toList != t401.toList) = false := bne_eq_false_iff_eq.mpr c128
                       clear c128
                       have H' := Aside0.mk H
                       clear H
                       have hnb129 := NB370_380.out
                       have hnc129 := NB380_370.out
                       have hnb130 := NB370_387.out
                       have hnc130 := NB387_370.out
                       have hcz131_0 : wr.cell? ⟨gb370, 0, none⟩ = some (.slice (some ad397) l0_0.length c0_0) := (blk_cell BK370.out 0).trans rfl
                       have hcz131_1 : wr.cell? ⟨gb370, 1, none⟩ = some (.slice A0_1 l0_1.length c0_1) := (blk_cell BK370.out 1).trans rfl
                       have hfz131_0 := blk_frozen BK370.out 0
                       have hfz131_1 := blk_frozen BK370.out 1
                       go_wp2_with (first | ((with_reducible refine gate_callee (f := 40) rfl ?_); refine goesL_ (some 135) rfl rfl Try.func40 (by kernel_rfl) rfl #[.agg #[.slice (some ad397) l0_0.length c0_0, .slice A0_1 l0_1.length c0_1], .int .i64 x10_4] rfl (by (try simp only [List.map_toArray, List.map_cons, List.map_nil]); first | done | rfl | (simp only [List.length_drop, List.length_take]; rfl)) ?_; (with_reducible refine (disk_Read.calls _ _ l0_0 _ _ l0_1 x10_4 t401 t402 _ ?side1 ?side2 ?side3 ?side4 A123.out).mono ?_); (case side1 => repeat (first | exact (Kd.C_below HR0_0.out HB.out) | (with_reducible refine Kd.C_alloc ?_ _) | (with_reducible refine Kd.C_drewN ?_ _) | (with_reducible refine Kd.C_drew ?_))); (case side2 => exact HC0_0.out); (case side3 => repeat (first | exact (Kd.C_below HR0_1.out HB.out) | (with_reducible refine Kd.C_alloc ?_ _) | (with_reducible refine Kd.C_drewN ?_ _) | (with_reducible refine Kd.C_drew ?_))); (case side4 => exact HC0_1.out); rintro e w132 ⟨rfl, hb⟩; refine ⟨_, rfl, ?_⟩; have n0_ := Aside0.mk (Kd.R_below (by (with_reducible repeat (first | apply Kd.R_alloc | apply Kd.R_drewN | apply Kd.R_drew)); exact HO_8.out) hb); have n1_ := Aside0.mk (Kd.R_below (by (with_reducible repeat (first | apply Kd.R_alloc | apply Kd.R_drewN | apply Kd.R_drew)); exact HO_381000.out) hb); have n2_ := Aside0.mk (Kd.R_below (by (with_reducible repeat (first | apply Kd.R_alloc | apply Kd.R_drewN | apply Kd.R_drew)); exact HO_381001.out) hb); have n3_ := Aside0.mk (Kd.R_below (by (with_reducible repeat (first | apply Kd.R_alloc | apply Kd.R_drewN | apply Kd.R_drew)); exact HO_388000.out) hb); have n4_ := Aside0.mk (Kd.R_below (by (with_reducible repeat (first | apply Kd.R_alloc | apply Kd.R_drewN | apply Kd.R_drew)); exact HO_388001.out) hb); have n5_ := Aside0.mk (blk_below (g := gb370) (o := .cells #[.slice (some ad397) l0_0.length c0_0, .slice A0_1 l0_1.length c0_1] 63 (0, 0)) (by (with_reducible repeat (first | refine blk_drewN ?_ _ | refine blk_drew ?_ | refine blk_alloc ?_ _)); exact BK370.out) hb); have n6_ := Aside0.mk (blk_below (g := gb380) (o := .cells #[.slice (some ad396) t374.length co28, .slice Ao31 t377.length co31] 63 (0, 0)) (by (with_reducible repeat (first | refine blk_drewN ?_ _ | refine blk_drew ?_ | refine blk_alloc ?_ _)); exact BK380.out) hb); have n7_ := Aside0.mk (blk_below (g := gb387) (o := .cells #[.slice Ao35 t381.length co35, .slice Ao39 t384.length co39] 63 (0, 0)) (by (with_reducible repeat (first | refine blk_drewN ?_ _ | refine blk_drew ?_ | refine blk_alloc ?_ _)); exact BK387.out) hb); have n8_ := Aside0.mk (below_step (by repeat (first | (with_reducible first | exact HB.out | apply below_alloc | apply pw_below_drewN | apply below_drew1 | refine below_set ?_ GE370.out | refine below_set ?_ GE380.out | refine below_set ?_ GE387.out) | exact HB.out)) hb); clear HO_8; clear HO_381000; clear HO_381001; clear HO_388000; clear HO_388001; clear BK370; clear BK380; clear BK387; clear HB; have HO_8 := n0_; have HO_381000 := n1_; have HO_381001 := n2_; have HO_388000 := n3_; have HO_388001 := n4_; have BK370 := n5_; have BK380 := n6_; have BK387 := n7_; have HB := n8_; clear n0_ n1_ n2_ n3_ n4_ n5_ n6_ n7_ n8_; (try clear hb); (try clear hb2); (try clear hk); (try clear hi); have hnb133 := NB387_380.out; have hnc133 := NB380_387.out; have hcz134_0 : w132.cell? ⟨gb387, 0, none⟩ = some (.slice Ao35 t381.length co35) := (blk_cell BK387.out 0).trans rfl; have hcz134_1 : w132.cell? ⟨gb387, 1, none⟩ = some (.slice Ao39 t384.length co39) := (blk_cell BK387.out 1).trans rfl; have hfz134_0 := blk_frozen BK387.out 0; have hfz134_1 := blk_frozen BK387.out 1; have p403 : 0 ≤ (x10_4 : Int) := of_decide_eq_true (by first | (with_reducible assumption) | assumption); have q403 : x10_4 < (t381.length : Int) := of_decide_eq_true (by first | (with_reducible assumption) | assumption); obtain ⟨ad403, e403, hx403_0⟩ := Kd.at_string (Kd.R_reads' HO_388000.out).2.2 x10_4 p403 q403; cases e403; replace p403 := eq_true p403; replace q403 := eq_true q403))
                       go_roundg k5
                       case measure => have := HJ3.out; have := HJ23.out; have := HK3.out; have := HK4.out; have := HK5.out; omega
                       case rel => exact ⟨(wrap64 (x10_4 + 1)), (by first | rfl | (simp; done) | (simp [*]; done)), H', ⟨by have := HJ3.out; have := HJ23.out; have := HK3.out; have := HK4.out; have := HK5.out; omega⟩, ⟨by (with_reducible repeat (first | apply Kd.R_alloc | apply Kd.R_drewN | apply Kd.R_drew)); exact HO_8.out⟩, ⟨by (with_reducible repeat (first | apply Kd.R_alloc | apply Kd.R_drewN | apply Kd.R_drew)); exact HO_381000.out⟩, ⟨by (with_reducible repeat (first | apply Kd.R_alloc | apply Kd.R_drewN | apply Kd.R_drew)); exact HO_381001.out⟩, ⟨by (with_reducible repeat (first | apply Kd.R_alloc | apply Kd.R_drewN | apply Kd.R_drew)); exact HO_388000.out⟩, ⟨by (with_reducible repeat (first | apply Kd.R_alloc | apply Kd.R_drewN | apply Kd.R_drew)); exact HO_388001.out⟩, ⟨by (with_reducible repeat (first | refine blk_drewN ?_ _ | refine blk_drew ?_ | refine blk_alloc ?_ _)); exact BK370.out⟩, ⟨by (with_reducible repeat (first | refine blk_drewN ?_ _ | refine blk_drew ?_ | refine blk_alloc ?_ _)); exact BK380.out⟩, ⟨by (with_reducible repeat (first | refine blk_drewN ?_ _ | refine blk_drew ?_ | refine blk_alloc ?_ _)); exact BK387.out⟩, ⟨by repeat (first | (with_reducible first | exact HB.out | apply below_alloc | apply pw_below_drewN | apply below_drew1 | refine below_set ?_ GE370.out | refine below_set ?_ GE380.out | refine below_set ?_ GE387.out) | exact HB.out)⟩⟩
                      ·rw [if_neg c128] at H
                       exact absurd H (by simp)
                     ·rw [if_neg c127] at H
                      exact absurd H (by simp)
                    ·rw [if_neg c126] at H
                     exact absurd H (by simp)
                   ·rw [if_neg c125] at H
                    exact absurd H (by simp)
                  ·replace c124 := Bool.eq_false_iff.mpr c124
                   subst c124
                   have H1 : (none) = some r := by rw [if_neg (show ¬ (false = true) by decide)] at H; exact H
                   clear H
                   have H := H1
                   clear H1
                   exact absurd H (by simp)
              ·rw [if_neg c100] at H
               exact absurd H (by simp)
             ·rw [if_neg c99] at H
              exact absurd H (by simp)
            ·rw [if_neg c98] at H
             have c98b0 : decide (x10_4 < (l0_0.length : Int)) = false := decide_eq_false c98
             clear c98
             by_cases c135 : t371 = true
             ·subst c135
              have H1 : ((disk_Crash.f l0_0 l0_1 x8_3).bind fun bt404 => ((R2_Same.f k4 bt404.1 bt404.2 t381 t384).bind fun t410 => (if t410 = true then ((disk_Flush.f t381 t384).bind fun bt411 => ((R2_Same.f k4 bt411.1 bt411.2 t381 t384).bind fun t417 => (if t417 = true then ((disk_Crash.f t381 t384 l1).bind fun bt418 => ((R2_Same.f k4 bt418.1 bt418.2 t381 t384).bind fun t424 => (some t424))) else (none)))) else (none)))) = some r := by rw [if_pos rfl] at H; exact H
              clear H
              have H := H1
              clear H1
              replace H := Option.bind_eq_some_iff.mp H
              obtain ⟨⟨t404, t407⟩, A1360, H⟩ := H
              replace H : ((R2_Same.f k4 t404 t407 t381 t384).bind fun t410 => (if t410 = true then ((disk_Flush.f t381 t384).bind fun bt411 => ((R2_Same.f k4 bt411.1 bt411.2 t381 t384).bind fun t417 => (if t417 = true then ((disk_Crash.f t381 t384 l1).bind fun bt418 => ((R2_Same.f k4 bt418.1 bt418.2 t381 t384).bind fun t424 => (some t424))) else (none)))) else (none))) = some r := H
              have A136 := Aside0.mk A1360
              clear A1360
              replace H := Option.bind_eq_some_iff.mp H
              obtain ⟨t410, A1370, H⟩ := H
              replace H : (if t410 = true then ((disk_Flush.f t381 t384).bind fun bt411 => ((R2_Same.f k4 bt411.1 bt411.2 t381 t384).bind fun t417 => (if t417 = true then ((disk_Crash.f t381 t384 l1).bind fun bt418 => ((R2_Same.f k4 bt418.1 bt418.2 t381 t384).bind fun t424 => (some t424))) else (none)))) else (none)) = some r := H
              have A137 := Aside0.mk A1370
              clear A1370
              by_cases c138 : t410 = true
              ·subst c138
               have H1 : ((disk_Flush.f t381 t384).bind fun bt411 => ((R2_Same.f k4 bt411.1 bt411.2 t381 t384).bind fun t417 => (if t417 = true then ((disk_Crash.f t381 t384 l1).bind fun bt418 => ((R2_Same.f k4 bt418.1 bt418.2 t381 t384).bind fun t424 => (some t424))) else (none)))) = some r := by rw [if_pos rfl] at H; exact H
               clear H
               have H := H1
               clear H1
               replace H := Option.bind_eq_some_iff.mp H
               obtain ⟨⟨t411, t414⟩, A1390, H⟩ := H
               replace H : ((R2_Same.f k4 t411 t414 t381 t384).bind fun t417 => (if t417 = true then ((disk_Crash.f t381 t384 l1).bind fun bt418 => ((R2_Same.f k4 bt418.1 bt418.2 t381 t384).bind fun t424 => (some t424))) else (none))) = some r := H
               have A139 := Aside0.mk A1390
               clear A1390
               replace H := Option.bind_eq_some_iff.mp H
               obtain ⟨t417, A1400, H⟩ := H
               replace H : (if t417 = true then ((disk_Crash.f t381 t384 l1).bind fun bt418 => ((R2_Same.f k4 bt418.1 bt418.2 t381 t384).bind fun t424 => (some t424))) else (none)) = some r := H
               have A140 := Aside0.mk A1400
               clear A1400
               by_cases c141 : t417 = true
               ·subst c141
                have H1 : ((disk_Crash.f t381 t384 l1).bind fun bt418 => ((R2_Same.f k4 bt418.1 bt418.2 t381 t384).bind fun t424 => (some t424))) = some r := by rw [if_pos rfl] at H; exact H
                clear H
                have H := H1
                clear H1
                replace H := Option.bind_eq_some_iff.mp H
                obtain ⟨⟨t418, t421⟩, A1420, H⟩ := H
                replace H : ((R2_Same.f k4 t418 t421 t381 t384).bind fun t424 => (some t424)) = some r := H
                have A142 := Aside0.mk A1420
                clear A1420
                replace H := Option.bind_eq_some_iff.mp H
                obtain ⟨t424, A1430, H⟩ := H
                replace H : (some t424) = some r := H
                have A143 := Aside0.mk A1430
                clear A1430
                obtain rfl := Option.some.inj H
                have hnb144 := NB370_380.out
                have hnc144 := NB380_370.out
                have hnb145 := NB370_387.out
                have hnc145 := NB387_370.out
                have hcz146_0 : wr.cell? ⟨gb370, 0, none⟩ = some (.slice A0_0 l0_0.length c0_0) := (blk_cell BK370.out 0).trans rfl
                have hcz146_1 : wr.cell? ⟨gb370, 1, none⟩ = some (.slice A0_1 l0_1.length c0_1) := (blk_cell BK370.out 1).trans rfl
                have hfz146_0 := blk_frozen BK370.out 0
                have hfz146_1 := blk_frozen BK370.out 1
                try go_wp2
                have n0_ := Aside0.mk (Kd.R_drew HO_8.out)
                have n1_ := Aside0.mk (Kd.R_drew HO_381000.out)
                have n2_ := Aside0.mk (Kd.R_drew HO_381001.out)
                have n3_ := Aside0.mk (Kd.R_drew HO_388000.out)
                have n4_ := Aside0.mk (Kd.R_drew HO_388001.out)
                have n5_ := Aside0.mk (blk_drew BK370.out)
                have n6_ := Aside0.mk (blk_drew BK380.out)
                have n7_ := Aside0.mk (blk_drew BK387.out)
                have n8_ := Aside0.mk (below_drew1 HB.out)
                clear HO_8
                clear HO_381000
                clear HO_381001
                clear HO_388000
                clear HO_388001
                clear BK370
                clear BK380
                clear BK387
                clear HB
                have HO_8 := n0_
                have HO_381000 := n1_
                have HO_381001 := n2_
                have HO_388000 := n3_
                have HO_388001 := n4_
                have BK370 := n5_
                have BK380 := n6_
                have BK387 := n7_
                have HB := n8_
                clear n0_ n1_ n2_ n3_ n4_ n5_ n6_ n7_ n8_
                obtain ⟨Ao148, co148, eo148⟩ := Kd.R_slice HO_8.out
                (first | subst eo148 | (injection eo148 with f1_ f2_ f3_; have f4_ := f1_.symm; have f5_ := f3_.symm; clear f1_ f2_ f3_; subst f4_; subst f5_))
                refine start_ (n := 22) (S := fun w' => w'.cell? ⟨gb370, 0, none⟩ = some (.slice A0_0 l0_0.length c0_0) ∧ w'.cell? ⟨gb370, 1, none⟩ = some (.slice A0_1 l0_1.length c0_1) ∧ w'.cell? ⟨gb387, 0, none⟩ = some (.slice Ao35 t381.length co35) ∧ w'.cell? ⟨gb387, 1, none⟩ = some (.slice Ao39 t384.length co39)) (ds := []) #[false, false, false, false, false, false, false, false, false, false, false, false, false, false, false, false, false, false, false, false, false, false] (by kernel_rfl) rfl rfl ⟨(blk_cell BK370.out 0).trans rfl, (blk_cell BK370.out 1).trans rfl, (blk_cell BK387.out 0).trans rfl, (blk_cell BK387.out 1).trans rfl⟩ (fun hHeld => ?_); refine with_tabW L2_DiskStays.tab24 L2_DiskStays.bits24 (fun HT_ HW_ => ?_)
                generalize wr.drew = w147 at HO_8 HO_381000 HO_381001 HO_388000 HO_388001 BK370 BK380 BK387 HB hHeld ⊢
                refine pure_ (i := 0) (N := some 153) (v := ?_) (a' := ?_) #[true, false, false, false, false, false, false, false, false, false, false, false, false, false, false, false, false, false, false, false, false, false] rfl rfl (any_of HT_.out (by kernel_rfl)) (fun _ _ _ h => h) (Or.inl ⟨by rfl, ?_⟩) ?_ ?_
                rotate_left
                ·intro w'
                 go_simp
                 with_reducible rfl
                rotate_left
                ·simp only [Act.put, List.setIfInBounds_toArray, List.set_cons_zero, List.set_cons_succ, i64_w, i32_w]
                 rfl
                refine pure_ (i := 1) (N := some 154) (v := ?_) (a' := ?_) #[true, true, false, false, false, false, false, false, false, false, false, false, false, false, false, false, false, false, false, false, false, false] rfl rfl (any_of HT_.out (by kernel_rfl)) (fun _ _ _ h => h) (Or.inl ⟨by rfl, ?_⟩) ?_ ?_
                rotate_left
                ·intro w'
                 go_simp
                 with_reducible rfl
                rotate_left
                ·simp only [Act.put, List.setIfInBounds_toArray, List.set_cons_zero, List.set_cons_succ, i64_w, i32_w]
                 rfl
                refine pure_ (i := 3) (N := some 156) (v := ?_) (a' := ?_) #[true, true, false, true, false, false, false, false, false, false, false, false, false, false, false, false, false, false, false, false, false, false] rfl rfl (any_of HT_.out (by kernel_rfl)) (fun _ _ _ h => h) (Or.inl ⟨by rfl, ?_⟩) ?_ ?_
                rotate_left
                ·intro w'
                 go_simp
                 with_reducible rfl
                rotate_left
                ·simp only [Act.put, List.setIfInBounds_toArray, List.set_cons_zero, List.set_cons_succ, i64_w, i32_w]
                 rfl
                refine take_ (i := 2) (N := some 155) (v := ?_) (a' := ?_) #[true, true, true, true, false, false, false, false, false, false, false, false, false, false, false, false, false, false, false, false, false, false] rfl rfl (take_ofW HT_.out HW_.out (by kernel_rfl)) (fun _ _ _ h => h) (Or.inl ⟨by rfl, ?_⟩) hHeld ?_ ?_
                rotate_left
                ·rintro w' ⟨s0, s1, s2, s3⟩
                 go_simp
                 with_reducible rfl
                rotate_left
                ·simp only [Act.put, List.setIfInBounds_toArray, List.set_cons_zero, List.set_cons_succ, i64_w, i32_w]
                 rfl
                refine take_ (i := 5) (N := some 158) (v := ?_) (a' := ?_) #[true, true, true, true, false, true, false, false, false, false, false, false, false, false, false, false, false, false, false, false, false, false] rfl rfl (take_ofW HT_.out HW_.out (by kernel_rfl)) (fun _ _ _ h => h) (Or.inl ⟨by rfl, ?_⟩) hHeld ?_ ?_
                rotate_left
                ·rintro w' ⟨s0, s1, s2, s3⟩
                 go_simp
                 with_reducible rfl
                rotate_left
                ·simp only [Act.put, List.setIfInBounds_toArray, List.set_cons_zero, List.set_cons_succ, i64_w, i32_w]
                 rfl
                refine one_ (i := 4) (N := some 157) #[true, true, true, true, true, true, false, false, false, false, false, false, false, false, false, false, false, false, false, false, false, false] rfl rfl (one_of HT_.out (by kernel_rfl)) (by decide) (fun K hK => ?_)
                refine goes_ Try.func50 (by kernel_rfl) rfl #[.agg #[.slice A0_0 l0_0.length c0_0, .slice A0_1 l0_1.length c0_1], .slice Ao148 x8_3.length co148] (by rfl) rfl rfl (by (try simp only [List.map_toArray, List.map_cons, List.map_nil]); first | done | rfl | (simp only [List.length_drop, List.length_take]; rfl)) ?_
                with_reducible refine (disk_Crash.calls _ _ l0_0 _ _ l0_1 _ _ x8_3 t404 t407 _ ?side1 ?side2 ?side3 ?side4 ?side5 ?side6 A136.out).mono ?_
                (case side1 => repeat (first | exact (Kd.C_below HR0_0.out HB.out) | (with_reducible refine Kd.C_alloc ?_ _) | (with_reducible refine Kd.C_drewN ?_ _) | (with_reducible refine Kd.C_drew ?_)))
                (case side2 => exact HC0_0.out)
                (case side3 => repeat (first | exact (Kd.C_below HR0_1.out HB.out) | (with_reducible refine Kd.C_alloc ?_ _) | (with_reducible refine Kd.C_drewN ?_ _) | (with_reducible refine Kd.C_drew ?_)))
                (case side4 => exact HC0_1.out)
                (case side5 => repeat (first | exact (Kd.R_reads' HO_8.out).2.2 | (with_reducible refine Kd.C_alloc ?_ _) | (with_reducible refine Kd.C_drewN ?_ _) | (with_reducible refine Kd.C_drew ?_)))
                (case side6 => exact (Kd.R_reads' HO_8.out).2.1)
                rintro e w149 ⟨v405, v408, rfl, ho0, ho1, hb⟩
                refine ⟨_, rfl, ?_⟩
                have n0_ := Aside0.mk (Kd.R_below (by (with_reducible repeat (first | apply Kd.R_alloc | apply Kd.R_drewN | apply Kd.R_drew)); exact HO_8.out) hb)
                have n1_ := Aside0.mk (Kd.R_elder' (by (with_reducible repeat (first | apply Kd.R_alloc | apply Kd.R_drewN | apply Kd.R_drew)); exact HO_381000.out) (Kd.R_base ho0) hb)
                have n2_ := Aside0.mk (Kd.R_elder' (by (with_reducible repeat (first | apply Kd.R_alloc | apply Kd.R_drewN | apply Kd.R_drew)); exact HO_381001.out) (Kd.R_base ho1) hb)
                have n3_ := Aside0.mk (Kd.R_elder' (by (with_reducible repeat (first | apply Kd.R_alloc | apply Kd.R_drewN | apply Kd.R_drew)); exact HO_388000.out) (Kd.R_base ho0) hb)
                have n4_ := Aside0.mk (Kd.R_elder' (by (with_reducible repeat (first | apply Kd.R_alloc | apply Kd.R_drewN | apply Kd.R_drew)); exact HO_388001.out) (Kd.R_base ho1) hb)
                have n5_ := Aside0.mk (Kd.R_lower (Kd.R_new' (Kd.R_new' ho0 (Kd.R_lt (by (with_reducible repeat (first | apply Kd.R_alloc | apply Kd.R_drewN | apply Kd.R_drew)); exact HO_381000.out))) (Kd.R_lt (by (with_reducible repeat (first | apply Kd.R_alloc | apply Kd.R_drewN | apply Kd.R_drew)); exact HO_388000.out))) (below_size (by repeat (first | (with_reducible first | exact HB.out | apply below_alloc | apply pw_below_drewN | apply below_drew1 | refine below_set ?_ GE370.out | refine below_set ?_ GE380.out | refine below_set ?_ GE387.out) | exact HB.out))))
                have n6_ := Aside0.mk (Kd.R_lower (Kd.R_new' (Kd.R_new' ho1 (Kd.R_lt (by (with_reducible repeat (first | apply Kd.R_alloc | apply Kd.R_drewN | apply Kd.R_drew)); exact HO_381001.out))) (Kd.R_lt (by (with_reducible repeat (first | apply Kd.R_alloc | apply Kd.R_drewN | apply Kd.R_drew)); exact HO_388001.out))) (below_size (by repeat (first | (with_reducible first | exact HB.out | apply below_alloc | apply pw_below_drewN | apply below_drew1 | refine below_set ?_ GE370.out | refine below_set ?_ GE380.out | refine below_set ?_ GE387.out) | exact HB.out))))
                have n7_ := Aside0.mk (blk_below (g := gb370) (o := .cells #[.slice A0_0 l0_0.length c0_0, .slice A0_1 l0_1.length c0_1] 63 (0, 0)) (by (with_reducible repeat (first | refine blk_drewN ?_ _ | refine blk_drew ?_ | refine blk_alloc ?_ _)); exact BK370.out) hb)
                have n8_ := Aside0.mk (blk_below (g := gb380) (o := .cells #[.slice Ao28 t374.length co28, .slice Ao31 t377.length co31] 63 (0, 0)) (by (with_reducible repeat (first | refine blk_drewN ?_ _ | refine blk_drew ?_ | refine blk_alloc ?_ _)); exact BK380.out) hb)
                have n9_ := Aside0.mk (blk_below (g := gb387) (o := .cells #[.slice Ao35 t381.length co35, .slice Ao39 t384.length co39] 63 (0, 0)) (by (with_reducible repeat (first | refine blk_drewN ?_ _ | refine blk_drew ?_ | refine blk_alloc ?_ _)); exact BK387.out) hb)
                have n10_ := Aside0.mk (below_step (by repeat (first | (with_reducible first | exact HB.out | apply below_alloc | apply pw_below_drewN | apply below_drew1 | refine below_set ?_ GE370.out | refine below_set ?_ GE380.out | refine below_set ?_ GE387.out) | exact HB.out)) hb)
                clear HO_8
                clear HO_381000
                clear HO_381001
                clear HO_388000
                clear HO_388001
                clear BK370
                clear BK380
                clear BK387
                clear HB
                have HO_8 := n0_
                have HO_381000 := n1_
                have HO_381001 := n2_
                have HO_388000 := n3_
                have HO_388001 := n4_
                have HO406 := n5_
                have HO409 := n6_
                have BK370 := n7_
                have BK380 := n8_
                have BK387 := n9_
                have HB := n10_
                clear n0_ n1_ n2_ n3_ n4_ n5_ n6_ n7_ n8_ n9_ n10_
                (try clear hb)
                (try clear hb2)
                (try clear hk)
                (try clear hi)
                (try clear ho0)
                (try clear ho1)
                obtain ⟨Ao150, co150, eo150⟩ := Kd.R_slice HO406.out
                (first | subst eo150 | (injection eo150 with f1_ f2_ f3_; have f4_ := f1_.symm; have f5_ := f3_.symm; clear f1_ f2_ f3_; subst f4_; subst f5_))
                obtain ⟨Ao151, co151, eo151⟩ := Kd.R_slice HO409.out
                (first | subst eo151 | (injection eo151 with f1_ f2_ f3_; have f4_ := f1_.symm; have f5_ := f3_.symm; clear f1_ f2_ f3_; subst f4_; subst f5_))
                refine hK.out _ _ ⟨(blk_cell BK370.out 0).trans rfl, (blk_cell BK370.out 1).trans rfl, (blk_cell BK387.out 0).trans rfl, (blk_cell BK387.out 1).trans rfl⟩ (fun hHeld => ?_)
                clear hK K
                refine norm_ (a' := ?_) ?_ ?_
                rotate_left
                ·show Act.put _ (some 157) _ = _
                 simp only [Act.put, List.setIfInBounds_toArray, List.set_cons_zero, List.set_cons_succ, i64_w, i32_w]
                 rfl
                refine one_ (i := 6) (N := some 159) #[true, true, true, true, true, true, true, false, false, false, false, false, false, false, false, false, false, false, false, false, false, false] rfl rfl (one_of HT_.out (by kernel_rfl)) (by decide) (fun K hK => ?_)
                refine goes_ Try.func38 (by kernel_rfl) rfl #[.agg #[.slice Ao150 t404.length co150, .slice Ao151 t407.length co151], .agg #[.slice Ao35 t381.length co35, .slice Ao39 t384.length co39]] (by rfl) rfl rfl (by (try simp only [List.map_toArray, List.map_cons, List.map_nil]); first | done | rfl | (simp only [List.length_drop, List.length_take]; rfl)) ?_
                with_reducible refine (R2_Same.calls k4 _ _ t404 _ _ t407 _ _ t381 _ _ t384 true _ ?side1 ?side2 ?side3 ?side4 ?side5 ?side6 ?side7 ?side8 A137.out).mono ?_
                (case side1 => repeat (first | exact (Kd.R_reads' HO406.out).2.2 | (with_reducible refine Kd.C_alloc ?_ _) | (with_reducible refine Kd.C_drewN ?_ _) | (with_reducible refine Kd.C_drew ?_)))
                (case side2 => exact (Kd.R_reads' HO406.out).2.1)
                (case side3 => repeat (first | exact (Kd.R_reads' HO409.out).2.2 | (with_reducible refine Kd.C_alloc ?_ _) | (with_reducible refine Kd.C_drewN ?_ _) | (with_reducible refine Kd.C_drew ?_)))
                (case side4 => exact (Kd.R_reads' HO409.out).2.1)
                (case side5 => repeat (first | exact (Kd.R_reads' HO_388000.out).2.2 | (with_reducible refine Kd.C_alloc ?_ _) | (with_reducible refine Kd.C_drewN ?_ _) | (with_reducible refine Kd.C_drew ?_)))
                (case side6 => exact (Kd.R_reads' HO_388000.out).2.1)
                (case side7 => repeat (first | exact (Kd.R_reads' HO_388001.out).2.2 | (with_reducible refine Kd.C_alloc ?_ _) | (with_reducible refine Kd.C_drewN ?_ _) | (with_reducible refine Kd.C_drew ?_)))
                (case side8 => exact (Kd.R_reads' HO_388001.out).2.1)
                rintro e w152 ⟨rfl, hb⟩
                refine ⟨_, rfl, ?_⟩
                have n0_ := Aside0.mk (Kd.R_below (by (with_reducible repeat (first | apply Kd.R_alloc | apply Kd.R_drewN | apply Kd.R_drew)); exact HO_8.out) hb)
                have n1_ := Aside0.mk (Kd.R_below (by (with_reducible repeat (first | apply Kd.R_alloc | apply Kd.R_drewN | apply Kd.R_drew)); exact HO_381000.out) hb)
                have n2_ := Aside0.mk (Kd.R_below (by (with_reducible repeat (first | apply Kd.R_alloc | apply Kd.R_drewN | apply Kd.R_drew)); exact HO_381001.out) hb)
                have n3_ := Aside0.mk (Kd.R_below (by (with_reducible repeat (first | apply Kd.R_alloc | apply Kd.R_drewN | apply Kd.R_drew)); exact HO_388000.out) hb)
                have n4_ := Aside0.mk (Kd.R_below (by (with_reducible repeat (first | apply Kd.R_alloc | apply Kd.R_drewN | apply Kd.R_drew)); exact HO_388001.out) hb)
                have n5_ := Aside0.mk (Kd.R_below (by (with_reducible repeat (first | apply Kd.R_alloc | apply Kd.R_drewN | apply Kd.R_drew)); exact HO406.out) hb)
                have n6_ := Aside0.mk (Kd.R_below (by (with_reducible repeat (first | apply Kd.R_alloc | apply Kd.R_drewN | apply Kd.R_drew)); exact HO409.out) hb)
                have n7_ := Aside0.mk (blk_below (g := gb370) (o := .cells #[.slice A0_0 l0_0.length c0_0, .slice A0_1 l0_1.length c0_1] 63 (0, 0)) (by (with_reducible repeat (first | refine blk_drewN ?_ _ | refine blk_drew ?_ | refine blk_alloc ?_ _)); exact BK370.out) hb)
                have n8_ := Aside0.mk (blk_below (g := gb380) (o := .cells #[.slice Ao28 t374.length co28, .slice Ao31 t377.length co31] 63 (0, 0)) (by (with_reducible repeat (first | refine blk_drewN ?_ _ | refine blk_drew ?_ | refine blk_alloc ?_ _)); exact BK380.out) hb)
                have n9_ := Aside0.mk (blk_below (g := gb387) (o := .cells #[.slice Ao35 t381.length co35, .slice Ao39 t384.length co39] 63 (0, 0)) (by (with_reducible repeat (first | refine blk_drewN ?_ _ | refine blk_drew ?_ | refine blk_alloc ?_ _)); exact BK387.out) hb)
                have n10_ := Aside0.mk (below_step (by repeat (first | (with_reducible first | exact HB.out | apply below_alloc | apply pw_below_drewN | apply below_drew1 | refine below_set ?_ GE370.out | refine below_set ?_ GE380.out | refine below_set ?_ GE387.out) | exact HB.out)) hb)
                clear HO_8
                clear HO_381000
                clear HO_381001
                clear HO_388000
                clear HO_388001
                clear HO406
                clear HO409
                clear BK370
                clear BK380
                clear BK387
                clear HB
                have HO_8 := n0_
                have HO_381000 := n1_
                have HO_381001 := n2_
                have HO_388000 := n3_
                have HO_388001 := n4_
                have HO406 := n5_
                have HO409 := n6_
                have BK370 := n7_
                have BK380 := n8_
                have BK387 := n9_
                have HB := n10_
                clear n0_ n1_ n2_ n3_ n4_ n5_ n6_ n7_ n8_ n9_ n10_
                (try clear hb)
                (try clear hb2)
                (try clear hk)
                (try clear hi)
                refine hK.out _ _ ⟨(blk_cell BK370.out 0).trans rfl, (blk_cell BK370.out 1).trans rfl, (blk_cell BK387.out 0).trans rfl, (blk_cell BK387.out 1).trans rfl⟩ (fun hHeld => ?_)
                clear hK K
                refine norm_ (a' := ?_) ?_ ?_
                rotate_left
                ·show Act.put _ (some 159) _ = _
                 simp only [Act.put, List.setIfInBounds_toArray, List.set_cons_zero, List.set_cons_succ, i64_w, i32_w]
                 rfl
                refine pure_ (i := 7) (N := some 160) (v := ?_) (a' := ?_) #[true, true, true, true, true, true, true, true, false, false, false, false, false, false, false, false, false, false, false, false, false, false] rfl rfl (any_of HT_.out (by kernel_rfl)) (fun _ _ _ h => h) (Or.inl ⟨by rfl, ?_⟩) ?_ ?_
                rotate_left
                ·intro w'
                 go_simp
                 with_reducible rfl
                rotate_left
                ·simp only [Act.put, List.setIfInBounds_toArray, List.set_cons_zero, List.set_cons_succ, i64_w, i32_w]
                 rfl
                refine pure_ (i := 8) (N := some 161) (v := ?_) (a' := ?_) #[true, true, true, true, true, true, true, true, true, false, false, false, false, false, false, false, false, false, false, false, false, false] rfl rfl (any_of HT_.out (by kernel_rfl)) (fun _ _ _ h => h) (Or.inl ⟨by rfl, ?_⟩) ?_ ?_
                rotate_left
                ·intro w'
                 go_simp
                 with_reducible rfl
                rotate_left
                ·simp only [Act.put, List.setIfInBounds_toArray, List.set_cons_zero, List.set_cons_succ, i64_w, i32_w]
                 rfl
                refine take_ (i := 9) (N := some 162) (v := ?_) (a' := ?_) #[true, true, true, true, true, true, true, true, true, true, false, false, false, false, false, false, false, false, false, false, false, false] rfl rfl (take_ofW HT_.out HW_.out (by kernel_rfl)) (fun _ _ _ h => h) (Or.inl ⟨by rfl, ?_⟩) hHeld ?_ ?_
                rotate_left
                ·rintro w' ⟨s0, s1, s2, s3⟩
                 go_simp
                 with_reducible rfl
                rotate_left
                ·simp only [Act.put, List.setIfInBounds_toArray, List.set_cons_zero, List.set_cons_succ, i64_w, i32_w]
                 rfl
                refine take_ (i := 11) (N := some 164) (v := ?_) (a' := ?_) #[true, true, true, true, true, true, true, true, true, true, false, true, false, false, false, false, false, false, false, false, false, false] rfl rfl (take_ofW HT_.out HW_.out (by kernel_rfl)) (fun _ _ _ h => h) (Or.inl ⟨by rfl, ?_⟩) hHeld ?_ ?_
                rotate_left
                ·rintro w' ⟨s0, s1, s2, s3⟩
                 go_simp
                 with_reducible rfl
                rotate_left
                ·simp only [Act.put, List.setIfInBounds_toArray, List.set_cons_zero, List.set_cons_succ, i64_w, i32_w]
                 rfl
                refine one_ (i := 10) (N := some 163) #[true, true, true, true, true, true, true, true, true, true, true, true, false, false, false, false, false, false, false, false, false, false] rfl rfl (one_of HT_.out (by kernel_rfl)) (by decide) (fun K hK => ?_)
                refine goes_ Try.func48 (by kernel_rfl) rfl #[.agg #[.slice Ao35 t381.length co35, .slice Ao39 t384.length co39]] (by rfl) rfl rfl (by (try simp only [List.map_toArray, List.map_cons, List.map_nil]); first | done | rfl | (simp only [List.length_drop, List.length_take]; rfl)) ?_
                with_reducible refine (disk_Flush.calls _ _ t381 _ _ t384 t411 t414 _ ?side1 ?side2 ?side3 ?side4 A139.out).mono ?_
                (case side1 => repeat (first | exact (Kd.R_reads' HO_388000.out).2.2 | (with_reducible refine Kd.C_alloc ?_ _) | (with_reducible refine Kd.C_drewN ?_ _) | (with_reducible refine Kd.C_drew ?_)))
                (case side2 => exact (Kd.R_reads' HO_388000.out).2.1)
                (case side3 => repeat (first | exact (Kd.R_reads' HO_388001.out).2.2 | (with_reducible refine Kd.C_alloc ?_ _) | (with_reducible refine Kd.C_drewN ?_ _) | (with_reducible refine Kd.C_drew ?_)))
                (case side4 => exact (Kd.R_reads' HO_388001.out).2.1)
                rintro e w153 ⟨v412, v415, rfl, ho0, ho1, hb⟩
                refine ⟨_, rfl, ?_⟩
                have n0_ := Aside0.mk (Kd.R_below (by (with_reducible repeat (first | apply Kd.R_alloc | apply Kd.R_drewN | apply Kd.R_drew)); exact HO_8.out) hb)
                have n1_ := Aside0.mk (Kd.R_elder' (by (with_reducible repeat (first | apply Kd.R_alloc | apply Kd.R_drewN | apply Kd.R_drew)); exact HO_381000.out) (Kd.R_base ho0) hb)
                have n2_ := Aside0.mk (Kd.R_elder' (by (with_reducible repeat (first | apply Kd.R_alloc | apply Kd.R_drewN | apply Kd.R_drew)); exact HO_381001.out) (Kd.R_base ho1) hb)
                have n3_ := Aside0.mk (Kd.R_elder' (by (with_reducible repeat (first | apply Kd.R_alloc | apply Kd.R_drewN | apply Kd.R_drew)); exact HO_388000.out) (Kd.R_base ho0) hb)
                have n4_ := Aside0.mk (Kd.R_elder' (by (with_reducible repeat (first | apply Kd.R_alloc | apply Kd.R_drewN | apply Kd.R_drew)); exact HO_388001.out) (Kd.R_base ho1) hb)
                have n5_ := Aside0.mk (Kd.R_elder' (by (with_reducible repeat (first | apply Kd.R_alloc | apply Kd.R_drewN | apply Kd.R_drew)); exact HO406.out) (Kd.R_base ho0) hb)
                have n6_ := Aside0.mk (Kd.R_elder' (by (with_reducible repeat (first | apply Kd.R_alloc | apply Kd.R_drewN | apply Kd.R_drew)); exact HO409.out) (Kd.R_base ho1) hb)
                have n7_ := Aside0.mk (Kd.R_lower (Kd.R_new' (Kd.R_new' (Kd.R_new' ho0 (Kd.R_lt (by (with_reducible repeat (first | apply Kd.R_alloc | apply Kd.R_drewN | apply Kd.R_drew)); exact HO_381000.out))) (Kd.R_lt (by (with_reducible repeat (first | apply Kd.R_alloc | apply Kd.R_drewN | apply Kd.R_drew)); exact HO_388000.out))) (Kd.R_lt (by (with_reducible repeat (first | apply Kd.R_alloc | apply Kd.R_drewN | apply Kd.R_drew)); exact HO406.out))) (below_size (by repeat (first | (with_reducible first | exact HB.out | apply below_alloc | apply pw_below_drewN | apply below_drew1 | refine below_set ?_ GE370.out | refine below_set ?_ GE380.out | refine below_set ?_ GE387.out) | exact HB.out))))
                have n8_ := Aside0.mk (Kd.R_lower (Kd.R_new' (Kd.R_new' (Kd.R_new' ho1 (Kd.R_lt (by (with_reducible repeat (first | apply Kd.R_alloc | apply Kd.R_drewN | apply Kd.R_drew)); exact HO_381001.out))) (Kd.R_lt (by (with_reducible repeat (first | apply Kd.R_alloc | apply Kd.R_drewN | apply Kd.R_drew)); exact HO_388001.out))) (Kd.R_lt (by (with_reducible repeat (first | apply Kd.R_alloc | apply Kd.R_drewN | apply Kd.R_drew)); exact HO409.out))) (below_size (by repeat (first | (with_reducible first | exact HB.out | apply below_alloc | apply pw_below_drewN | apply below_drew1 | refine below_set ?_ GE370.out | refine below_set ?_ GE380.out | refine below_set ?_ GE387.out) | exact HB.out))))
                have n9_ := Aside0.mk (blk_below (g := gb370) (o := .cells #[.slice A0_0 l0_0.length c0_0, .slice A0_1 l0_1.length c0_1] 63 (0, 0)) (by (with_reducible repeat (first | refine blk_drewN ?_ _ | refine blk_drew ?_ | refine blk_alloc ?_ _)); exact BK370.out) hb)
                have n10_ := Aside0.mk (blk_below (g := gb380) (o := .cells #[.slice Ao28 t374.length co28, .slice Ao31 t377.length co31] 63 (0, 0)) (by (with_reducible repeat (first | refine blk_drewN ?_ _ | refine blk_drew ?_ | refine blk_alloc ?_ _)); exact BK380.out) hb)
                have n11_ := Aside0.mk (blk_below (g := gb387) (o := .cells #[.slice Ao35 t381.length co35, .slice Ao39 t384.length co39] 63 (0, 0)) (by (with_reducible repeat (first | refine blk_drewN ?_ _ | refine blk_drew ?_ | refine blk_alloc ?_ _)); exact BK387.out) hb)
                have n12_ := Aside0.mk (below_step (by repeat (first | (with_reducible first | exact HB.out | apply below_alloc | apply pw_below_drewN | apply below_drew1 | refine below_set ?_ GE370.out | refine below_set ?_ GE380.out | refine below_set ?_ GE387.out) | exact HB.out)) hb)
                clear HO_8
                clear HO_381000
                clear HO_381001
                clear HO_388000
                clear HO_388001
                clear HO406
                clear HO409
                clear BK370
                clear BK380
                clear BK387
                clear HB
                have HO_8 := n0_
                have HO_381000 := n1_
                have HO_381001 := n2_
                have HO_388000 := n3_
                have HO_388001 := n4_
                have HO406 := n5_
                have HO409 := n6_
                have HO413 := n7_
                have HO416 := n8_
                have BK370 := n9_
                have BK380 := n10_
                have BK387 := n11_
                have HB := n12_
                clear n0_ n1_ n2_ n3_ n4_ n5_ n6_ n7_ n8_ n9_ n10_ n11_ n12_
                (try clear hb)
                (try clear hb2)
                (try clear hk)
                (try clear hi)
                (try clear ho0)
                (try clear ho1)
                obtain ⟨Ao154, co154, eo154⟩ := Kd.R_slice HO413.out
                (first | subst eo154 | (injection eo154 with f1_ f2_ f3_; have f4_ := f1_.symm; have f5_ := f3_.symm; clear f1_ f2_ f3_; subst f4_; subst f5_))
                obtain ⟨Ao155, co155, eo155⟩ := Kd.R_slice HO416.out
                (first | subst eo155 | (injection eo155 with f1_ f2_ f3_; have f4_ := f1_.symm; have f5_ := f3_.symm; clear f1_ f2_ f3_; subst f4_; subst f5_))
                refine hK.out _ _ ⟨(blk_cell BK370.out 0).trans rfl, (blk_cell BK370.out 1).trans rfl, (blk_cell BK387.out 0).trans rfl, (blk_cell BK387.out 1).trans rfl⟩ (fun hHeld => ?_)
                clear hK K
                refine norm_ (a' := ?_) ?_ ?_
                rotate_left
                ·show Act.put _ (some 163) _ = _
                 simp only [Act.put, List.setIfInBounds_toArray, List.set_cons_zero, List.set_cons_succ, i64_w, i32_w]
                 rfl
                refine one_ (i := 12) (N := some 165) #[true, true, true, true, true, true, true, true, true, true, true, true, true, false, false, false, false, false, false, false, false, false] rfl rfl (one_of HT_.out (by kernel_rfl)) (by decide) (fun K hK => ?_)
                refine goes_ Try.func38 (by kernel_rfl) rfl #[.agg #[.slice Ao154 t411.length co154, .slice Ao155 t414.length co155], .agg #[.slice Ao35 t381.length co35, .slice Ao39 t384.length co39]] (by rfl) rfl rfl (by (try simp only [List.map_toArray, List.map_cons, List.map_nil]); first | done | rfl | (simp only [List.length_drop, List.length_take]; rfl)) ?_
                with_reducible refine (R2_Same.calls k4 _ _ t411 _ _ t414 _ _ t381 _ _ t384 true _ ?side1 ?side2 ?side3 ?side4 ?side5 ?side6 ?side7 ?side8 A140.out).mono ?_
                (case side1 => repeat (first | exact (Kd.R_reads' HO413.out).2.2 | (with_reducible refine Kd.C_alloc ?_ _) | (with_reducible refine Kd.C_drewN ?_ _) | (with_reducible refine Kd.C_drew ?_)))
                (case side2 => exact (Kd.R_reads' HO413.out).2.1)
                (case side3 => repeat (first | exact (Kd.R_reads' HO416.out).2.2 | (with_reducible refine Kd.C_alloc ?_ _) | (with_reducible refine Kd.C_drewN ?_ _) | (with_reducible refine Kd.C_drew ?_)))
                (case side4 => exact (Kd.R_reads' HO416.out).2.1)
                (case side5 => repeat (first | exact (Kd.R_reads' HO_388000.out).2.2 | (with_reducible refine Kd.C_alloc ?_ _) | (with_reducible refine Kd.C_drewN ?_ _) | (with_reducible refine Kd.C_drew ?_)))
                (case side6 => exact (Kd.R_reads' HO_388000.out).2.1)
                (case side7 => repeat (first | exact (Kd.R_reads' HO_388001.out).2.2 | (with_reducible refine Kd.C_alloc ?_ _) | (with_reducible refine Kd.C_drewN ?_ _) | (with_reducible refine Kd.C_drew ?_)))
                (case side8 => exact (Kd.R_reads' HO_388001.out).2.1)
                rintro e w156 ⟨rfl, hb⟩
                refine ⟨_, rfl, ?_⟩
                have n0_ := Aside0.mk (Kd.R_below (by (with_reducible repeat (first | apply Kd.R_alloc | apply Kd.R_drewN | apply Kd.R_drew)); exact HO_8.out) hb)
                have n1_ := Aside0.mk (Kd.R_below (by (with_reducible repeat (first | apply Kd.R_alloc | apply Kd.R_drewN | apply Kd.R_drew)); exact HO_381000.out) hb)
                have n2_ := Aside0.mk (Kd.R_below (by (with_reducible repeat (first | apply Kd.R_alloc | apply Kd.R_drewN | apply Kd.R_drew)); exact HO_381001.out) hb)
                have n3_ := Aside0.mk (Kd.R_below (by (with_reducible repeat (first | apply Kd.R_alloc | apply Kd.R_drewN | apply Kd.R_drew)); exact HO_388000.out) hb)
                have n4_ := Aside0.mk (Kd.R_below (by (with_reducible repeat (first | apply Kd.R_alloc | apply Kd.R_drewN | apply Kd.R_drew)); exact HO_388001.out) hb)
                have n5_ := Aside0.mk (Kd.R_below (by (with_reducible repeat (first | apply Kd.R_alloc | apply Kd.R_drewN | apply Kd.R_drew)); exact HO406.out) hb)
                have n6_ := Aside0.mk (Kd.R_below (by (with_reducible repeat (first | apply Kd.R_alloc | apply Kd.R_drewN | apply Kd.R_drew)); exact HO409.out) hb)
                have n7_ := Aside0.mk (Kd.R_below (by (with_reducible repeat (first | apply Kd.R_alloc | apply Kd.R_drewN | apply Kd.R_drew)); exact HO413.out) hb)
                have n8_ := Aside0.mk (Kd.R_below (by (with_reducible repeat (first | apply Kd.R_alloc | apply Kd.R_drewN | apply Kd.R_drew)); exact HO416.out) hb)
                have n9_ := Aside0.mk (blk_below (g := gb370) (o := .cells #[.slice A0_0 l0_0.length c0_0, .slice A0_1 l0_1.length c0_1] 63 (0, 0)) (by (with_reducible repeat (first | refine blk_drewN ?_ _ | refine blk_drew ?_ | refine blk_alloc ?_ _)); exact BK370.out) hb)
                have n10_ := Aside0.mk (blk_below (g := gb380) (o := .cells #[.slice Ao28 t374.length co28, .slice Ao31 t377.length co31] 63 (0, 0)) (by (with_reducible repeat (first | refine blk_drewN ?_ _ | refine blk_drew ?_ | refine blk_alloc ?_ _)); exact BK380.out) hb)
                have n11_ := Aside0.mk (blk_below (g := gb387) (o := .cells #[.slice Ao35 t381.length co35, .slice Ao39 t384.length co39] 63 (0, 0)) (by (with_reducible repeat (first | refine blk_drewN ?_ _ | refine blk_drew ?_ | refine blk_alloc ?_ _)); exact BK387.out) hb)
                have n12_ := Aside0.mk (below_step (by repeat (first | (with_reducible first | exact HB.out | apply below_alloc | apply pw_below_drewN | apply below_drew1 | refine below_set ?_ GE370.out | refine below_set ?_ GE380.out | refine below_set ?_ GE387.out) | exact HB.out)) hb)
                clear HO_8
                clear HO_381000
                clear HO_381001
                clear HO_388000
                clear HO_388001
                clear HO406
                clear HO409
                clear HO413
                clear HO416
                clear BK370
                clear BK380
                clear BK387
                clear HB
                have HO_8 := n0_
                have HO_381000 := n1_
                have HO_381001 := n2_
                have HO_388000 := n3_
                have HO_388001 := n4_
                have HO406 := n5_
                have HO409 := n6_
                have HO413 := n7_
                have HO416 := n8_
                have BK370 := n9_
                have BK380 := n10_
                have BK387 := n11_
                have HB := n12_
                clear n0_ n1_ n2_ n3_ n4_ n5_ n6_ n7_ n8_ n9_ n10_ n11_ n12_
                (try clear hb)
                (try clear hb2)
                (try clear hk)
                (try clear hi)
                refine hK.out _ _ ⟨(blk_cell BK370.out 0).trans rfl, (blk_cell BK370.out 1).trans rfl, (blk_cell BK387.out 0).trans rfl, (blk_cell BK387.out 1).trans rfl⟩ (fun hHeld => ?_)
                clear hK K
                refine norm_ (a' := ?_) ?_ ?_
                rotate_left
                ·show Act.put _ (some 165) _ = _
                 simp only [Act.put, List.setIfInBounds_toArray, List.set_cons_zero, List.set_cons_succ, i64_w, i32_w]
                 rfl
                refine pure_ (i := 13) (N := some 166) (v := ?_) (a' := ?_) #[true, true, true, true, true, true, true, true, true, true, true, true, true, true, false, false, false, false, false, false, false, false] rfl rfl (any_of HT_.out (by kernel_rfl)) (fun _ _ _ h => h) (Or.inl ⟨by rfl, ?_⟩) ?_ ?_
                rotate_left
                ·intro w'
                 go_simp
                 with_reducible rfl
                rotate_left
                ·simp only [Act.put, List.setIfInBounds_toArray, List.set_cons_zero, List.set_cons_succ, i64_w, i32_w]
                 rfl
                refine pure_ (i := 14) (N := some 167) (v := ?_) (a' := ?_) #[true, true, true, true, true, true, true, true, true, true, true, true, true, true, true, false, false, false, false, false, false, false] rfl rfl (any_of HT_.out (by kernel_rfl)) (fun _ _ _ h => h) (Or.inl ⟨by rfl, ?_⟩) ?_ ?_
                rotate_left
                ·intro w'
                 go_simp
                 with_reducible rfl
                rotate_left
                ·simp only [Act.put, List.setIfInBounds_toArray, List.set_cons_zero, List.set_cons_succ, i64_w, i32_w]
                 rfl
                refine pure_ (i := 16) (N := some 169) (v := ?_) (a' := ?_) #[true, true, true, true, true, true, true, true, true, true, true, true, true, true, true, false, true, false, false, false, false, false] rfl rfl (any_of HT_.out (by kernel_rfl)) (fun _ _ _ h => h) (Or.inl ⟨by rfl, ?_⟩) ?_ ?_
                rotate_left
                ·intro w'
                 go_simp
                 with_reducible rfl
                rotate_left
                ·simp only [Act.put, List.setIfInBounds_toArray, List.set_cons_zero, List.set_cons_succ, i64_w, i32_w]
                 rfl
                refine take_ (i := 15) (N := some 168) (v := ?_) (a' := ?_) #[true, true, true, true, true, true, true, true, true, true, true, true, true, true, true, true, true, false, false, false, false, false] rfl rfl (take_ofW HT_.out HW_.out (by kernel_rfl)) (fun _ _ _ h => h) (Or.inl ⟨by rfl, ?_⟩) hHeld ?_ ?_
                rotate_left
                ·rintro w' ⟨s0, s1, s2, s3⟩
                 go_simp
                 with_reducible rfl
                rotate_left
                ·simp only [Act.put, List.setIfInBounds_toArray, List.set_cons_zero, List.set_cons_succ, i64_w, i32_w]
                 rfl
                refine take_ (i := 18) (N := some 171) (v := ?_) (a' := ?_) #[true, true, true, true, true, true, true, true, true, true, true, true, true, true, true, true, true, false, true, false, false, false] rfl rfl (take_ofW HT_.out HW_.out (by kernel_rfl)) (fun _ _ _ h => h) (Or.inl ⟨by rfl, ?_⟩) hHeld ?_ ?_
                rotate_left
                ·rintro w' ⟨s0, s1, s2, s3⟩
                 go_simp
                 with_reducible rfl
                rotate_left
                ·simp only [Act.put, List.setIfInBounds_toArray, List.set_cons_zero, List.set_cons_succ, i64_w, i32_w]
                 rfl
                refine one_ (i := 17) (N := some 170) #[true, true, true, true, true, true, true, true, true, true, true, true, true, true, true, true, true, true, true, false, false, false] rfl rfl (one_of HT_.out (by kernel_rfl)) (by decide) (fun K hK => ?_)
                refine goes_ Try.func50 (by kernel_rfl) rfl #[.agg #[.slice Ao35 t381.length co35, .slice Ao39 t384.length co39], .slice A1 l1.length c1] (by rfl) rfl rfl (by (try simp only [List.map_toArray, List.map_cons, List.map_nil]); first | done | rfl | (simp only [List.length_drop, List.length_take]; rfl)) ?_
                with_reducible refine (disk_Crash.calls _ _ t381 _ _ t384 _ _ l1 t418 t421 _ ?side1 ?side2 ?side3 ?side4 ?side5 ?side6 A142.out).mono ?_
                (case side1 => repeat (first | exact (Kd.R_reads' HO_388000.out).2.2 | (with_reducible refine Kd.C_alloc ?_ _) | (with_reducible refine Kd.C_drewN ?_ _) | (with_reducible refine Kd.C_drew ?_)))
                (case side2 => exact (Kd.R_reads' HO_388000.out).2.1)
                (case side3 => repeat (first | exact (Kd.R_reads' HO_388001.out).2.2 | (with_reducible refine Kd.C_alloc ?_ _) | (with_reducible refine Kd.C_drewN ?_ _) | (with_reducible refine Kd.C_drew ?_)))
                (case side4 => exact (Kd.R_reads' HO_388001.out).2.1)
                (case side5 => repeat (first | exact (Kd.C_below HR1.out HB.out) | (with_reducible refine Kd.C_alloc ?_ _) | (with_reducible refine Kd.C_drewN ?_ _) | (with_reducible refine Kd.C_drew ?_)))
                (case side6 => exact HC1.out)
                rintro e w157 ⟨v419, v422, rfl, ho0, ho1, hb⟩
                refine ⟨_, rfl, ?_⟩
                have n0_ := Aside0.mk (Kd.R_below (by (with_reducible repeat (first | apply Kd.R_alloc | apply Kd.R_drewN | apply Kd.R_drew)); exact HO_8.out) hb)
                have n1_ := Aside0.mk (Kd.R_elder' (by (with_reducible repeat (first | apply Kd.R_alloc | apply Kd.R_drewN | apply Kd.R_drew)); exact HO_381000.out) (Kd.R_base ho0) hb)
                have n2_ := Aside0.mk (Kd.R_elder' (by (with_reducible repeat (first | apply Kd.R_alloc | apply Kd.R_drewN | apply Kd.R_drew)); exact HO_381001.out) (Kd.R_base ho1) hb)
                have n3_ := Aside0.mk (Kd.R_elder' (by (with_reducible repeat (first | apply Kd.R_alloc | apply Kd.R_drewN | apply Kd.R_drew)); exact HO_388000.out) (Kd.R_base ho0) hb)
                have n4_ := Aside0.mk (Kd.R_elder' (by (with_reducible repeat (first | apply Kd.R_alloc | apply Kd.R_drewN | apply Kd.R_drew)); exact HO_388001.out) (Kd.R_base ho1) hb)
                have n5_ := Aside0.mk (Kd.R_elder' (by (with_reducible repeat (first | apply Kd.R_alloc | apply Kd.R_drewN | apply Kd.R_drew)); exact HO406.out) (Kd.R_base ho0) hb)
                have n6_ := Aside0.mk (Kd.R_elder' (by (with_reducible repeat (first | apply Kd.R_alloc | apply Kd.R_drewN | apply Kd.R_drew)); exact HO409.out) (Kd.R_base ho1) hb)
                have n7_ := Aside0.mk (Kd.R_elder' (by (with_reducible repeat (first | apply Kd.R_alloc | apply Kd.R_drewN | apply Kd.R_drew)); exact HO413.out) (Kd.R_base ho0) hb)
                have n8_ := Aside0.mk (Kd.R_elder' (by (with_reducible repeat (first | apply Kd.R_alloc | apply Kd.R_drewN | apply Kd.R_drew)); exact HO416.out) (Kd.R_base ho1) hb)
                have n9_ := Aside0.mk (Kd.R_lower (Kd.R_new' (Kd.R_new' (Kd.R_new' (Kd.R_new' ho0 (Kd.R_lt (by (with_reducible repeat (first | apply Kd.R_alloc | apply Kd.R_drewN | apply Kd.R_drew)); exact HO_381000.out))) (Kd.R_lt (by (with_reducible repeat (first | apply Kd.R_alloc | apply Kd.R_drewN | apply Kd.R_drew)); exact HO_388000.out))) (Kd.R_lt (by (with_reducible repeat (first | apply Kd.R_alloc | apply Kd.R_drewN | apply Kd.R_drew)); exact HO406.out))) (Kd.R_lt (by (with_reducible repeat (first | apply Kd.R_alloc | apply Kd.R_drewN | apply Kd.R_drew)); exact HO413.out))) (below_size (by repeat (first | (with_reducible first | exact HB.out | apply below_alloc | apply pw_below_drewN | apply below_drew1 | refine below_set ?_ GE370.out | refine below_set ?_ GE380.out | refine below_set ?_ GE387.out) | exact HB.out))))
                have n10_ := Aside0.mk (Kd.R_lower (Kd.R_new' (Kd.R_new' (Kd.R_new' (Kd.R_new' ho1 (Kd.R_lt (by (with_reducible repeat (first | apply Kd.R_alloc | apply Kd.R_drewN | apply Kd.R_drew)); exact HO_381001.out))) (Kd.R_lt (by (with_reducible repeat (first | apply Kd.R_alloc | apply Kd.R_drewN | apply Kd.R_drew)); exact HO_388001.out))) (Kd.R_lt (by (with_reducible repeat (first | apply Kd.R_alloc | apply Kd.R_drewN | apply Kd.R_drew)); exact HO409.out))) (Kd.R_lt (by (with_reducible repeat (first | apply Kd.R_alloc | apply Kd.R_drewN | apply Kd.R_drew)); exact HO416.out))) (below_size (by repeat (first | (with_reducible first | exact HB.out | apply below_alloc | apply pw_below_drewN | apply below_drew1 | refine below_set ?_ GE370.out | refine below_set ?_ GE380.out | refine below_set ?_ GE387.out) | exact HB.out))))
                have n11_ := Aside0.mk (blk_below (g := gb370) (o := .cells #[.slice A0_0 l0_0.length c0_0, .slice A0_1 l0_1.length c0_1] 63 (0, 0)) (by (with_reducible repeat (first | refine blk_drewN ?_ _ | refine blk_drew ?_ | refine blk_alloc ?_ _)); exact BK370.out) hb)
                have n12_ := Aside0.mk (blk_below (g := gb380) (o := .cells #[.slice Ao28 t374.length co28, .slice Ao31 t377.length co31] 63 (0, 0)) (by (with_reducible repeat (first | refine blk_drewN ?_ _ | refine blk_drew ?_ | refine blk_alloc ?_ _)); exact BK380.out) hb)
                have n13_ := Aside0.mk (blk_below (g := gb387) (o := .cells #[.slice Ao35 t381.length co35, .slice Ao39 t384.length co39] 63 (0, 0)) (by (with_reducible repeat (first | refine blk_drewN ?_ _ | refine blk_drew ?_ | refine blk_alloc ?_ _)); exact BK387.out) hb)
                have n14_ := Aside0.mk (below_step (by repeat (first | (with_reducible first | exact HB.out | apply below_alloc | apply pw_below_drewN | apply below_drew1 | refine below_set ?_ GE370.out | refine below_set ?_ GE380.out | refine below_set ?_ GE387.out) | exact HB.out)) hb)
                clear HO_8
                clear HO_381000
                clear HO_381001
                clear HO_388000
                clear HO_388001
                clear HO406
                clear HO409
                clear HO413
                clear HO416
                clear BK370
                clear BK380
                clear BK387
                clear HB
                have HO_8 := n0_
                have HO_381000 := n1_
                have HO_381001 := n2_
                have HO_388000 := n3_
                have HO_388001 := n4_
                have HO406 := n5_
                have HO409 := n6_
                have HO413 := n7_
                have HO416 := n8_
                have HO420 := n9_
                have HO423 := n10_
                have BK370 := n11_
                have BK380 := n12_
                have BK387 := n13_
                have HB := n14_
                clear n0_ n1_ n2_ n3_ n4_ n5_ n6_ n7_ n8_ n9_ n10_ n11_ n12_ n13_ n14_
                (try clear hb)
                (try clear hb2)
                (try clear hk)
                (try clear hi)
                (try clear ho0)
                (try clear ho1)
                obtain ⟨Ao158, co158, eo158⟩ := Kd.R_slice HO420.out
                (first | subst eo158 | (injection eo158 with f1_ f2_ f3_; have f4_ := f1_.symm; have f5_ := f3_.symm; clear f1_ f2_ f3_; subst f4_; subst f5_))
                obtain ⟨Ao159, co159, eo159⟩ := Kd.R_slice HO423.out
                (first | subst eo159 | (injection eo159 with f1_ f2_ f3_; have f4_ := f1_.symm; have f5_ := f3_.symm; clear f1_ f2_ f3_; subst f4_; subst f5_))
                refine hK.out _ _ ⟨(blk_cell BK370.out 0).trans rfl, (blk_cell BK370.out 1).trans rfl, (blk_cell BK387.out 0).trans rfl, (blk_cell BK387.out 1).trans rfl⟩ (fun hHeld => ?_)
                clear hK K
                refine norm_ (a' := ?_) ?_ ?_
                rotate_left
                ·show Act.put _ (some 170) _ = _
                 simp only [Act.put, List.setIfInBounds_toArray, List.set_cons_zero, List.set_cons_succ, i64_w, i32_w]
                 rfl
                refine one_ (i := 19) (N := some 172) #[true, true, true, true, true, true, true, true, true, true, true, true, true, true, true, true, true, true, true, true, false, false] rfl rfl (one_of HT_.out (by kernel_rfl)) (by decide) (fun K hK => ?_)
                refine goes_ Try.func38 (by kernel_rfl) rfl #[.agg #[.slice Ao158 t418.length co158, .slice Ao159 t421.length co159], .agg #[.slice Ao35 t381.length co35, .slice Ao39 t384.length co39]] (by rfl) rfl rfl (by (try simp only [List.map_toArray, List.map_cons, List.map_nil]); first | done | rfl | (simp only [List.length_drop, List.length_take]; rfl)) ?_
                with_reducible refine (R2_Same.calls k4 _ _ t418 _ _ t421 _ _ t381 _ _ t384 t424 _ ?side1 ?side2 ?side3 ?side4 ?side5 ?side6 ?side7 ?side8 A143.out).mono ?_
                (case side1 => repeat (first | exact (Kd.R_reads' HO420.out).2.2 | (with_reducible refine Kd.C_alloc ?_ _) | (with_reducible refine Kd.C_drewN ?_ _) | (with_reducible refine Kd.C_drew ?_)))
                (case side2 => exact (Kd.R_reads' HO420.out).2.1)
                (case side3 => repeat (first | exact (Kd.R_reads' HO423.out).2.2 | (with_reducible refine Kd.C_alloc ?_ _) | (with_reducible refine Kd.C_drewN ?_ _) | (with_reducible refine Kd.C_drew ?_)))
                (case side4 => exact (Kd.R_reads' HO423.out).2.1)
                (case side5 => repeat (first | exact (Kd.R_reads' HO_388000.out).2.2 | (with_reducible refine Kd.C_alloc ?_ _) | (with_reducible refine Kd.C_drewN ?_ _) | (with_reducible refine Kd.C_drew ?_)))
                (case side6 => exact (Kd.R_reads' HO_388000.out).2.1)
                (case side7 => repeat (first | exact (Kd.R_reads' HO_388001.out).2.2 | (with_reducible refine Kd.C_alloc ?_ _) | (with_reducible refine Kd.C_drewN ?_ _) | (with_reducible refine Kd.C_drew ?_)))
                (case side8 => exact (Kd.R_reads' HO_388001.out).2.1)
                rintro e w160 ⟨rfl, hb⟩
                refine ⟨_, rfl, ?_⟩
                have n0_ := Aside0.mk (Kd.R_below (by (with_reducible repeat (first | apply Kd.R_alloc | apply Kd.R_drewN | apply Kd.R_drew)); exact HO_8.out) hb)
                have n1_ := Aside0.mk (Kd.R_below (by (with_reducible repeat (first | apply Kd.R_alloc | apply Kd.R_drewN | apply Kd.R_drew)); exact HO_381000.out) hb)
                have n2_ := Aside0.mk (Kd.R_below (by (with_reducible repeat (first | apply Kd.R_alloc | apply Kd.R_drewN | apply Kd.R_drew)); exact HO_381001.out) hb)
                have n3_ := Aside0.mk (Kd.R_below (by (with_reducible repeat (first | apply Kd.R_alloc | apply Kd.R_drewN | apply Kd.R_drew)); exact HO_388000.out) hb)
                have n4_ := Aside0.mk (Kd.R_below (by (with_reducible repeat (first | apply Kd.R_alloc | apply Kd.R_drewN | apply Kd.R_drew)); exact HO_388001.out) hb)
                have n5_ := Aside0.mk (Kd.R_below (by (with_reducible repeat (first | apply Kd.R_alloc | apply Kd.R_drewN | apply Kd.R_drew)); exact HO406.out) hb)
                have n6_ := Aside0.mk (Kd.R_below (by (with_reducible repeat (first | apply Kd.R_alloc | apply Kd.R_drewN | apply Kd.R_drew)); exact HO409.out) hb)
                have n7_ := Aside0.mk (Kd.R_below (by (with_reducible repeat (first | apply Kd.R_alloc | apply Kd.R_drewN | apply Kd.R_drew)); exact HO413.out) hb)
                have n8_ := Aside0.mk (Kd.R_below (by (with_reducible repeat (first | apply Kd.R_alloc | apply Kd.R_drewN | apply Kd.R_drew)); exact HO416.out) hb)
                have n9_ := Aside0.mk (Kd.R_below (by (with_reducible repeat (first | apply Kd.R_alloc | apply Kd.R_drewN | apply Kd.R_drew)); exact HO420.out) hb)
                have n10_ := Aside0.mk (Kd.R_below (by (with_reducible repeat (first | apply Kd.R_alloc | apply Kd.R_drewN | apply Kd.R_drew)); exact HO423.out) hb)
                have n11_ := Aside0.mk (blk_below (g := gb370) (o := .cells #[.slice A0_0 l0_0.length c0_0, .slice A0_1 l0_1.length c0_1] 63 (0, 0)) (by (with_reducible repeat (first | refine blk_drewN ?_ _ | refine blk_drew ?_ | refine blk_alloc ?_ _)); exact BK370.out) hb)
                have n12_ := Aside0.mk (blk_below (g := gb380) (o := .cells #[.slice Ao28 t374.length co28, .slice Ao31 t377.length co31] 63 (0, 0)) (by (with_reducible repeat (first | refine blk_drewN ?_ _ | refine blk_drew ?_ | refine blk_alloc ?_ _)); exact BK380.out) hb)
                have n13_ := Aside0.mk (blk_below (g := gb387) (o := .cells #[.slice Ao35 t381.length co35, .slice Ao39 t384.length co39] 63 (0, 0)) (by (with_reducible repeat (first | refine blk_drewN ?_ _ | refine blk_drew ?_ | refine blk_alloc ?_ _)); exact BK387.out) hb)
                have n14_ := Aside0.mk (below_step (by repeat (first | (with_reducible first | exact HB.out | apply below_alloc | apply pw_below_drewN | apply below_drew1 | refine below_set ?_ GE370.out | refine below_set ?_ GE380.out | refine below_set ?_ GE387.out) | exact HB.out)) hb)
                clear HO_8
                clear HO_381000
                clear HO_381001
                clear HO_388000
                clear HO_388001
                clear HO406
                clear HO409
                clear HO413
                clear HO416
                clear HO420
                clear HO423
                clear BK370
                clear BK380
                clear BK387
                clear HB
                have HO_8 := n0_
                have HO_381000 := n1_
                have HO_381001 := n2_
                have HO_388000 := n3_
                have HO_388001 := n4_
                have HO406 := n5_
                have HO409 := n6_
                have HO413 := n7_
                have HO416 := n8_
                have HO420 := n9_
                have HO423 := n10_
                have BK370 := n11_
                have BK380 := n12_
                have BK387 := n13_
                have HB := n14_
                clear n0_ n1_ n2_ n3_ n4_ n5_ n6_ n7_ n8_ n9_ n10_ n11_ n12_ n13_ n14_
                (try clear hb)
                (try clear hb2)
                (try clear hk)
                (try clear hi)
                refine hK.out _ _ ⟨(blk_cell BK370.out 0).trans rfl, (blk_cell BK370.out 1).trans rfl, (blk_cell BK387.out 0).trans rfl, (blk_cell BK387.out 1).trans rfl⟩ (fun hHeld => ?_)
                clear hK K
                refine norm_ (a' := ?_) ?_ ?_
                rotate_left
                ·show Act.put _ (some 172) _ = _
                 simp only [Act.put, List.setIfInBounds_toArray, List.set_cons_zero, List.set_cons_succ, i64_w, i32_w]
                 rfl
                refine pure_ (i := 20) (N := some 173) (v := ?_) (a' := ?_) #[true, true, true, true, true, true, true, true, true, true, true, true, true, true, true, true, true, true, true, true, true, false] rfl rfl (any_of HT_.out (by kernel_rfl)) (fun _ _ _ h => h) (Or.inl ⟨by rfl, ?_⟩) ?_ ?_
                rotate_left
                ·intro w'
                 go_simp
                 with_reducible rfl
                rotate_left
                ·simp only [Act.put, List.setIfInBounds_toArray, List.set_cons_zero, List.set_cons_succ, i64_w, i32_w]
                 rfl
                refine pure_ (i := 21) (N := some 4) (v := ?_) (a' := ?_) #[true, true, true, true, true, true, true, true, true, true, true, true, true, true, true, true, true, true, true, true, true, true] rfl rfl (any_of HT_.out (by kernel_rfl)) (fun _ _ _ h => h) (Or.inl ⟨by rfl, ?_⟩) ?_ ?_
                rotate_left
                ·intro w'
                 go_simp
                 with_reducible rfl
                rotate_left
                ·simp only [Act.put, List.setIfInBounds_toArray, List.set_cons_zero, List.set_cons_succ, i64_w, i32_w]
                 rfl
                refine done_ (done_of HT_.out (by kernel_rfl)) ?_
                try go_wp2
                go_ret
                exact ⟨by first | rfl | (simp [errW_none, errW_some] <;> rfl) | (simp [*, errW_none, errW_some] <;> rfl), by repeat (first | (with_reducible first | exact HB.out | apply below_alloc | apply pw_below_drewN | apply below_drew1 | refine below_set ?_ GE370.out | refine below_set ?_ GE380.out | refine below_set ?_ GE387.out) | exact HB.out)⟩
               ·replace c141 := Bool.eq_false_iff.mpr c141
                subst c141
                have H1 : (none) = some r := by rw [if_neg (show ¬ (false = true) by decide)] at H; exact H
                clear H
                have H := H1
                clear H1
                exact absurd H (by simp)
              ·replace c138 := Bool.eq_false_iff.mpr c138
               subst c138
               have H1 : (none) = some r := by rw [if_neg (show ¬ (false = true) by decide)] at H; exact H
               clear H
               have H := H1
               clear H1
               exact absurd H (by simp)
             ·replace c135 := Bool.eq_false_iff.mpr c135
              subst c135
              have H1 : (none) = some r := by rw [if_neg (show ¬ (false = true) by decide)] at H; exact H
              clear H
              have H := H1
              clear H1
              exact absurd H (by simp)
end Go.Proofs.Ytgjjcgemelafaaa.P
