-- By wip/tools/drive.py: the kit's print, with contracts of this session's own among the functions.
import Derived.Test.YtgjjcgemelafaaaPx0
import Derived.Test.YtgjjcgemelafaaaPx25
import Derived.Test.YtgjjcgemelafaaaPx26
namespace Go.Proofs.Ytgjjcgemelafaaa.P
open Go.RowKit Go.Proofs.YtgjjcgemelafaaaW.PrintWords Go.Proofs.YtgjjcgemelafaaaW.PrintLast Go.Proofs.YtgjjcgemelafaaaW.PrintMore
attribute [local go_sem] max2_int min2_int max_two min_two max_three min_three max_four min_four   -- for this text's walks alone
set_option linter.unusedVariables false
set_option linter.unusedSimpArgs false
mutual
def assartref02_Do.l0 : Nat → List (S79) → Int → Int → List ByteArray → List (S79) → Option (List ByteArray × (List (S79)) × Int)
  | 0, _, _, _, _, _ => none
  | k + 1, x1, x2, x8, x284000, x284001 => if x8 < (x1.length : Int) then (if x2 ≥ 0 then (assartref02_Do.j1 k x1 x2 x8 (decide (x8 ≥ x2)) x284000 x284001) else (assartref02_Do.j1 k x1 x2 x8 false x284000 x284001)) else (some (x284000, x284001, (x1.length : Int)))
def assartref02_Do.j1 : Nat → List (S79) → Int → Int → Bool → List ByteArray → List (S79) → Option (List ByteArray × (List (S79)) × Int)
  | 0, _, _, _, _, _, _ => none
  | k + 1, x1, x2, x8, x23, x284000, x284001 => if x23 = true then (some (x284000, x284001, x8)) else (if 0 ≤ x8 then (if x8 < (x1.length : Int) then (if ((rd_T79 x1 x8).f0) = (-1) then (assartref02_Do.j2 k x1 x2 x8 (((rd_T79 x1 x8).f1).toList == ([] : List UInt8)) x284000 x284001) else (assartref02_Do.j2 k x1 x2 x8 false x284000 x284001)) else (none)) else (none))
def assartref02_Do.j2 : Nat → List (S79) → Int → Int → Bool → List ByteArray → List (S79) → Option (List ByteArray × (List (S79)) × Int)
  | 0, _, _, _, _, _, _ => none
  | k + 1, x1, x2, x8, x39, x284000, x284001 => if x39 = true then ((assartref02_Flush.f k x284000 x284001).bind fun bt287 => (assartref02_Do.l0 k x1 x2 (wrap64 (x8 + 1)) bt287.1 bt287.2)) else (if 0 ≤ x8 then (if x8 < (x1.length : Int) then ((assartref02_Put.f x284000 x284001 ((rd_T79 x1 x8).f0) ((rd_T79 x1 x8).f1)).bind fun bt295 => (if bt295.2.2 = 0 then (assartref02_Do.l0 k x1 x2 (wrap64 (x8 + 1)) bt295.1 bt295.2.1) else (some (x284000, x284001, x8)))) else (none)) else (none))
end
def assartref02_Do.f (k : Nat) (l0_0 : List ByteArray) (l0_1 : List (S79)) (l1 : List (S79)) (a2 : Int) : Option (List ByteArray × (List (S79)) × Int) := assartref02_Do.l0 k l1 a2 0 l0_0 l0_1
def assartref02_Do.T8 : Bool × List (List Nat × List Nat) := (true, [([], []), ([], []), ([], []), ([1, 2], [1, 2]), ([3], [3]), ([4], [4]), ([], []), ([], []), ([6, 7], [6, 7]), ([8], [8]), ([9], [9]), ([0, 5, 10], [0, 5, 10]), ([11], [11]), ([12], [12]), ([12], [12]), ([], []), ([15, 13, 11, 0, 1, 2, 3, 4, 5, 6, 7, 8, 9, 10, 11, 12, 13, 15], [13, 15]), ([14, 16, 0, 1, 2, 3, 4, 5, 6, 7, 8, 9, 10, 11, 12, 13, 14, 15, 16], [14])])
def assartref02_Do.B8 : List Nat := [0, 0, 0, 6, 14, 30, 0, 0, 192, 448, 960, 2047, 4095, 8191, 8191, 0, 49151, 131071]
theorem assartref02_Do.tab8 : rtab .any (opsOf Try.f47 8) = assartref02_Do.T8 := by kernel_rfl
theorem assartref02_Do.bits8 : waitsOk assartref02_Do.T8.2 assartref02_Do.B8 = true := by kernel_rfl
set_option maxHeartbeats 8000000 in
set_option maxRecDepth 100000 in
theorem assartref02_Do.calls (k : Nat) (P0_0_ : Nat → Prop) (A0_0 : Option Addr) (c0_0 : Nat) (l0_0 : List ByteArray) (P0_1_ : Nat → Prop) (A0_1 : Option Addr) (c0_1 : Nat) (l0_1 : List (S79)) (A1 : Option Addr) (c1 : Nat) (l1 : List (S79)) (a2 : Int) (r1 : List ByteArray) (r2 : List (S79)) (r3 : Int) (w : World) (hs0_0 : Kd.V Kd.string 9 w w.heap.size (fun k_ => P0_0_ k_) (.slice A0_0 l0_0.length c0_0) l0_0) (hs0_1 : Kd.V k79 79 w w.heap.size (fun k_ => P0_1_ k_) (.slice A0_1 l0_1.length c0_1) l0_1) (hr1 : Kd.C k79 w A1 l1.length l1) (hc1 : l1.length ≤ c1) (h : assartref02_Do.f k l0_0 l0_1 l1 a2 = some (r1, r2, r3)) :
    Calls Try.prog 47 #[.agg #[.slice A0_0 l0_0.length c0_0, .slice A0_1 l0_1.length c0_1], .slice A1 l1.length c1, .int .i64 a2] w fun e w' => ∃ v0_ v1_ : Value, e = .returned (.tuple #[.agg #[v0_, v1_], .int .i64 r3]) ∧ Kd.V Kd.string 9 w' w.heap.size (fun k_ => ((P0_0_ k_ ∨ P0_1_ k_) ∨ w.heap.size ≤ k_)) v0_ r1 ∧ Kd.V k79 79 w' w.heap.size (fun k_ => ((P0_0_ k_ ∨ P0_1_ k_) ∨ w.heap.size ≤ k_)) v1_ r2 ∧ Below w.heap.size w w' := by
  have hu63 := Try.underlying63
  have HO0_0 := Aside0.mk (show Kd.V Kd.string 9 w w.heap.size (fun k_ => ((P0_0_ k_ ∨ P0_1_ k_) ∨ w.heap.size ≤ k_)) (.slice A0_0 l0_0.length c0_0) l0_0 from Kd.V_mono hs0_0 (fun k_ hk => .inl (.inl hk)))
  have HO0_1 := Aside0.mk (show Kd.V k79 79 w w.heap.size (fun k_ => ((P0_0_ k_ ∨ P0_1_ k_) ∨ w.heap.size ≤ k_)) (.slice A0_1 l0_1.length c0_1) l0_1 from Kd.V_mono hs0_1 (fun k_ hk => .inl (.inr hk)))
  have HR1 := Aside0.mk hr1
  have HC1 := Aside0.mk hc1
  clear hr1 hc1
  have HB := Aside0.mk (Below.refl w.heap.size w)
  have H : (assartref02_Do.l0 k l1 a2 0 l0_0 l0_1) = some (r1, r2, r3) := h
  clear h
  have H' := Aside0.mk H
  clear H
  go_enter Try.func47, Try.ntmps47
  go_wp2_with (first | ((with_reducible refine gate_dst (N := 3) rfl ?_); refine box_event ?hg (N := 3) ?hd (cs := #[.slice A0_0 l0_0.length c0_0, .slice A0_1 l0_1.length c0_1]) (t := 63) ?hr ?_; (case hd => rfl); (case hg => rfl); (case hr => first | (go_simp; done) | (go_simp; rfl)); intro gb283 hg w4 hbox hb; have n0_ := Aside0.mk (Kd.V_below (Kd.V_elderB (by (with_reducible repeat (first | apply Kd.V_alloc | apply Kd.V_drewN | apply Kd.V_drew)); exact HO0_0.out) gb283 (Nat.le_of_eq hg.symm)) hb); have n1_ := Aside0.mk (Kd.V_below (Kd.V_elderB (by (with_reducible repeat (first | apply Kd.V_alloc | apply Kd.V_drewN | apply Kd.V_drew)); exact HO0_1.out) gb283 (Nat.le_of_eq hg.symm)) hb); have n2_ := Aside0.mk (below_step (by repeat (first | (with_reducible first | exact HB.out | apply below_alloc | apply pw_below_drewN | apply below_drew1) | exact HB.out)) hb); have n3_ := Aside0.mk (hbox); have n4_ := Aside0.mk ((by rw [hg]; exact (below_size (by repeat (first | (with_reducible first | exact HB.out | apply below_alloc | apply pw_below_drewN | apply below_drew1) | exact HB.out))) : w.heap.size ≤ gb283)); have n5_ := Aside0.mk ((by rw [hg]; exact (below_size (by repeat (first | (with_reducible first | exact HB.out | apply below_alloc | apply pw_below_drewN | apply below_drew1) | exact HB.out))) : w.heap.size ≤ gb283)); clear HO0_0; clear HO0_1; clear HB; have HO0_0 := n0_; have HO0_1 := n1_; have HB := n2_; have BK283 := n3_; have GW283 := n4_; have GE283 := n5_; clear n0_ n1_ n2_ n3_ n4_ n5_; clear hb hbox hg) | ((with_reducible refine gate_dst (N := 6) rfl ?_); refine box_event ?hg (N := 6) ?hd (cs := #[.slice none 0 0, .slice none 0 0]) (t := 63) ?hr ?_; (case hd => rfl); (case hg => rfl); (case hr => first | (go_simp; done) | (go_simp; rfl)); intro gb284 hg w5 hbox hb; have n0_ := Aside0.mk (Kd.V_below (Kd.V_elderB (by (with_reducible repeat (first | apply Kd.V_alloc | apply Kd.V_drewN | apply Kd.V_drew)); exact HO0_0.out) gb284 (Nat.le_of_eq hg.symm)) hb); have n1_ := Aside0.mk (Kd.V_below (Kd.V_elderB (by (with_reducible repeat (first | apply Kd.V_alloc | apply Kd.V_drewN | apply Kd.V_drew)); exact HO0_1.out) gb284 (Nat.le_of_eq hg.symm)) hb); have n2_ := Aside0.mk (blk_below (g := gb283) (o := .cells #[.slice A0_0 l0_0.length c0_0, .slice A0_1 l0_1.length c0_1] 63 (0, 0)) (by (with_reducible repeat (first | refine blk_drewN ?_ _ | refine blk_drew ?_ | refine blk_alloc ?_ _)); exact BK283.out) hb); have n3_ := Aside0.mk (below_step (by repeat (first | (with_reducible first | exact HB.out | apply below_alloc | apply pw_below_drewN | apply below_drew1 | refine below_set ?_ GE283.out) | exact HB.out)) hb); have n4_ := Aside0.mk (hbox); have n5_ := Aside0.mk ((by rw [hg]; exact (below_size (by repeat (first | (with_reducible first | exact HB.out | apply below_alloc | apply pw_below_drewN | apply below_drew1 | refine below_set ?_ GE283.out) | exact HB.out))) : w.heap.size ≤ gb284)); have n6_ := Aside0.mk ((by rw [hg]; exact (below_size (by repeat (first | (with_reducible first | exact HB.out | apply below_alloc | apply pw_below_drewN | apply below_drew1 | refine below_set ?_ GE283.out) | exact HB.out))) : w.heap.size ≤ gb284)); have n7_ := Aside0.mk ((by rw [hg]; exact Nat.ne_of_lt (blk_lt (g := gb283) (o := .cells #[.slice A0_0 l0_0.length c0_0, .slice A0_1 l0_1.length c0_1] 63 (0, 0)) (by (with_reducible repeat (first | refine blk_drewN ?_ _ | refine blk_drew ?_ | refine blk_alloc ?_ _)); exact BK283.out)) : gb283 ≠ gb284)); have n8_ := Aside0.mk ((by rw [hg]; exact Nat.ne_of_gt (blk_lt (g := gb283) (o := .cells #[.slice A0_0 l0_0.length c0_0, .slice A0_1 l0_1.length c0_1] 63 (0, 0)) (by (with_reducible repeat (first | refine blk_drewN ?_ _ | refine blk_drew ?_ | refine blk_alloc ?_ _)); exact BK283.out)) : gb284 ≠ gb283)); clear HO0_0; clear HO0_1; clear BK283; clear HB; have HO0_0 := n0_; have HO0_1 := n1_; have BK283 := n2_; have HB := n3_; have BK284 := n4_; have GW284 := n5_; have GE284 := n6_; have NB283_284 := n7_; have NB284_283 := n8_; clear n0_ n1_ n2_ n3_ n4_ n5_ n6_ n7_ n8_; clear hb hbox hg))
  go_loopg [8] k (fun kq v8 w' => ∃ (x8_1 : Int) (x284000_1 : List ByteArray) (x284001_1 : List (S79)) (u284000 : Value) (u284001 : Value), v8 = .int .i64 x8_1 ∧ Aside0 (assartref02_Do.l0 kq l1 a2 x8_1 x284000_1 x284001_1 = some (r1, r2, r3)) ∧ Aside0 (kq ≤ k) ∧ Aside0 (Kd.V Kd.string 9 w' w.heap.size (fun k_ => ((P0_0_ k_ ∨ P0_1_ k_) ∨ w.heap.size ≤ k_) ∧ k_ ≠ gb283 ∧ k_ ≠ gb284) u284000 x284000_1) ∧ Aside0 (Kd.V k79 79 w' w.heap.size (fun k_ => ((P0_0_ k_ ∨ P0_1_ k_) ∨ w.heap.size ≤ k_) ∧ k_ ≠ gb283 ∧ k_ ≠ gb284) u284001 x284001_1) ∧ Aside0 (w'.heap[gb283]? = some (.cells #[u284000, u284001] 63 (0, 0))) ∧ Aside0 (w'.heap[gb284]? = some (.cells #[(.slice none 0 0), (.slice none 0 0)] 63 (0, 0))) ∧ Aside0 (Below w.heap.size w w'))
  case atStart => exact ⟨(0), (l0_0), (l0_1), (.slice A0_0 l0_0.length c0_0), (.slice A0_1 l0_1.length c0_1), (by first | rfl | (simp; done) | (simp [*]; done)), H', ⟨Nat.le_refl _⟩, ⟨by (with_reducible repeat (first | apply Kd.V_alloc | apply Kd.V_drewN | apply Kd.V_drew)); exact Kd.V_mono HO0_0.out (fun _ hk => ⟨hk.1.1, ⟨hk.1.2, hk.2⟩⟩)⟩, ⟨by (with_reducible repeat (first | apply Kd.V_alloc | apply Kd.V_drewN | apply Kd.V_drew)); exact Kd.V_mono HO0_1.out (fun _ hk => ⟨hk.1.1, ⟨hk.1.2, hk.2⟩⟩)⟩, ⟨by (with_reducible repeat (first | refine blk_drewN ?_ _ | refine blk_drew ?_ | refine blk_alloc ?_ _)); exact BK283.out⟩, ⟨by (with_reducible repeat (first | refine blk_drewN ?_ _ | refine blk_drew ?_ | refine blk_alloc ?_ _)); exact BK284.out⟩, ⟨by repeat (first | (with_reducible first | exact HB.out | apply below_alloc | apply pw_below_drewN | apply below_drew1 | refine below_set ?_ GE283.out | refine below_set ?_ GE284.out) | exact HB.out)⟩⟩
  case round =>
    clear H'
    try clear c1
    try clear p2
    try clear c4
    obtain ⟨x8_1, x284000_1, x284001_1, u284000, u284001, rfl, HA, HK1, HO_284000, HO_284001, BK283, BK284, HB⟩ := hrel
    cases gk with
    | zero => exact absurd HA.out (by simp [assartref02_Do.l0])
    | succ k1 =>
      have H := HA.out
      clear HA
      simp only [assartref02_Do.l0] at H
      by_cases c6 : x8_1 < (l1.length : Int)
      · rw [if_pos c6] at H
        have c6b0 : decide (x8_1 < (l1.length : Int)) = true := decide_eq_true c6
        clear c6
        have HC7 := Aside0.mk H
        clear H
        go_upto_region 4 with (fail)
        go_cut [23] (fun v23 wc => ∃ (kq : Nat) (x23_6 : Bool), v23 = .bool x23_6 ∧ Aside0 (assartref02_Do.j1 kq l1 a2 x8_1 x23_6 x284000_1 x284001_1 = some (r1, r2, r3)) ∧ Aside0 (kq ≤ k1) ∧ Aside0 (Kd.V Kd.string 9 wc w.heap.size (fun k_ => ((P0_0_ k_ ∨ P0_1_ k_) ∨ w.heap.size ≤ k_) ∧ k_ ≠ gb283 ∧ k_ ≠ gb284) u284000 x284000_1) ∧ Aside0 (Kd.V k79 79 wc w.heap.size (fun k_ => ((P0_0_ k_ ∨ P0_1_ k_) ∨ w.heap.size ≤ k_) ∧ k_ ≠ gb283 ∧ k_ ≠ gb284) u284001 x284001_1) ∧ Aside0 (wc.heap[gb283]? = some (.cells #[u284000, u284001] 63 (0, 0))) ∧ Aside0 (wc.heap[gb284]? = some (.cells #[(.slice none 0 0), (.slice none 0 0)] 63 (0, 0))) ∧ Aside0 (Below w.heap.size w wc))
        case first =>
          have H := HC7.out
          clear HC7
          by_cases c8 : a2 ≥ 0
          · rw [if_pos c8] at H
            have c8b0 : decide (0 ≤ a2) = true := decide_eq_true c8
            clear c8
            (first | rw [c8b0] | (simp only [i64_w, i32_w]; rw [c8b0]) | skip)
            have H' := Aside0.mk H
            clear H
            go_wp2
            go_meet
            case rel => exact ⟨_, (decide (x8_1 ≥ a2)), (by first | rfl | (simp; done) | (simp [*]; done)), H', ⟨by have := HK1.out; first | omega | exact Nat.le_refl _⟩, ⟨by (with_reducible repeat (first | apply Kd.V_alloc | apply Kd.V_drewN | apply Kd.V_drew)); exact HO_284000.out⟩, ⟨by (with_reducible repeat (first | apply Kd.V_alloc | apply Kd.V_drewN | apply Kd.V_drew)); exact HO_284001.out⟩, ⟨by (with_reducible repeat (first | refine blk_drewN ?_ _ | refine blk_drew ?_ | refine blk_alloc ?_ _)); exact BK283.out⟩, ⟨by (with_reducible repeat (first | refine blk_drewN ?_ _ | refine blk_drew ?_ | refine blk_alloc ?_ _)); exact BK284.out⟩, ⟨by repeat (first | (with_reducible first | exact HB.out | apply below_alloc | apply pw_below_drewN | apply below_drew1 | refine below_set ?_ GE283.out | refine below_set ?_ GE284.out) | exact HB.out)⟩⟩
          · rw [if_neg c8] at H
            have c8b0 : decide (0 ≤ a2) = false := decide_eq_false c8
            clear c8
            (first | rw [c8b0] | (simp only [i64_w, i32_w]; rw [c8b0]) | skip)
            have H' := Aside0.mk H
            clear H
            go_wp2
            go_meet
            case rel => exact ⟨_, (false), (by first | rfl | (simp; done) | (simp [*]; done)), H', ⟨by have := HK1.out; first | omega | exact Nat.le_refl _⟩, ⟨by (with_reducible repeat (first | apply Kd.V_alloc | apply Kd.V_drewN | apply Kd.V_drew)); exact HO_284000.out⟩, ⟨by (with_reducible repeat (first | apply Kd.V_alloc | apply Kd.V_drewN | apply Kd.V_drew)); exact HO_284001.out⟩, ⟨by (with_reducible repeat (first | refine blk_drewN ?_ _ | refine blk_drew ?_ | refine blk_alloc ?_ _)); exact BK283.out⟩, ⟨by (with_reducible repeat (first | refine blk_drewN ?_ _ | refine blk_drew ?_ | refine blk_alloc ?_ _)); exact BK284.out⟩, ⟨by repeat (first | (with_reducible first | exact HB.out | apply below_alloc | apply pw_below_drewN | apply below_drew1 | refine below_set ?_ GE283.out | refine below_set ?_ GE284.out) | exact HB.out)⟩⟩
        case rest =>
          clear HC7
          try clear c1
          try clear p2
          try clear c4
          try clear c6
          try clear c6b0
          try clear c8
          try clear c8b0
          try clear p2
          obtain ⟨kq, x23_6, rfl, HA, HJ6, HO_284000, HO_284001, BK283, BK284, HB⟩ := hcut
          cases kq with
          | zero => exact absurd HA.out (by simp [assartref02_Do.j1])
          | succ kj6 =>
            have H := HA.out
            clear HA
            simp only [assartref02_Do.j1] at H
            by_cases c9 : x23_6 = true
            · subst c9
              have H1 : (some (x284000_1, x284001_1, x8_1)) = some (r1, r2, r3) := by rw [if_pos rfl] at H; exact H
              clear H
              have H := H1
              clear H1
              simp only [Option.some.injEq, Prod.mk.injEq] at H
              obtain ⟨rfl, rfl, rfl⟩ := H
              have hnb10 := NB283_284.out
              have hnc10 := NB284_283.out
              have hcz11_0 : wc.cell? ⟨gb283, 0, none⟩ = some (u284000) := (blk_cell BK283.out 0).trans rfl
              have hcz11_1 : wc.cell? ⟨gb283, 1, none⟩ = some (u284001) := (blk_cell BK283.out 1).trans rfl
              have hfz11_0 := blk_frozen BK283.out 0
              have hfz11_1 := blk_frozen BK283.out 1
              obtain ⟨Ao12, co12, eo12⟩ := Kd.V_slice HO_284000.out
              subst eo12
              have hcz13_0 : wc.cell? ⟨gb284, 0, none⟩ = some (.slice none 0 0) := (blk_cell BK284.out 0).trans rfl
              have hcz13_1 : wc.cell? ⟨gb284, 1, none⟩ = some (.slice none 0 0) := (blk_cell BK284.out 1).trans rfl
              have hfz13_0 := blk_frozen BK284.out 0
              have hfz13_1 := blk_frozen BK284.out 1
              obtain ⟨Ao14, co14, eo14⟩ := Kd.V_slice HO_284001.out
              subst eo14
              go_wp2
              refine bodyPost_ret (results_ct rfl _ _ gb284 63 #[.slice Ao12 x284000_1.length co12, .slice Ao14 x284001_1.length co14] (0, 0) _ rfl (by (with_reducible repeat (first | refine blk_drewN ?_ _ | refine blk_drew ?_ | refine blk_alloc ?_ _)); refine blk_put (cs := #[.slice Ao12 x284000_1.length co12, .slice none 0 0]) ?_ 1 _ rfl; (with_reducible repeat (first | refine blk_drewN ?_ _ | refine blk_drew ?_ | refine blk_alloc ?_ _)); refine blk_put (cs := #[.slice none 0 0, .slice none 0 0]) ?_ 0 _ rfl; (with_reducible repeat (first | refine blk_drewN ?_ _ | refine blk_drew ?_ | refine blk_alloc ?_ _)); exact BK284.out) Try.underlying63 rfl (by kernel_rfl)) rfl ?_
              exact ⟨_, _, by first | rfl | (simp [errW_none, errW_some] <;> rfl) | (simp [*, errW_none, errW_some] <;> rfl), by (with_reducible repeat (first | apply Kd.V_alloc | apply Kd.V_drewN | apply Kd.V_drew)); exact Kd.V_mono (Kd.V_far (p := ⟨gb284, 1, none⟩) (Kd.V_far (p := ⟨gb284, 0, none⟩) (Kd.V_mono HO_284000.out (fun k_ hk => (⟨hk, hk.2.2⟩ : _ ∧ k_ ≠ gb284))) (fun _ hk => hk.2) (.slice Ao12 x284000_1.length co12)) (fun _ hk => hk.2) (.slice Ao14 x284001_1.length co14)) (fun _ hk => hk.1.1), by (with_reducible repeat (first | apply Kd.V_alloc | apply Kd.V_drewN | apply Kd.V_drew)); exact Kd.V_mono (Kd.V_far (p := ⟨gb284, 1, none⟩) (Kd.V_far (p := ⟨gb284, 0, none⟩) (Kd.V_mono HO_284001.out (fun k_ hk => (⟨hk, hk.2.2⟩ : _ ∧ k_ ≠ gb284))) (fun _ hk => hk.2) (.slice Ao12 x284000_1.length co12)) (fun _ hk => hk.2) (.slice Ao14 x284001_1.length co14)) (fun _ hk => hk.1.1), by repeat (first | (with_reducible first | exact HB.out | apply below_alloc | apply pw_below_drewN | apply below_drew1 | refine below_set ?_ GE283.out | refine below_set ?_ GE284.out) | exact HB.out)⟩
            · replace c9 := Bool.eq_false_iff.mpr c9
              subst c9
              have H1 : (if 0 ≤ x8_1 then (if x8_1 < (l1.length : Int) then (if ((rd_T79 l1 x8_1).f0) = (-1) then (assartref02_Do.j2 kj6 l1 a2 x8_1 (((rd_T79 l1 x8_1).f1).toList == ([] : List UInt8)) x284000_1 x284001_1) else (assartref02_Do.j2 kj6 l1 a2 x8_1 false x284000_1 x284001_1)) else (none)) else (none)) = some (r1, r2, r3) := by rw [if_neg (show ¬ (false = true) by decide)] at H; exact H
              clear H
              have H := H1
              clear H1
              have HC15 := Aside0.mk H
              clear H
              go_upto_region 6 with (fail)
              go_cut [39] (fun v39 wc => ∃ (kq : Nat) (x39_14 : Bool), v39 = .bool x39_14 ∧ Aside0 (assartref02_Do.j2 kq l1 a2 x8_1 x39_14 x284000_1 x284001_1 = some (r1, r2, r3)) ∧ Aside0 (kq ≤ kj6) ∧ Aside0 (Kd.V Kd.string 9 wc w.heap.size (fun k_ => ((P0_0_ k_ ∨ P0_1_ k_) ∨ w.heap.size ≤ k_) ∧ k_ ≠ gb283 ∧ k_ ≠ gb284) u284000 x284000_1) ∧ Aside0 (Kd.V k79 79 wc w.heap.size (fun k_ => ((P0_0_ k_ ∨ P0_1_ k_) ∨ w.heap.size ≤ k_) ∧ k_ ≠ gb283 ∧ k_ ≠ gb284) u284001 x284001_1) ∧ Aside0 (wc.heap[gb283]? = some (.cells #[u284000, u284001] 63 (0, 0))) ∧ Aside0 (wc.heap[gb284]? = some (.cells #[(.slice none 0 0), (.slice none 0 0)] 63 (0, 0))) ∧ Aside0 (Below w.heap.size w wc))
              case first =>
                have H := HC15.out
                clear HC15
                by_cases c16 : 0 ≤ x8_1
                · rw [if_pos c16] at H
                  have c16b0 : decide (0 ≤ x8_1) = true := decide_eq_true c16
                  clear c16
                  (first | rw [c16b0] | (simp only [i64_w, i32_w]; rw [c16b0]) | skip)
                  by_cases c17 : x8_1 < (l1.length : Int)
                  · rw [if_pos c17] at H
                    have c17b0 : decide (x8_1 < (l1.length : Int)) = true := decide_eq_true c17
                    clear c17
                    by_cases c18 : ((rd_T79 l1 x8_1).f0) = (-1)
                    · rw [if_pos c18] at H
                      have c18b0 : (((rd_T79 l1 x8_1).f0) == (-1)) = true := beq_iff_eq.mpr c18
                      have c18b1 : (((rd_T79 l1 x8_1).f0) != (-1)) = false := bne_eq_false_iff_eq.mpr c18
                      clear c18
                      have H' := Aside0.mk H
                      clear H
                      have p285 : 0 ≤ (x8_1 : Int) := of_decide_eq_true (by first | (with_reducible assumption) | assumption)
                      have q285 : x8_1 < (l1.length : Int) := of_decide_eq_true (by first | (with_reducible assumption) | assumption)
                      obtain ⟨ad285, e285, hx285_0, hx285_1⟩ := at_T79 HR1.out x8_1 p285 q285
                      cases e285
                      replace hx285_0 := (HB.out.cell (World.block_lt_of_cell? w _ hx285_0)).trans hx285_0
                      replace hx285_1 := (HB.out.cell (World.block_lt_of_cell? w _ hx285_1)).trans hx285_1
                      replace p285 := eq_true p285
                      replace q285 := eq_true q285
                      have p286 : 0 ≤ (x8_1 : Int) := of_decide_eq_true (by first | (with_reducible assumption) | assumption)
                      have q286 : x8_1 < (l1.length : Int) := of_decide_eq_true (by first | (with_reducible assumption) | assumption)
                      obtain ⟨ad286, e286, hx286_0, hx286_1⟩ := at_T79 HR1.out x8_1 p286 q286
                      obtain rfl : ad285 = ad286 := (by injection e286)
                      replace hx286_0 := (HB.out.cell (World.block_lt_of_cell? w _ hx286_0)).trans hx286_0
                      replace hx286_1 := (HB.out.cell (World.block_lt_of_cell? w _ hx286_1)).trans hx286_1
                      replace p286 := eq_true p286
                      replace q286 := eq_true q286
                      go_wp2
                      go_meet
                      case rel => exact ⟨_, ((((rd_T79 l1 x8_1).f1).toList == ([] : List UInt8))), (by first | rfl | (simp; done) | (simp [*]; done)), H', ⟨by have := HK1.out; have := HJ6.out; first | omega | exact Nat.le_refl _⟩, ⟨by (with_reducible repeat (first | apply Kd.V_alloc | apply Kd.V_drewN | apply Kd.V_drew)); exact HO_284000.out⟩, ⟨by (with_reducible repeat (first | apply Kd.V_alloc | apply Kd.V_drewN | apply Kd.V_drew)); exact HO_284001.out⟩, ⟨by (with_reducible repeat (first | refine blk_drewN ?_ _ | refine blk_drew ?_ | refine blk_alloc ?_ _)); exact BK283.out⟩, ⟨by (with_reducible repeat (first | refine blk_drewN ?_ _ | refine blk_drew ?_ | refine blk_alloc ?_ _)); exact BK284.out⟩, ⟨by repeat (first | (with_reducible first | exact HB.out | apply below_alloc | apply pw_below_drewN | apply below_drew1 | refine below_set ?_ GE283.out | refine below_set ?_ GE284.out) | exact HB.out)⟩⟩
                    · rw [if_neg c18] at H
                      have c18b0 : (((rd_T79 l1 x8_1).f0) == (-1)) = false := beq_eq_false_iff_ne.mpr c18
                      have c18b1 : (((rd_T79 l1 x8_1).f0) != (-1)) = true := bne_iff_ne.mpr c18
                      have H' := Aside0.mk H
                      clear H
                      have p285 : 0 ≤ (x8_1 : Int) := of_decide_eq_true (by first | (with_reducible assumption) | assumption)
                      have q285 : x8_1 < (l1.length : Int) := of_decide_eq_true (by first | (with_reducible assumption) | assumption)
                      obtain ⟨ad285, e285, hx285_0, hx285_1⟩ := at_T79 HR1.out x8_1 p285 q285
                      cases e285
                      replace hx285_0 := (HB.out.cell (World.block_lt_of_cell? w _ hx285_0)).trans hx285_0
                      replace hx285_1 := (HB.out.cell (World.block_lt_of_cell? w _ hx285_1)).trans hx285_1
                      replace p285 := eq_true p285
                      replace q285 := eq_true q285
                      go_wp2
                      go_meet
                      case rel => exact ⟨_, (false), (by first | rfl | (simp; done) | (simp [*]; done)), H', ⟨by have := HK1.out; have := HJ6.out; first | omega | exact Nat.le_refl _⟩, ⟨by (with_reducible repeat (first | apply Kd.V_alloc | apply Kd.V_drewN | apply Kd.V_drew)); exact HO_284000.out⟩, ⟨by (with_reducible repeat (first | apply Kd.V_alloc | apply Kd.V_drewN | apply Kd.V_drew)); exact HO_284001.out⟩, ⟨by (with_reducible repeat (first | refine blk_drewN ?_ _ | refine blk_drew ?_ | refine blk_alloc ?_ _)); exact BK283.out⟩, ⟨by (with_reducible repeat (first | refine blk_drewN ?_ _ | refine blk_drew ?_ | refine blk_alloc ?_ _)); exact BK284.out⟩, ⟨by repeat (first | (with_reducible first | exact HB.out | apply below_alloc | apply pw_below_drewN | apply below_drew1 | refine below_set ?_ GE283.out | refine below_set ?_ GE284.out) | exact HB.out)⟩⟩
                  · rw [if_neg c17] at H
                    exact absurd H (by simp)
                · rw [if_neg c16] at H
                  exact absurd H (by simp)
              case rest =>
                clear HC15
                try clear c1
                try clear p2
                try clear q2
                try clear hx2
                try clear c4
                try clear c6
                try clear c6b0
                try clear c8
                try clear c8b0
                try clear c9
                try clear c10
                try clear c16
                try clear c16b0
                try clear c17
                try clear c17b0
                try clear c18
                try clear c18b0
                try clear c18b1
                try clear hcz11_0
                try clear hcz11_1
                try clear hcz13_0
                try clear hcz13_1
                try clear hfz11_0
                try clear hfz11_1
                try clear hfz13_0
                try clear hfz13_1
                try clear hx285_0
                try clear hx285_1
                try clear hx286_0
                try clear hx286_1
                try clear p2
                try clear p285
                try clear p286
                try clear q285
                try clear q286
                obtain ⟨kq, x39_14, rfl, HA, HJ14, HO_284000, HO_284001, BK283, BK284, HB⟩ := hcut
                cases kq with
                | zero => exact absurd HA.out (by simp [assartref02_Do.j2])
                | succ kj14 =>
                  have H := HA.out
                  clear HA
                  simp only [assartref02_Do.j2] at H
                  by_cases c19 : x39_14 = true
                  · subst c19
                    have H1 : ((assartref02_Flush.f kj14 x284000_1 x284001_1).bind fun bt287 => (assartref02_Do.l0 kj14 l1 a2 (wrap64 (x8_1 + 1)) bt287.1 bt287.2)) = some (r1, r2, r3) := by rw [if_pos rfl] at H; exact H
                    clear H
                    have H := H1
                    clear H1
                    replace H := Option.bind_eq_some_iff.mp H
                    obtain ⟨⟨t287, t290⟩, A200, H⟩ := H
                    replace H : (assartref02_Do.l0 kj14 l1 a2 (wrap64 (x8_1 + 1)) t287 t290) = some (r1, r2, r3) := H
                    have A20 := Aside0.mk A200
                    clear A200
                    have H' := Aside0.mk H
                    clear H
                    have hnb21 := NB283_284.out
                    have hnc21 := NB284_283.out
                    have hcz22_0 : wc.cell? ⟨gb283, 0, none⟩ = some (u284000) := (blk_cell BK283.out 0).trans rfl
                    have hcz22_1 : wc.cell? ⟨gb283, 1, none⟩ = some (u284001) := (blk_cell BK283.out 1).trans rfl
                    have hfz22_0 := blk_frozen BK283.out 0
                    have hfz22_1 := blk_frozen BK283.out 1
                    obtain ⟨Ao23, co23, eo23⟩ := Kd.V_slice HO_284000.out
                    subst eo23
                    obtain ⟨Ao24, co24, eo24⟩ := Kd.V_slice HO_284001.out
                    subst eo24
                    go_wp2_with (first | ((with_reducible refine gate_callee (f := 49) rfl ?_); refine goesL_ (some 41) rfl rfl Try.func49 (by kernel_rfl) rfl #[.agg #[.slice Ao23 x284000_1.length co23, .slice Ao24 x284001_1.length co24]] rfl (by (try simp only [List.map_toArray, List.map_cons, List.map_nil]); first | done | rfl | (simp only [List.length_drop, List.length_take]; rfl)) ?_; (with_reducible refine (assartref02_Flush.calls kj14 _ _ x284000_1 _ _ x284001_1 t287 t290 _ ?side1 ?side2 ?side3 ?side4 A20.out).mono ?_); (case side1 => repeat (first | exact (Kd.V_reads' HO_284000.out).2.2 | (with_reducible refine Kd.C_alloc ?_ _) | (with_reducible refine Kd.C_drewN ?_ _) | (with_reducible refine Kd.C_drew ?_))); (case side2 => exact (Kd.V_reads' HO_284000.out).2.1); (case side3 => repeat (first | exact (Kd.V_reads' HO_284001.out).2.2 | (with_reducible refine Kd.C_alloc ?_ _) | (with_reducible refine Kd.C_drewN ?_ _) | (with_reducible refine Kd.C_drew ?_))); (case side4 => exact (Kd.V_reads' HO_284001.out).2.1); rintro e w25 ⟨v288, v291, rfl, ho0, ho1, hb⟩; refine ⟨_, rfl, ?_⟩; have n0_ := Aside0.mk (Kd.V_mono (Kd.V_told (Kd.V_told (Kd.V_old (by (with_reducible repeat (first | apply Kd.V_alloc | apply Kd.V_drewN | apply Kd.V_drew)); exact HO_284000.out) hb) (Kd.R_base ho0)) (Kd.R_base ho1)) (fun _ h_ => h_.1)); have n1_ := Aside0.mk (Kd.V_mono (Kd.V_told (Kd.V_told (Kd.V_old (by (with_reducible repeat (first | apply Kd.V_alloc | apply Kd.V_drewN | apply Kd.V_drew)); exact HO_284001.out) hb) (Kd.R_base ho0)) (Kd.R_base ho1)) (fun _ h_ => h_.1)); have n2_ := Aside0.mk (Kd.R_lower (Kd.R_newM (M := fun k_ => (w.heap.size ≤ k_)) ho0 (below_size (by repeat (first | (with_reducible first | exact HB.out | apply below_alloc | apply pw_below_drewN | apply below_drew1 | refine below_set ?_ GE283.out | refine below_set ?_ GE284.out) | exact HB.out))) (fun k_ h_ => h_)) (below_size (by repeat (first | (with_reducible first | exact HB.out | apply below_alloc | apply pw_below_drewN | apply below_drew1 | refine below_set ?_ GE283.out | refine below_set ?_ GE284.out) | exact HB.out)))); have n3_ := Aside0.mk (Kd.R_lower (Kd.R_newM (M := fun k_ => (w.heap.size ≤ k_)) ho1 (below_size (by repeat (first | (with_reducible first | exact HB.out | apply below_alloc | apply pw_below_drewN | apply below_drew1 | refine below_set ?_ GE283.out | refine below_set ?_ GE284.out) | exact HB.out))) (fun k_ h_ => h_)) (below_size (by repeat (first | (with_reducible first | exact HB.out | apply below_alloc | apply pw_below_drewN | apply below_drew1 | refine below_set ?_ GE283.out | refine below_set ?_ GE284.out) | exact HB.out)))); have n4_ := Aside0.mk (blk_below (g := gb283) (o := .cells #[.slice Ao23 x284000_1.length co23, .slice Ao24 x284001_1.length co24] 63 (0, 0)) (by (with_reducible repeat (first | refine blk_drewN ?_ _ | refine blk_drew ?_ | refine blk_alloc ?_ _)); exact BK283.out) hb); have n5_ := Aside0.mk (blk_below (g := gb284) (o := .cells #[.slice none 0 0, .slice none 0 0] 63 (0, 0)) (by (with_reducible repeat (first | refine blk_drewN ?_ _ | refine blk_drew ?_ | refine blk_alloc ?_ _)); exact BK284.out) hb); have n6_ := Aside0.mk (below_step (by repeat (first | (with_reducible first | exact HB.out | apply below_alloc | apply pw_below_drewN | apply below_drew1 | refine below_set ?_ GE283.out | refine below_set ?_ GE284.out) | exact HB.out)) hb); clear HO_284000; clear HO_284001; clear BK283; clear BK284; clear HB; have HO_284000 := n0_; have HO_284001 := n1_; have HO289 := n2_; have HO292 := n3_; have BK283 := n4_; have BK284 := n5_; have HB := n6_; clear n0_ n1_ n2_ n3_ n4_ n5_ n6_; (try clear hb); (try clear hb2); (try clear hk); (try clear hi); (try clear ho0); (try clear ho1); obtain ⟨Ao26, co26, eo26⟩ := Kd.R_slice HO289.out; subst eo26; have hcz27_0 : w25.cell? ⟨gb283, 0, none⟩ = some (.slice Ao23 x284000_1.length co23) := (blk_cell BK283.out 0).trans rfl; have hcz27_1 : w25.cell? ⟨gb283, 1, none⟩ = some (.slice Ao24 x284001_1.length co24) := (blk_cell BK283.out 1).trans rfl; have hfz27_0 := blk_frozen BK283.out 0; have hfz27_1 := blk_frozen BK283.out 1; obtain ⟨Ao28, co28, eo28⟩ := Kd.R_slice HO292.out; subst eo28))
                    go_roundg kj14
                    case measure => have := HK1.out; have := HJ6.out; have := HJ14.out; omega
                    case rel => exact ⟨(wrap64 (x8_1 + 1)), (t287), (t290), (.slice Ao26 t287.length co26), (.slice Ao28 t290.length co28), (by first | rfl | (simp; done) | (simp [*]; done)), H', ⟨by have := HK1.out; have := HJ6.out; have := HJ14.out; omega⟩, ⟨Kd.V_mono (Kd.R_V (by (with_reducible repeat (first | apply Kd.R_alloc | apply Kd.R_drewN | apply Kd.R_drew)); exact Kd.R_far (p := ⟨gb283, 1, none⟩) (Kd.R_far (p := ⟨gb283, 0, none⟩) (Kd.R_types (Kd.R_types (Kd.R_types HO289.out BK283.out (by decide)) BK284.out (by decide)) BK283.out (by decide)) (fun _ hk => hk.2) (.slice Ao26 t287.length co26)) (fun _ hk => hk.2) (.slice Ao28 t290.length co28))) (by intro k_ hk; exact ⟨.inr (hk.1.1.1.1), ⟨hk.1.1.2, hk.1.2⟩⟩)⟩, ⟨Kd.V_mono (Kd.R_V (by (with_reducible repeat (first | apply Kd.R_alloc | apply Kd.R_drewN | apply Kd.R_drew)); exact Kd.R_far (p := ⟨gb283, 1, none⟩) (Kd.R_far (p := ⟨gb283, 0, none⟩) (Kd.R_types (Kd.R_types (Kd.R_types HO292.out BK283.out (by decide)) BK284.out (by decide)) BK283.out (by decide)) (fun _ hk => hk.2) (.slice Ao26 t287.length co26)) (fun _ hk => hk.2) (.slice Ao28 t290.length co28))) (by intro k_ hk; exact ⟨.inr (hk.1.1.1.1), ⟨hk.1.1.2, hk.1.2⟩⟩)⟩, ⟨by (with_reducible repeat (first | refine blk_drewN ?_ _ | refine blk_drew ?_ | refine blk_alloc ?_ _)); refine blk_put (cs := #[.slice Ao26 t287.length co26, .slice Ao24 x284001_1.length co24]) ?_ 1 _ rfl; (with_reducible repeat (first | refine blk_drewN ?_ _ | refine blk_drew ?_ | refine blk_alloc ?_ _)); refine blk_put (cs := #[.slice Ao23 x284000_1.length co23, .slice Ao24 x284001_1.length co24]) ?_ 0 _ rfl; (with_reducible repeat (first | refine blk_drewN ?_ _ | refine blk_drew ?_ | refine blk_alloc ?_ _)); exact BK283.out⟩, ⟨by (with_reducible repeat (first | refine blk_drewN ?_ _ | refine blk_drew ?_ | refine blk_alloc ?_ _)); refine blk_far ?_ NB284_283.out _; (with_reducible repeat (first | refine blk_drewN ?_ _ | refine blk_drew ?_ | refine blk_alloc ?_ _)); refine blk_far ?_ NB284_283.out _; (with_reducible repeat (first | refine blk_drewN ?_ _ | refine blk_drew ?_ | refine blk_alloc ?_ _)); exact BK284.out⟩, ⟨by repeat (first | (with_reducible first | exact HB.out | apply below_alloc | apply pw_below_drewN | apply below_drew1 | refine below_set ?_ GE283.out | refine below_set ?_ GE284.out) | exact HB.out)⟩⟩
                  · replace c19 := Bool.eq_false_iff.mpr c19
                    subst c19
                    have H1 : (if 0 ≤ x8_1 then (if x8_1 < (l1.length : Int) then ((assartref02_Put.f x284000_1 x284001_1 ((rd_T79 l1 x8_1).f0) ((rd_T79 l1 x8_1).f1)).bind fun bt295 => (if bt295.2.2 = 0 then (assartref02_Do.l0 kj14 l1 a2 (wrap64 (x8_1 + 1)) bt295.1 bt295.2.1) else (some (x284000_1, x284001_1, x8_1)))) else (none)) else (none)) = some (r1, r2, r3) := by rw [if_neg (show ¬ (false = true) by decide)] at H; exact H
                    clear H
                    have H := H1
                    clear H1
                    by_cases c29 : 0 ≤ x8_1
                    · rw [if_pos c29] at H
                      have c29b0 : decide (0 ≤ x8_1) = true := decide_eq_true c29
                      clear c29
                      by_cases c30 : x8_1 < (l1.length : Int)
                      · rw [if_pos c30] at H
                        have c30b0 : decide (x8_1 < (l1.length : Int)) = true := decide_eq_true c30
                        clear c30
                        replace H := Option.bind_eq_some_iff.mp H
                        obtain ⟨⟨t295, t298, t301⟩, A310, H⟩ := H
                        replace H : (if t301 = 0 then (assartref02_Do.l0 kj14 l1 a2 (wrap64 (x8_1 + 1)) t295 t298) else (some (x284000_1, x284001_1, x8_1))) = some (r1, r2, r3) := H
                        have A31 := Aside0.mk A310
                        clear A310
                        by_cases c32 : t301 = 0
                        · rw [if_pos c32] at H
                          have c32b0 : (t301 == 0) = true := beq_iff_eq.mpr c32
                          have c32b1 : (t301 != 0) = false := bne_eq_false_iff_eq.mpr c32
                          clear c32
                          have H' := Aside0.mk H
                          clear H
                          obtain ⟨Ao33, co33, eo33⟩ := Kd.V_slice HO_284000.out
                          subst eo33
                          obtain ⟨Ao34, co34, eo34⟩ := Kd.V_slice HO_284001.out
                          subst eo34
                          try go_wp2
                          have n0_ := Aside0.mk (Kd.V_drew HO_284000.out)
                          have n1_ := Aside0.mk (Kd.V_drew HO_284001.out)
                          have n2_ := Aside0.mk (blk_drew BK283.out)
                          have n3_ := Aside0.mk (blk_drew BK284.out)
                          have n4_ := Aside0.mk (below_drew1 HB.out)
                          clear HO_284000
                          clear HO_284001
                          clear BK283
                          clear BK284
                          clear HB
                          have HO_284000 := n0_
                          have HO_284001 := n1_
                          have BK283 := n2_
                          have BK284 := n3_
                          have HB := n4_
                          clear n0_ n1_ n2_ n3_ n4_
                          have p293 : 0 ≤ (x8_1 : Int) := of_decide_eq_true (by first | (with_reducible assumption) | assumption)
                          have q293 : x8_1 < (l1.length : Int) := of_decide_eq_true (by first | (with_reducible assumption) | assumption)
                          obtain ⟨ad293, e293, hx293_0, hx293_1⟩ := at_T79 HR1.out x8_1 p293 q293
                          have hw293_1 := hx293_1
                          have hw293_0 := hx293_0
                          cases e293
                          replace hx293_0 := (HB.out.cell (World.block_lt_of_cell? w _ hx293_0)).trans hx293_0
                          replace hx293_1 := (HB.out.cell (World.block_lt_of_cell? w _ hx293_1)).trans hx293_1
                          replace p293 := eq_true p293
                          replace q293 := eq_true q293
                          have p294 : 0 ≤ (x8_1 : Int) := of_decide_eq_true (by first | (with_reducible assumption) | assumption)
                          have q294 : x8_1 < (l1.length : Int) := of_decide_eq_true (by first | (with_reducible assumption) | assumption)
                          obtain ⟨ad294, e294, hx294_0, hx294_1⟩ := at_T79 HR1.out x8_1 p294 q294
                          have hw294_1 := hx294_1
                          have hw294_0 := hx294_0
                          obtain rfl : ad293 = ad294 := (by injection e294)
                          replace hx294_0 := (HB.out.cell (World.block_lt_of_cell? w _ hx294_0)).trans hx294_0
                          replace hx294_1 := (HB.out.cell (World.block_lt_of_cell? w _ hx294_1)).trans hx294_1
                          replace p294 := eq_true p294
                          replace q294 := eq_true q294
                          refine start_ (n := 18) (S := fun w' => w'.cell? ⟨gb283, 0, none⟩ = some (.slice Ao33 x284000_1.length co33) ∧ w'.cell? ⟨gb283, 1, none⟩ = some (.slice Ao34 x284001_1.length co34) ∧ w'.cell? (ad293.add ((x8_1).toNat * 2)) = some (.int .i64 ((rd_T79 l1 x8_1).f0)) ∧ w'.cell? ⟨(ad293.add ((x8_1).toNat * 2)).block, (ad293.add ((x8_1).toNat * 2)).off + 1, none⟩ = some (.string ((rd_T79 l1 x8_1).f1)) ∧ w'.cell? (ad293.add ((x8_1).toNat * 2)) = some (.int .i64 ((rd_T79 l1 x8_1).f0)) ∧ w'.cell? ⟨(ad293.add ((x8_1).toNat * 2)).block, (ad293.add ((x8_1).toNat * 2)).off + 1, none⟩ = some (.string ((rd_T79 l1 x8_1).f1))) (ds := []) #[false, false, false, false, false, false, false, false, false, false, false, false, false, false, false, false, false, false] (by kernel_rfl) rfl rfl ⟨(blk_cell BK283.out 0).trans rfl, (blk_cell BK283.out 1).trans rfl, ((HB.out.cell (World.block_lt_of_cell? w _ hw293_0)).trans hw293_0), ((HB.out.cell (World.block_lt_of_cell? w _ hw293_1)).trans hw293_1), ((HB.out.cell (World.block_lt_of_cell? w _ hw294_0)).trans hw294_0), ((HB.out.cell (World.block_lt_of_cell? w _ hw294_1)).trans hw294_1)⟩ (fun hHeld => ?_); refine with_tabW assartref02_Do.tab8 assartref02_Do.bits8 (fun HT_ HW_ => ?_)
                          generalize wc.drew = w35 at HO_284000 HO_284001 BK283 BK284 HB hx293_0 hx293_1 hx294_0 hx294_1 hHeld ⊢
                          refine pure_ (i := 1) (N := some 44) (v := ?_) (a' := ?_) #[false, true, false, false, false, false, false, false, false, false, false, false, false, false, false, false, false, false] rfl rfl (any_of HT_.out (by kernel_rfl)) (fun _ _ _ h => h) (Or.inl ⟨by rfl, ?_⟩) ?_ ?_
                          rotate_left
                          · intro w'
                            go_simp
                            with_reducible rfl
                          rotate_left
                          · simp only [Act.put, List.setIfInBounds_toArray, List.set_cons_zero, List.set_cons_succ, i64_w, i32_w]
                            rfl
                          refine pure_ (i := 2) (N := some 45) (v := ?_) (a' := ?_) #[false, true, true, false, false, false, false, false, false, false, false, false, false, false, false, false, false, false] rfl rfl (any_of HT_.out (by kernel_rfl)) (fun _ _ _ h => h) (Or.inl ⟨by rfl, ?_⟩) ?_ ?_
                          rotate_left
                          · intro w'
                            go_simp
                            with_reducible rfl
                          rotate_left
                          · simp only [Act.put, List.setIfInBounds_toArray, List.set_cons_zero, List.set_cons_succ, i64_w, i32_w]
                            rfl
                          refine pure_ (i := 3) (N := some 46) (v := ?_) (a' := ?_) #[false, true, true, true, false, false, false, false, false, false, false, false, false, false, false, false, false, false] rfl rfl (any_of HT_.out (by kernel_rfl)) (fun _ _ _ h => h) (Or.inl ⟨by rfl, ?_⟩) ?_ ?_
                          rotate_left
                          · intro w'
                            go_simp
                            with_reducible rfl
                          rotate_left
                          · simp only [Act.put, List.setIfInBounds_toArray, List.set_cons_zero, List.set_cons_succ, i64_w, i32_w]
                            rfl
                          refine pure_ (i := 4) (N := some 47) (v := ?_) (a' := ?_) #[false, true, true, true, true, false, false, false, false, false, false, false, false, false, false, false, false, false] rfl rfl (any_of HT_.out (by kernel_rfl)) (fun _ _ _ h => h) (Or.inl ⟨by rfl, ?_⟩) ?_ ?_
                          rotate_left
                          · intro w'
                            go_simp
                            with_reducible rfl
                          rotate_left
                          · simp only [Act.put, List.setIfInBounds_toArray, List.set_cons_zero, List.set_cons_succ, i64_w, i32_w]
                            rfl
                          refine pure_ (i := 6) (N := some 49) (v := ?_) (a' := ?_) #[false, true, true, true, true, false, true, false, false, false, false, false, false, false, false, false, false, false] rfl rfl (any_of HT_.out (by kernel_rfl)) (fun _ _ _ h => h) (Or.inl ⟨by rfl, ?_⟩) ?_ ?_
                          rotate_left
                          · intro w'
                            go_simp
                            with_reducible rfl
                          rotate_left
                          · simp only [Act.put, List.setIfInBounds_toArray, List.set_cons_zero, List.set_cons_succ, i64_w, i32_w]
                            rfl
                          refine pure_ (i := 7) (N := some 50) (v := ?_) (a' := ?_) #[false, true, true, true, true, false, true, true, false, false, false, false, false, false, false, false, false, false] rfl rfl (any_of HT_.out (by kernel_rfl)) (fun _ _ _ h => h) (Or.inl ⟨by rfl, ?_⟩) ?_ ?_
                          rotate_left
                          · intro w'
                            go_simp
                            with_reducible rfl
                          rotate_left
                          · simp only [Act.put, List.setIfInBounds_toArray, List.set_cons_zero, List.set_cons_succ, i64_w, i32_w]
                            rfl
                          refine pure_ (i := 8) (N := some 51) (v := ?_) (a' := ?_) #[false, true, true, true, true, false, true, true, true, false, false, false, false, false, false, false, false, false] rfl rfl (any_of HT_.out (by kernel_rfl)) (fun _ _ _ h => h) (Or.inl ⟨by rfl, ?_⟩) ?_ ?_
                          rotate_left
                          · intro w'
                            go_simp
                            with_reducible rfl
                          rotate_left
                          · simp only [Act.put, List.setIfInBounds_toArray, List.set_cons_zero, List.set_cons_succ, i64_w, i32_w]
                            rfl
                          refine pure_ (i := 9) (N := some 52) (v := ?_) (a' := ?_) #[false, true, true, true, true, false, true, true, true, true, false, false, false, false, false, false, false, false] rfl rfl (any_of HT_.out (by kernel_rfl)) (fun _ _ _ h => h) (Or.inl ⟨by rfl, ?_⟩) ?_ ?_
                          rotate_left
                          · intro w'
                            go_simp
                            with_reducible rfl
                          rotate_left
                          · simp only [Act.put, List.setIfInBounds_toArray, List.set_cons_zero, List.set_cons_succ, i64_w, i32_w]
                            rfl
                          refine take_ (i := 0) (N := some 43) (v := ?_) (a' := ?_) #[true, true, true, true, true, false, true, true, true, true, false, false, false, false, false, false, false, false] rfl rfl (take_ofW HT_.out HW_.out (by kernel_rfl)) (fun _ _ _ h => h) (Or.inl ⟨by rfl, ?_⟩) hHeld ?_ ?_
                          rotate_left
                          · rintro w' ⟨s0, s1, s2, s3, s4, s5⟩
                            go_simp
                            with_reducible rfl
                          rotate_left
                          · simp only [Act.put, List.setIfInBounds_toArray, List.set_cons_zero, List.set_cons_succ, i64_w, i32_w]
                            rfl
                          refine take_ (i := 5) (N := some 48) (v := ?_) (a' := ?_) #[true, true, true, true, true, true, true, true, true, true, false, false, false, false, false, false, false, false] rfl rfl (take_ofW HT_.out HW_.out (by kernel_rfl)) (fun _ _ _ h => h) (Or.inl ⟨by rfl, ?_⟩) hHeld ?_ ?_
                          rotate_left
                          · rintro w' ⟨s0, s1, s2, s3, s4, s5⟩
                            go_simp
                            with_reducible rfl
                          rotate_left
                          · simp only [Act.put, List.setIfInBounds_toArray, List.set_cons_zero, List.set_cons_succ, i64_w, i32_w]
                            rfl
                          refine take_ (i := 10) (N := some 53) (v := ?_) (a' := ?_) #[true, true, true, true, true, true, true, true, true, true, true, false, false, false, false, false, false, false] rfl rfl (take_ofW HT_.out HW_.out (by kernel_rfl)) (fun _ _ _ h => h) (Or.inl ⟨by rfl, ?_⟩) hHeld ?_ ?_
                          rotate_left
                          · rintro w' ⟨s0, s1, s2, s3, s4, s5⟩
                            go_simp
                            with_reducible rfl
                          rotate_left
                          · simp only [Act.put, List.setIfInBounds_toArray, List.set_cons_zero, List.set_cons_succ, i64_w, i32_w]
                            rfl
                          refine join_ (σ := Value × Value × Nat) 2 #[true, true, true, true, true, true, true, true, true, true, true, true, true, true, true, true, false, false] (fun s_ => [(54, .tuple #[.agg #[s_.1, s_.2.1], .int .i64 t301]), (9, .pointer (some ⟨s_.2.2, 0, none⟩)), (42, .tuple #[.agg #[s_.1, s_.2.1], .int .i64 t301]), (55, .agg #[s_.1, s_.2.1]), (56, .int .i64 t301)]) (fun s_ w' => (w'.cell? ⟨gb283, 0, none⟩ = some (.slice Ao33 x284000_1.length co33) ∧ w'.cell? ⟨gb283, 1, none⟩ = some (.slice Ao34 x284001_1.length co34) ∧ w'.cell? (ad293.add ((x8_1).toNat * 2)) = some (.int .i64 ((rd_T79 l1 x8_1).f0)) ∧ w'.cell? ⟨(ad293.add ((x8_1).toNat * 2)).block, (ad293.add ((x8_1).toNat * 2)).off + 1, none⟩ = some (.string ((rd_T79 l1 x8_1).f1)) ∧ w'.cell? (ad293.add ((x8_1).toNat * 2)) = some (.int .i64 ((rd_T79 l1 x8_1).f0)) ∧ w'.cell? ⟨(ad293.add ((x8_1).toNat * 2)).block, (ad293.add ((x8_1).toNat * 2)).off + 1, none⟩ = some (.string ((rd_T79 l1 x8_1).f1))) ∧ (Kd.V Kd.string 9 w' w.heap.size (fun k_ => ((P0_0_ k_ ∨ P0_1_ k_) ∨ w.heap.size ≤ k_) ∧ k_ ≠ gb283 ∧ k_ ≠ gb284 ∧ k_ ≠ s_.2.2) s_.1 t295) ∧ (Kd.V k79 79 w' w.heap.size (fun k_ => ((P0_0_ k_ ∨ P0_1_ k_) ∨ w.heap.size ≤ k_) ∧ k_ ≠ gb283 ∧ k_ ≠ gb284 ∧ k_ ≠ s_.2.2) s_.2.1 t298) ∧ (Kd.V Kd.string 9 w' w.heap.size (fun k_ => ((P0_0_ k_ ∨ P0_1_ k_) ∨ w.heap.size ≤ k_) ∧ k_ ≠ gb283 ∧ k_ ≠ gb284 ∧ k_ ≠ s_.2.2) (.slice Ao33 x284000_1.length co33) x284000_1) ∧ (Kd.V k79 79 w' w.heap.size (fun k_ => ((P0_0_ k_ ∨ P0_1_ k_) ∨ w.heap.size ≤ k_) ∧ k_ ≠ gb283 ∧ k_ ≠ gb284 ∧ k_ ≠ s_.2.2) (.slice Ao34 x284001_1.length co34) x284001_1) ∧ (w'.heap[gb283]? = some (.cells #[.slice Ao33 x284000_1.length co33, .slice Ao34 x284001_1.length co34] 63 (0, 0))) ∧ (w'.heap[gb284]? = some (.cells #[.slice none 0 0, .slice none 0 0] 63 (0, 0))) ∧ (w'.heap[s_.2.2]? = some (.cells #[.slice none 0 0, .slice none 0 0] 63 (0, 0))) ∧ (w.heap.size ≤ s_.2.2) ∧ (w.heap.size ≤ s_.2.2) ∧ (gb283 ≠ s_.2.2) ∧ (s_.2.2 ≠ gb283) ∧ (gb284 ≠ s_.2.2) ∧ (s_.2.2 ≠ gb284) ∧ (Below w.heap.size w w')) ?_ ?_
                          rotate_left
                          · intro hCont
                            refine two_ (i := 11) (j := 15) (Ni := some 54) (Nj := some 9) #[true, true, true, true, true, true, true, true, true, true, true, true, false, false, false, false, false, false] #[true, true, true, true, true, true, true, true, true, true, true, false, false, false, false, true, false, false] rfl rfl rfl rfl (two_of HT_.out (by kernel_rfl)) (by decide) (by decide) (fun K hK => ?_) (fun K hK => ?_)
                            · skip
                              refine goes_ Try.func45 (by kernel_rfl) rfl #[.agg #[.slice Ao33 x284000_1.length co33, .slice Ao34 x284001_1.length co34], .int .i64 ((rd_T79 l1 x8_1).f0), .string ((rd_T79 l1 x8_1).f1)] (by rfl) rfl rfl (by (try simp only [List.map_toArray, List.map_cons, List.map_nil]); first | done | rfl | (simp only [List.length_drop, List.length_take]; rfl)) ?_
                              with_reducible refine (assartref02_Put.calls (fun k_ => (((P0_0_ k_ ∨ P0_1_ k_) ∨ w.heap.size ≤ k_) ∧ (k_ ≠ gb283 ∧ k_ ≠ gb284))) _ _ x284000_1 (fun k_ => (((P0_0_ k_ ∨ P0_1_ k_) ∨ w.heap.size ≤ k_) ∧ (k_ ≠ gb283 ∧ k_ ≠ gb284))) _ _ x284001_1 ((rd_T79 l1 x8_1).f0) ((rd_T79 l1 x8_1).f1) t295 t298 t301 _ ?side1 ?side2 A31.out).mono ?_
                              (case side1 => exact HO_284000.out)
                              (case side2 => exact HO_284001.out)
                              rintro e w36 ⟨v296, v299, rfl, ho0, ho1, hb⟩
                              refine ⟨_, rfl, ?_⟩
                              have n0_ := Aside0.mk (Kd.V_below (by (with_reducible repeat (first | apply Kd.V_alloc | apply Kd.V_drewN | apply Kd.V_drew)); exact HO_284000.out) hb)
                              have n1_ := Aside0.mk (Kd.V_below (by (with_reducible repeat (first | apply Kd.V_alloc | apply Kd.V_drewN | apply Kd.V_drew)); exact HO_284001.out) hb)
                              have n2_ := Aside0.mk (Kd.V_lower (Kd.V_mono (ok' := fun k_ => ((P0_0_ k_ ∨ P0_1_ k_) ∨ w.heap.size ≤ k_) ∧ k_ ≠ gb283 ∧ k_ ≠ gb284) ho0 (fun k_ hk_ => ⟨Or.elim hk_ (fun hs_ => Or.elim hs_ (fun hs_ => hs_.1) (fun hs_ => hs_.1)) (fun hn_ => (.inr (Nat.le_trans (below_size (by repeat (first | (with_reducible first | exact HB.out | apply below_alloc | apply pw_below_drewN | apply below_drew1 | refine below_set ?_ GE283.out | refine below_set ?_ GE284.out) | exact HB.out))) hn_))), Or.elim hk_ (fun hs_ => Or.elim hs_ (fun hs_ => hs_.2.1) (fun hs_ => hs_.2.1)) (fun hn_ => (Kd.freshB (g := gb283) (o := .cells #[.slice Ao33 x284000_1.length co33, .slice Ao34 x284001_1.length co34] 63 (0, 0)) (by (with_reducible repeat (first | refine blk_drewN ?_ _ | refine blk_drew ?_ | refine blk_alloc ?_ _)); exact BK283.out) k_ hn_)), Or.elim hk_ (fun hs_ => Or.elim hs_ (fun hs_ => hs_.2.2) (fun hs_ => hs_.2.2)) (fun hn_ => (Kd.freshB (g := gb284) (o := .cells #[.slice none 0 0, .slice none 0 0] 63 (0, 0)) (by (with_reducible repeat (first | refine blk_drewN ?_ _ | refine blk_drew ?_ | refine blk_alloc ?_ _)); exact BK284.out) k_ hn_))⟩)) (below_size (by repeat (first | (with_reducible first | exact HB.out | apply below_alloc | apply pw_below_drewN | apply below_drew1 | refine below_set ?_ GE283.out | refine below_set ?_ GE284.out) | exact HB.out))))
                              have n3_ := Aside0.mk (Kd.V_lower (Kd.V_mono (ok' := fun k_ => ((P0_0_ k_ ∨ P0_1_ k_) ∨ w.heap.size ≤ k_) ∧ k_ ≠ gb283 ∧ k_ ≠ gb284) ho1 (fun k_ hk_ => ⟨Or.elim hk_ (fun hs_ => Or.elim hs_ (fun hs_ => hs_.1) (fun hs_ => hs_.1)) (fun hn_ => (.inr (Nat.le_trans (below_size (by repeat (first | (with_reducible first | exact HB.out | apply below_alloc | apply pw_below_drewN | apply below_drew1 | refine below_set ?_ GE283.out | refine below_set ?_ GE284.out) | exact HB.out))) hn_))), Or.elim hk_ (fun hs_ => Or.elim hs_ (fun hs_ => hs_.2.1) (fun hs_ => hs_.2.1)) (fun hn_ => (Kd.freshB (g := gb283) (o := .cells #[.slice Ao33 x284000_1.length co33, .slice Ao34 x284001_1.length co34] 63 (0, 0)) (by (with_reducible repeat (first | refine blk_drewN ?_ _ | refine blk_drew ?_ | refine blk_alloc ?_ _)); exact BK283.out) k_ hn_)), Or.elim hk_ (fun hs_ => Or.elim hs_ (fun hs_ => hs_.2.2) (fun hs_ => hs_.2.2)) (fun hn_ => (Kd.freshB (g := gb284) (o := .cells #[.slice none 0 0, .slice none 0 0] 63 (0, 0)) (by (with_reducible repeat (first | refine blk_drewN ?_ _ | refine blk_drew ?_ | refine blk_alloc ?_ _)); exact BK284.out) k_ hn_))⟩)) (below_size (by repeat (first | (with_reducible first | exact HB.out | apply below_alloc | apply pw_below_drewN | apply below_drew1 | refine below_set ?_ GE283.out | refine below_set ?_ GE284.out) | exact HB.out))))
                              have n4_ := Aside0.mk (blk_below (g := gb283) (o := .cells #[.slice Ao33 x284000_1.length co33, .slice Ao34 x284001_1.length co34] 63 (0, 0)) (by (with_reducible repeat (first | refine blk_drewN ?_ _ | refine blk_drew ?_ | refine blk_alloc ?_ _)); exact BK283.out) hb)
                              have n5_ := Aside0.mk (blk_below (g := gb284) (o := .cells #[.slice none 0 0, .slice none 0 0] 63 (0, 0)) (by (with_reducible repeat (first | refine blk_drewN ?_ _ | refine blk_drew ?_ | refine blk_alloc ?_ _)); exact BK284.out) hb)
                              have n6_ := Aside0.mk (below_step (by repeat (first | (with_reducible first | exact HB.out | apply below_alloc | apply pw_below_drewN | apply below_drew1 | refine below_set ?_ GE283.out | refine below_set ?_ GE284.out) | exact HB.out)) hb)
                              clear HO_284000
                              clear HO_284001
                              clear BK283
                              clear BK284
                              clear HB
                              have HO_284000 := n0_
                              have HO_284001 := n1_
                              have HO297 := n2_
                              have HO300 := n3_
                              have BK283 := n4_
                              have BK284 := n5_
                              have HB := n6_
                              clear n0_ n1_ n2_ n3_ n4_ n5_ n6_
                              (try clear hb)
                              (try clear hb2)
                              (try clear hk)
                              (try clear hi)
                              (try clear ho0)
                              (try clear ho1)
                              refine hK.out _ _ ⟨(blk_cell BK283.out 0).trans rfl, (blk_cell BK283.out 1).trans rfl, ((HB.out.cell (World.block_lt_of_cell? w _ hw293_0)).trans hw293_0), ((HB.out.cell (World.block_lt_of_cell? w _ hw293_1)).trans hw293_1), ((HB.out.cell (World.block_lt_of_cell? w _ hw294_0)).trans hw294_0), ((HB.out.cell (World.block_lt_of_cell? w _ hw294_1)).trans hw294_1)⟩ (fun hHeld => ?_)
                              clear hK K
                              refine norm_ (a' := ?_) ?_ ?_
                              rotate_left
                              · show Act.put _ (some 54) _ = _
                                simp only [Act.put, List.setIfInBounds_toArray, List.set_cons_zero, List.set_cons_succ, i64_w, i32_w]
                                rfl
                              refine pure_ (i := 12) (N := some 42) (v := ?_) (a' := ?_) #[true, true, true, true, true, true, true, true, true, true, true, true, true, false, false, false, false, false] rfl rfl (any_of HT_.out (by kernel_rfl)) (fun _ _ _ h => h) (Or.inl ⟨by rfl, ?_⟩) ?_ ?_
                              rotate_left
                              · intro w'
                                go_simp
                                with_reducible rfl
                              rotate_left
                              · simp only [Act.put, List.setIfInBounds_toArray, List.set_cons_zero, List.set_cons_succ, i64_w, i32_w]
                                rfl
                              refine pure_ (i := 13) (N := some 55) (v := ?_) (a' := ?_) #[true, true, true, true, true, true, true, true, true, true, true, true, true, true, false, false, false, false] rfl rfl (any_of HT_.out (by kernel_rfl)) (fun _ _ _ h => h) (Or.inl ⟨by rfl, ?_⟩) ?_ ?_
                              rotate_left
                              · intro w'
                                go_simp
                                with_reducible rfl
                              rotate_left
                              · simp only [Act.put, List.setIfInBounds_toArray, List.set_cons_zero, List.set_cons_succ, i64_w, i32_w]
                                rfl
                              refine pure_ (i := 14) (N := some 56) (v := ?_) (a' := ?_) #[true, true, true, true, true, true, true, true, true, true, true, true, true, true, true, false, false, false] rfl rfl (any_of HT_.out (by kernel_rfl)) (fun _ _ _ h => h) (Or.inl ⟨by rfl, ?_⟩) ?_ ?_
                              rotate_left
                              · intro w'
                                go_simp
                                with_reducible rfl
                              rotate_left
                              · simp only [Act.put, List.setIfInBounds_toArray, List.set_cons_zero, List.set_cons_succ, i64_w, i32_w]
                                rfl
                              refine one_ (i := 15) (N := some 9) #[true, true, true, true, true, true, true, true, true, true, true, true, true, true, true, true, false, false] rfl rfl (one_of HT_.out (by kernel_rfl)) (by decide) (fun K hK => ?_)
                              refine box_step ?hg (N := 9) ?hd (cs := #[.slice none 0 0, .slice none 0 0]) (t := 63) ?hr ?_; (case hd => rfl); (case hg => rfl); (case hr => first | (go_simp; done) | (go_simp; rfl))
                              intro gb302 hg w37 hbox hb
                              have n0_ := Aside0.mk (Kd.V_below (Kd.V_elderB (by (with_reducible repeat (first | apply Kd.V_alloc | apply Kd.V_drewN | apply Kd.V_drew)); exact HO_284000.out) gb302 (Nat.le_of_eq hg.symm)) hb)
                              have n1_ := Aside0.mk (Kd.V_below (Kd.V_elderB (by (with_reducible repeat (first | apply Kd.V_alloc | apply Kd.V_drewN | apply Kd.V_drew)); exact HO_284001.out) gb302 (Nat.le_of_eq hg.symm)) hb)
                              have n2_ := Aside0.mk (Kd.V_below (Kd.V_elderB (by (with_reducible repeat (first | apply Kd.V_alloc | apply Kd.V_drewN | apply Kd.V_drew)); exact HO297.out) gb302 (Nat.le_of_eq hg.symm)) hb)
                              have n3_ := Aside0.mk (Kd.V_below (Kd.V_elderB (by (with_reducible repeat (first | apply Kd.V_alloc | apply Kd.V_drewN | apply Kd.V_drew)); exact HO300.out) gb302 (Nat.le_of_eq hg.symm)) hb)
                              have n4_ := Aside0.mk (blk_below (g := gb283) (o := .cells #[.slice Ao33 x284000_1.length co33, .slice Ao34 x284001_1.length co34] 63 (0, 0)) (by (with_reducible repeat (first | refine blk_drewN ?_ _ | refine blk_drew ?_ | refine blk_alloc ?_ _)); exact BK283.out) hb)
                              have n5_ := Aside0.mk (blk_below (g := gb284) (o := .cells #[.slice none 0 0, .slice none 0 0] 63 (0, 0)) (by (with_reducible repeat (first | refine blk_drewN ?_ _ | refine blk_drew ?_ | refine blk_alloc ?_ _)); exact BK284.out) hb)
                              have n6_ := Aside0.mk (below_step (by repeat (first | (with_reducible first | exact HB.out | apply below_alloc | apply pw_below_drewN | apply below_drew1 | refine below_set ?_ GE283.out | refine below_set ?_ GE284.out) | exact HB.out)) hb)
                              have n7_ := Aside0.mk (hbox)
                              have n8_ := Aside0.mk ((by rw [hg]; exact (below_size (by repeat (first | (with_reducible first | exact HB.out | apply below_alloc | apply pw_below_drewN | apply below_drew1 | refine below_set ?_ GE283.out | refine below_set ?_ GE284.out) | exact HB.out))) : w.heap.size ≤ gb302))
                              have n9_ := Aside0.mk ((by rw [hg]; exact (below_size (by repeat (first | (with_reducible first | exact HB.out | apply below_alloc | apply pw_below_drewN | apply below_drew1 | refine below_set ?_ GE283.out | refine below_set ?_ GE284.out) | exact HB.out))) : w.heap.size ≤ gb302))
                              have n10_ := Aside0.mk ((by rw [hg]; exact Nat.ne_of_lt (blk_lt (g := gb283) (o := .cells #[.slice Ao33 x284000_1.length co33, .slice Ao34 x284001_1.length co34] 63 (0, 0)) (by (with_reducible repeat (first | refine blk_drewN ?_ _ | refine blk_drew ?_ | refine blk_alloc ?_ _)); exact BK283.out)) : gb283 ≠ gb302))
                              have n11_ := Aside0.mk ((by rw [hg]; exact Nat.ne_of_gt (blk_lt (g := gb283) (o := .cells #[.slice Ao33 x284000_1.length co33, .slice Ao34 x284001_1.length co34] 63 (0, 0)) (by (with_reducible repeat (first | refine blk_drewN ?_ _ | refine blk_drew ?_ | refine blk_alloc ?_ _)); exact BK283.out)) : gb302 ≠ gb283))
                              have n12_ := Aside0.mk ((by rw [hg]; exact Nat.ne_of_lt (blk_lt (g := gb284) (o := .cells #[.slice none 0 0, .slice none 0 0] 63 (0, 0)) (by (with_reducible repeat (first | refine blk_drewN ?_ _ | refine blk_drew ?_ | refine blk_alloc ?_ _)); exact BK284.out)) : gb284 ≠ gb302))
                              have n13_ := Aside0.mk ((by rw [hg]; exact Nat.ne_of_gt (blk_lt (g := gb284) (o := .cells #[.slice none 0 0, .slice none 0 0] 63 (0, 0)) (by (with_reducible repeat (first | refine blk_drewN ?_ _ | refine blk_drew ?_ | refine blk_alloc ?_ _)); exact BK284.out)) : gb302 ≠ gb284))
                              clear HO_284000
                              clear HO_284001
                              clear HO297
                              clear HO300
                              clear BK283
                              clear BK284
                              clear HB
                              have HO_284000 := n0_
                              have HO_284001 := n1_
                              have HO297 := n2_
                              have HO300 := n3_
                              have BK283 := n4_
                              have BK284 := n5_
                              have HB := n6_
                              have BK302 := n7_
                              have GW302 := n8_
                              have GE302 := n9_
                              have NB283_302 := n10_
                              have NB302_283 := n11_
                              have NB284_302 := n12_
                              have NB302_284 := n13_
                              clear n0_ n1_ n2_ n3_ n4_ n5_ n6_ n7_ n8_ n9_ n10_ n11_ n12_ n13_
                              clear hb hbox hg
                              refine hK.out _ _ ⟨(blk_cell BK283.out 0).trans rfl, (blk_cell BK283.out 1).trans rfl, ((HB.out.cell (World.block_lt_of_cell? w _ hw293_0)).trans hw293_0), ((HB.out.cell (World.block_lt_of_cell? w _ hw293_1)).trans hw293_1), ((HB.out.cell (World.block_lt_of_cell? w _ hw294_0)).trans hw294_0), ((HB.out.cell (World.block_lt_of_cell? w _ hw294_1)).trans hw294_1)⟩ (fun hHeld => ?_)
                              clear hK K
                              refine norm_ (a' := ?_) ?_ ?_
                              rotate_left
                              · show Act.put _ (some 9) _ = _
                                simp only [Act.put, List.setIfInBounds_toArray, List.set_cons_zero, List.set_cons_succ, i64_w, i32_w]
                                rfl
                              exact norm_ (by simp only [putAll, Act.put, List.setIfInBounds_toArray, List.set_cons_zero, List.set_cons_succ]) (hCont (v296, v299, gb302) _ ⟨hHeld, (by (with_reducible repeat (first | apply Kd.V_alloc | apply Kd.V_drewN | apply Kd.V_drew)); exact Kd.V_mono HO297.out (fun _ hk => ⟨hk.1.1, ⟨hk.1.2.1, ⟨hk.1.2.2, hk.2⟩⟩⟩)), (by (with_reducible repeat (first | apply Kd.V_alloc | apply Kd.V_drewN | apply Kd.V_drew)); exact Kd.V_mono HO300.out (fun _ hk => ⟨hk.1.1, ⟨hk.1.2.1, ⟨hk.1.2.2, hk.2⟩⟩⟩)), (by (with_reducible repeat (first | apply Kd.V_alloc | apply Kd.V_drewN | apply Kd.V_drew)); exact Kd.V_mono HO_284000.out (fun _ hk => ⟨hk.1.1, ⟨hk.1.2.1, ⟨hk.1.2.2, hk.2⟩⟩⟩)), (by (with_reducible repeat (first | apply Kd.V_alloc | apply Kd.V_drewN | apply Kd.V_drew)); exact Kd.V_mono HO_284001.out (fun _ hk => ⟨hk.1.1, ⟨hk.1.2.1, ⟨hk.1.2.2, hk.2⟩⟩⟩)), (by (with_reducible repeat (first | refine blk_drewN ?_ _ | refine blk_drew ?_ | refine blk_alloc ?_ _)); exact BK283.out), (by (with_reducible repeat (first | refine blk_drewN ?_ _ | refine blk_drew ?_ | refine blk_alloc ?_ _)); exact BK284.out), (by (with_reducible repeat (first | refine blk_drewN ?_ _ | refine blk_drew ?_ | refine blk_alloc ?_ _)); exact BK302.out), GW302.out, GE302.out, NB283_302.out, NB302_283.out, NB284_302.out, NB302_284.out, (by repeat (first | (with_reducible first | exact HB.out | apply below_alloc | apply pw_below_drewN | apply below_drew1 | refine below_set ?_ GE283.out | refine below_set ?_ GE284.out | refine below_set ?_ GE302.out) | exact HB.out))⟩)
                            · skip
                              refine box_step ?hg (N := 9) ?hd (cs := #[.slice none 0 0, .slice none 0 0]) (t := 63) ?hr ?_; (case hd => rfl); (case hg => rfl); (case hr => first | (go_simp; done) | (go_simp; rfl))
                              intro gb302 hg w36 hbox hb
                              have n0_ := Aside0.mk (Kd.V_below (Kd.V_elderB (by (with_reducible repeat (first | apply Kd.V_alloc | apply Kd.V_drewN | apply Kd.V_drew)); exact HO_284000.out) gb302 (Nat.le_of_eq hg.symm)) hb)
                              have n1_ := Aside0.mk (Kd.V_below (Kd.V_elderB (by (with_reducible repeat (first | apply Kd.V_alloc | apply Kd.V_drewN | apply Kd.V_drew)); exact HO_284001.out) gb302 (Nat.le_of_eq hg.symm)) hb)
                              have n2_ := Aside0.mk (blk_below (g := gb283) (o := .cells #[.slice Ao33 x284000_1.length co33, .slice Ao34 x284001_1.length co34] 63 (0, 0)) (by (with_reducible repeat (first | refine blk_drewN ?_ _ | refine blk_drew ?_ | refine blk_alloc ?_ _)); exact BK283.out) hb)
                              have n3_ := Aside0.mk (blk_below (g := gb284) (o := .cells #[.slice none 0 0, .slice none 0 0] 63 (0, 0)) (by (with_reducible repeat (first | refine blk_drewN ?_ _ | refine blk_drew ?_ | refine blk_alloc ?_ _)); exact BK284.out) hb)
                              have n4_ := Aside0.mk (below_step (by repeat (first | (with_reducible first | exact HB.out | apply below_alloc | apply pw_below_drewN | apply below_drew1 | refine below_set ?_ GE283.out | refine below_set ?_ GE284.out) | exact HB.out)) hb)
                              have n5_ := Aside0.mk (hbox)
                              have n6_ := Aside0.mk ((by rw [hg]; exact (below_size (by repeat (first | (with_reducible first | exact HB.out | apply below_alloc | apply pw_below_drewN | apply below_drew1 | refine below_set ?_ GE283.out | refine below_set ?_ GE284.out) | exact HB.out))) : w.heap.size ≤ gb302))
                              have n7_ := Aside0.mk ((by rw [hg]; exact (below_size (by repeat (first | (with_reducible first | exact HB.out | apply below_alloc | apply pw_below_drewN | apply below_drew1 | refine below_set ?_ GE283.out | refine below_set ?_ GE284.out) | exact HB.out))) : w.heap.size ≤ gb302))
                              have n8_ := Aside0.mk ((by rw [hg]; exact Nat.ne_of_lt (blk_lt (g := gb283) (o := .cells #[.slice Ao33 x284000_1.length co33, .slice Ao34 x284001_1.length co34] 63 (0, 0)) (by (with_reducible repeat (first | refine blk_drewN ?_ _ | refine blk_drew ?_ | refine blk_alloc ?_ _)); exact BK283.out)) : gb283 ≠ gb302))
                              have n9_ := Aside0.mk ((by rw [hg]; exact Nat.ne_of_gt (blk_lt (g := gb283) (o := .cells #[.slice Ao33 x284000_1.length co33, .slice Ao34 x284001_1.length co34] 63 (0, 0)) (by (with_reducible repeat (first | refine blk_drewN ?_ _ | refine blk_drew ?_ | refine blk_alloc ?_ _)); exact BK283.out)) : gb302 ≠ gb283))
                              have n10_ := Aside0.mk ((by rw [hg]; exact Nat.ne_of_lt (blk_lt (g := gb284) (o := .cells #[.slice none 0 0, .slice none 0 0] 63 (0, 0)) (by (with_reducible repeat (first | refine blk_drewN ?_ _ | refine blk_drew ?_ | refine blk_alloc ?_ _)); exact BK284.out)) : gb284 ≠ gb302))
                              have n11_ := Aside0.mk ((by rw [hg]; exact Nat.ne_of_gt (blk_lt (g := gb284) (o := .cells #[.slice none 0 0, .slice none 0 0] 63 (0, 0)) (by (with_reducible repeat (first | refine blk_drewN ?_ _ | refine blk_drew ?_ | refine blk_alloc ?_ _)); exact BK284.out)) : gb302 ≠ gb284))
                              clear HO_284000
                              clear HO_284001
                              clear BK283
                              clear BK284
                              clear HB
                              have HO_284000 := n0_
                              have HO_284001 := n1_
                              have BK283 := n2_
                              have BK284 := n3_
                              have HB := n4_
                              have BK302 := n5_
                              have GW302 := n6_
                              have GE302 := n7_
                              have NB283_302 := n8_
                              have NB302_283 := n9_
                              have NB284_302 := n10_
                              have NB302_284 := n11_
                              clear n0_ n1_ n2_ n3_ n4_ n5_ n6_ n7_ n8_ n9_ n10_ n11_
                              clear hb hbox hg
                              refine hK.out _ _ ⟨(blk_cell BK283.out 0).trans rfl, (blk_cell BK283.out 1).trans rfl, ((HB.out.cell (World.block_lt_of_cell? w _ hw293_0)).trans hw293_0), ((HB.out.cell (World.block_lt_of_cell? w _ hw293_1)).trans hw293_1), ((HB.out.cell (World.block_lt_of_cell? w _ hw294_0)).trans hw294_0), ((HB.out.cell (World.block_lt_of_cell? w _ hw294_1)).trans hw294_1)⟩ (fun hHeld => ?_)
                              clear hK K
                              refine norm_ (a' := ?_) ?_ ?_
                              rotate_left
                              · show Act.put _ (some 9) _ = _
                                simp only [Act.put, List.setIfInBounds_toArray, List.set_cons_zero, List.set_cons_succ, i64_w, i32_w]
                                rfl
                              refine one_ (i := 11) (N := some 54) #[true, true, true, true, true, true, true, true, true, true, true, true, false, false, false, true, false, false] rfl rfl (one_of HT_.out (by kernel_rfl)) (by decide) (fun K hK => ?_)
                              refine goes_ Try.func45 (by kernel_rfl) rfl #[.agg #[.slice Ao33 x284000_1.length co33, .slice Ao34 x284001_1.length co34], .int .i64 ((rd_T79 l1 x8_1).f0), .string ((rd_T79 l1 x8_1).f1)] (by rfl) rfl rfl (by (try simp only [List.map_toArray, List.map_cons, List.map_nil]); first | done | rfl | (simp only [List.length_drop, List.length_take]; rfl)) ?_
                              with_reducible refine (assartref02_Put.calls (fun k_ => ((((P0_0_ k_ ∨ P0_1_ k_) ∨ w.heap.size ≤ k_) ∧ (k_ ≠ gb283 ∧ k_ ≠ gb284)) ∧ k_ ≠ gb302)) _ _ x284000_1 (fun k_ => ((((P0_0_ k_ ∨ P0_1_ k_) ∨ w.heap.size ≤ k_) ∧ (k_ ≠ gb283 ∧ k_ ≠ gb284)) ∧ k_ ≠ gb302)) _ _ x284001_1 ((rd_T79 l1 x8_1).f0) ((rd_T79 l1 x8_1).f1) t295 t298 t301 _ ?side1 ?side2 A31.out).mono ?_
                              (case side1 => exact HO_284000.out)
                              (case side2 => exact HO_284001.out)
                              rintro e w37 ⟨v296, v299, rfl, ho0, ho1, hb⟩
                              refine ⟨_, rfl, ?_⟩
                              have n0_ := Aside0.mk (Kd.V_below (by (with_reducible repeat (first | apply Kd.V_alloc | apply Kd.V_drewN | apply Kd.V_drew)); exact HO_284000.out) hb)
                              have n1_ := Aside0.mk (Kd.V_below (by (with_reducible repeat (first | apply Kd.V_alloc | apply Kd.V_drewN | apply Kd.V_drew)); exact HO_284001.out) hb)
                              have n2_ := Aside0.mk (Kd.V_lower (Kd.V_mono (ok' := fun k_ => ((P0_0_ k_ ∨ P0_1_ k_) ∨ w.heap.size ≤ k_) ∧ k_ ≠ gb283 ∧ k_ ≠ gb284 ∧ k_ ≠ gb302) ho0 (fun k_ hk_ => ⟨Or.elim hk_ (fun hs_ => Or.elim hs_ (fun hs_ => hs_.1.1) (fun hs_ => hs_.1.1)) (fun hn_ => (.inr (Nat.le_trans (below_size (by repeat (first | (with_reducible first | exact HB.out | apply below_alloc | apply pw_below_drewN | apply below_drew1 | refine below_set ?_ GE283.out | refine below_set ?_ GE284.out | refine below_set ?_ GE302.out) | exact HB.out))) hn_))), Or.elim hk_ (fun hs_ => Or.elim hs_ (fun hs_ => hs_.1.2.1) (fun hs_ => hs_.1.2.1)) (fun hn_ => (Kd.freshB (g := gb283) (o := .cells #[.slice Ao33 x284000_1.length co33, .slice Ao34 x284001_1.length co34] 63 (0, 0)) (by (with_reducible repeat (first | refine blk_drewN ?_ _ | refine blk_drew ?_ | refine blk_alloc ?_ _)); exact BK283.out) k_ hn_)), Or.elim hk_ (fun hs_ => Or.elim hs_ (fun hs_ => hs_.1.2.2) (fun hs_ => hs_.1.2.2)) (fun hn_ => (Kd.freshB (g := gb284) (o := .cells #[.slice none 0 0, .slice none 0 0] 63 (0, 0)) (by (with_reducible repeat (first | refine blk_drewN ?_ _ | refine blk_drew ?_ | refine blk_alloc ?_ _)); exact BK284.out) k_ hn_)), Or.elim hk_ (fun hs_ => Or.elim hs_ (fun hs_ => hs_.2) (fun hs_ => hs_.2)) (fun hn_ => (Kd.freshB (g := gb302) (o := .cells #[.slice none 0 0, .slice none 0 0] 63 (0, 0)) (by (with_reducible repeat (first | refine blk_drewN ?_ _ | refine blk_drew ?_ | refine blk_alloc ?_ _)); exact BK302.out) k_ hn_))⟩)) (below_size (by repeat (first | (with_reducible first | exact HB.out | apply below_alloc | apply pw_below_drewN | apply below_drew1 | refine below_set ?_ GE283.out | refine below_set ?_ GE284.out | refine below_set ?_ GE302.out) | exact HB.out))))
                              have n3_ := Aside0.mk (Kd.V_lower (Kd.V_mono (ok' := fun k_ => ((P0_0_ k_ ∨ P0_1_ k_) ∨ w.heap.size ≤ k_) ∧ k_ ≠ gb283 ∧ k_ ≠ gb284 ∧ k_ ≠ gb302) ho1 (fun k_ hk_ => ⟨Or.elim hk_ (fun hs_ => Or.elim hs_ (fun hs_ => hs_.1.1) (fun hs_ => hs_.1.1)) (fun hn_ => (.inr (Nat.le_trans (below_size (by repeat (first | (with_reducible first | exact HB.out | apply below_alloc | apply pw_below_drewN | apply below_drew1 | refine below_set ?_ GE283.out | refine below_set ?_ GE284.out | refine below_set ?_ GE302.out) | exact HB.out))) hn_))), Or.elim hk_ (fun hs_ => Or.elim hs_ (fun hs_ => hs_.1.2.1) (fun hs_ => hs_.1.2.1)) (fun hn_ => (Kd.freshB (g := gb283) (o := .cells #[.slice Ao33 x284000_1.length co33, .slice Ao34 x284001_1.length co34] 63 (0, 0)) (by (with_reducible repeat (first | refine blk_drewN ?_ _ | refine blk_drew ?_ | refine blk_alloc ?_ _)); exact BK283.out) k_ hn_)), Or.elim hk_ (fun hs_ => Or.elim hs_ (fun hs_ => hs_.1.2.2) (fun hs_ => hs_.1.2.2)) (fun hn_ => (Kd.freshB (g := gb284) (o := .cells #[.slice none 0 0, .slice none 0 0] 63 (0, 0)) (by (with_reducible repeat (first | refine blk_drewN ?_ _ | refine blk_drew ?_ | refine blk_alloc ?_ _)); exact BK284.out) k_ hn_)), Or.elim hk_ (fun hs_ => Or.elim hs_ (fun hs_ => hs_.2) (fun hs_ => hs_.2)) (fun hn_ => (Kd.freshB (g := gb302) (o := .cells #[.slice none 0 0, .slice none 0 0] 63 (0, 0)) (by (with_reducible repeat (first | refine blk_drewN ?_ _ | refine blk_drew ?_ | refine blk_alloc ?_ _)); exact BK302.out) k_ hn_))⟩)) (below_size (by repeat (first | (with_reducible first | exact HB.out | apply below_alloc | apply pw_below_drewN | apply below_drew1 | refine below_set ?_ GE283.out | refine below_set ?_ GE284.out | refine below_set ?_ GE302.out) | exact HB.out))))
                              have n4_ := Aside0.mk (blk_below (g := gb283) (o := .cells #[.slice Ao33 x284000_1.length co33, .slice Ao34 x284001_1.length co34] 63 (0, 0)) (by (with_reducible repeat (first | refine blk_drewN ?_ _ | refine blk_drew ?_ | refine blk_alloc ?_ _)); exact BK283.out) hb)
                              have n5_ := Aside0.mk (blk_below (g := gb284) (o := .cells #[.slice none 0 0, .slice none 0 0] 63 (0, 0)) (by (with_reducible repeat (first | refine blk_drewN ?_ _ | refine blk_drew ?_ | refine blk_alloc ?_ _)); exact BK284.out) hb)
                              have n6_ := Aside0.mk (blk_below (g := gb302) (o := .cells #[.slice none 0 0, .slice none 0 0] 63 (0, 0)) (by (with_reducible repeat (first | refine blk_drewN ?_ _ | refine blk_drew ?_ | refine blk_alloc ?_ _)); exact BK302.out) hb)
                              have n7_ := Aside0.mk (below_step (by repeat (first | (with_reducible first | exact HB.out | apply below_alloc | apply pw_below_drewN | apply below_drew1 | refine below_set ?_ GE283.out | refine below_set ?_ GE284.out | refine below_set ?_ GE302.out) | exact HB.out)) hb)
                              clear HO_284000
                              clear HO_284001
                              clear BK283
                              clear BK284
                              clear BK302
                              clear HB
                              have HO_284000 := n0_
                              have HO_284001 := n1_
                              have HO297 := n2_
                              have HO300 := n3_
                              have BK283 := n4_
                              have BK284 := n5_
                              have BK302 := n6_
                              have HB := n7_
                              clear n0_ n1_ n2_ n3_ n4_ n5_ n6_ n7_
                              (try clear hb)
                              (try clear hb2)
                              (try clear hk)
                              (try clear hi)
                              (try clear ho0)
                              (try clear ho1)
                              refine hK.out _ _ ⟨(blk_cell BK283.out 0).trans rfl, (blk_cell BK283.out 1).trans rfl, ((HB.out.cell (World.block_lt_of_cell? w _ hw293_0)).trans hw293_0), ((HB.out.cell (World.block_lt_of_cell? w _ hw293_1)).trans hw293_1), ((HB.out.cell (World.block_lt_of_cell? w _ hw294_0)).trans hw294_0), ((HB.out.cell (World.block_lt_of_cell? w _ hw294_1)).trans hw294_1)⟩ (fun hHeld => ?_)
                              clear hK K
                              refine norm_ (a' := ?_) ?_ ?_
                              rotate_left
                              · show Act.put _ (some 54) _ = _
                                simp only [Act.put, List.setIfInBounds_toArray, List.set_cons_zero, List.set_cons_succ, i64_w, i32_w]
                                rfl
                              refine pure_ (i := 12) (N := some 42) (v := ?_) (a' := ?_) #[true, true, true, true, true, true, true, true, true, true, true, true, true, false, false, true, false, false] rfl rfl (any_of HT_.out (by kernel_rfl)) (fun _ _ _ h => h) (Or.inl ⟨by rfl, ?_⟩) ?_ ?_
                              rotate_left
                              · intro w'
                                go_simp
                                with_reducible rfl
                              rotate_left
                              · simp only [Act.put, List.setIfInBounds_toArray, List.set_cons_zero, List.set_cons_succ, i64_w, i32_w]
                                rfl
                              refine pure_ (i := 13) (N := some 55) (v := ?_) (a' := ?_) #[true, true, true, true, true, true, true, true, true, true, true, true, true, true, false, true, false, false] rfl rfl (any_of HT_.out (by kernel_rfl)) (fun _ _ _ h => h) (Or.inl ⟨by rfl, ?_⟩) ?_ ?_
                              rotate_left
                              · intro w'
                                go_simp
                                with_reducible rfl
                              rotate_left
                              · simp only [Act.put, List.setIfInBounds_toArray, List.set_cons_zero, List.set_cons_succ, i64_w, i32_w]
                                rfl
                              refine pure_ (i := 14) (N := some 56) (v := ?_) (a' := ?_) #[true, true, true, true, true, true, true, true, true, true, true, true, true, true, true, true, false, false] rfl rfl (any_of HT_.out (by kernel_rfl)) (fun _ _ _ h => h) (Or.inl ⟨by rfl, ?_⟩) ?_ ?_
                              rotate_left
                              · intro w'
                                go_simp
                                with_reducible rfl
                              rotate_left
                              · simp only [Act.put, List.setIfInBounds_toArray, List.set_cons_zero, List.set_cons_succ, i64_w, i32_w]
                                rfl
                              exact norm_ (by simp only [putAll, Act.put, List.setIfInBounds_toArray, List.set_cons_zero, List.set_cons_succ]) (hCont (v296, v299, gb302) _ ⟨hHeld, (by (with_reducible repeat (first | apply Kd.V_alloc | apply Kd.V_drewN | apply Kd.V_drew)); exact HO297.out), (by (with_reducible repeat (first | apply Kd.V_alloc | apply Kd.V_drewN | apply Kd.V_drew)); exact HO300.out), (by (with_reducible repeat (first | apply Kd.V_alloc | apply Kd.V_drewN | apply Kd.V_drew)); exact Kd.V_mono HO_284000.out (fun _ hk => ⟨hk.1.1, ⟨hk.1.2.1, ⟨hk.1.2.2, hk.2⟩⟩⟩)), (by (with_reducible repeat (first | apply Kd.V_alloc | apply Kd.V_drewN | apply Kd.V_drew)); exact Kd.V_mono HO_284001.out (fun _ hk => ⟨hk.1.1, ⟨hk.1.2.1, ⟨hk.1.2.2, hk.2⟩⟩⟩)), (by (with_reducible repeat (first | refine blk_drewN ?_ _ | refine blk_drew ?_ | refine blk_alloc ?_ _)); exact BK283.out), (by (with_reducible repeat (first | refine blk_drewN ?_ _ | refine blk_drew ?_ | refine blk_alloc ?_ _)); exact BK284.out), (by (with_reducible repeat (first | refine blk_drewN ?_ _ | refine blk_drew ?_ | refine blk_alloc ?_ _)); exact BK302.out), GW302.out, GE302.out, NB283_302.out, NB302_283.out, NB284_302.out, NB302_284.out, (by repeat (first | (with_reducible first | exact HB.out | apply below_alloc | apply pw_below_drewN | apply below_drew1 | refine below_set ?_ GE283.out | refine below_set ?_ GE284.out | refine below_set ?_ GE302.out) | exact HB.out))⟩)
                          rintro ⟨v296, v299, gb302⟩ w38 ⟨hS_, h0_, h1_, h2_, h3_, h4_, h5_, h6_, h7_, h8_, h9_, h10_, h11_, h12_, h13_⟩
                          have n0_ : Aside0 (Kd.V Kd.string 9 w38 w.heap.size (fun k_ => ((P0_0_ k_ ∨ P0_1_ k_) ∨ w.heap.size ≤ k_) ∧ k_ ≠ gb283 ∧ k_ ≠ gb284 ∧ k_ ≠ gb302) v296 t295) := ⟨h0_⟩
                          have n1_ : Aside0 (Kd.V k79 79 w38 w.heap.size (fun k_ => ((P0_0_ k_ ∨ P0_1_ k_) ∨ w.heap.size ≤ k_) ∧ k_ ≠ gb283 ∧ k_ ≠ gb284 ∧ k_ ≠ gb302) v299 t298) := ⟨h1_⟩
                          have n2_ : Aside0 (Kd.V Kd.string 9 w38 w.heap.size (fun k_ => ((P0_0_ k_ ∨ P0_1_ k_) ∨ w.heap.size ≤ k_) ∧ k_ ≠ gb283 ∧ k_ ≠ gb284 ∧ k_ ≠ gb302) (.slice Ao33 x284000_1.length co33) x284000_1) := ⟨h2_⟩
                          have n3_ : Aside0 (Kd.V k79 79 w38 w.heap.size (fun k_ => ((P0_0_ k_ ∨ P0_1_ k_) ∨ w.heap.size ≤ k_) ∧ k_ ≠ gb283 ∧ k_ ≠ gb284 ∧ k_ ≠ gb302) (.slice Ao34 x284001_1.length co34) x284001_1) := ⟨h3_⟩
                          have n4_ : Aside0 (w38.heap[gb283]? = some (.cells #[.slice Ao33 x284000_1.length co33, .slice Ao34 x284001_1.length co34] 63 (0, 0))) := ⟨h4_⟩
                          have n5_ : Aside0 (w38.heap[gb284]? = some (.cells #[.slice none 0 0, .slice none 0 0] 63 (0, 0))) := ⟨h5_⟩
                          have n6_ : Aside0 (w38.heap[gb302]? = some (.cells #[.slice none 0 0, .slice none 0 0] 63 (0, 0))) := ⟨h6_⟩
                          have n7_ : Aside0 (w.heap.size ≤ gb302) := ⟨h7_⟩
                          have n8_ : Aside0 (w.heap.size ≤ gb302) := ⟨h8_⟩
                          have n9_ : Aside0 (gb283 ≠ gb302) := ⟨h9_⟩
                          have n10_ : Aside0 (gb302 ≠ gb283) := ⟨h10_⟩
                          have n11_ : Aside0 (gb284 ≠ gb302) := ⟨h11_⟩
                          have n12_ : Aside0 (gb302 ≠ gb284) := ⟨h12_⟩
                          have n13_ : Aside0 (Below w.heap.size w w38) := ⟨h13_⟩
                          clear HO_284000
                          clear HO_284001
                          clear BK283
                          clear BK284
                          clear HB
                          clear h0_ h1_ h2_ h3_ h4_ h5_ h6_ h7_ h8_ h9_ h10_ h11_ h12_ h13_
                          have HO297 := n0_
                          have HO300 := n1_
                          have HO_284000 := n2_
                          have HO_284001 := n3_
                          have BK283 := n4_
                          have BK284 := n5_
                          have BK302 := n6_
                          have GW302 := n7_
                          have GE302 := n8_
                          have NB283_302 := n9_
                          have NB302_283 := n10_
                          have NB284_302 := n11_
                          have NB302_284 := n12_
                          have HB := n13_
                          clear n0_ n1_ n2_ n3_ n4_ n5_ n6_ n7_ n8_ n9_ n10_ n11_ n12_ n13_
                          have hHeld : w38.cell? ⟨gb283, 0, none⟩ = some (.slice Ao33 x284000_1.length co33) ∧ w38.cell? ⟨gb283, 1, none⟩ = some (.slice Ao34 x284001_1.length co34) ∧ w38.cell? (ad293.add ((x8_1).toNat * 2)) = some (.int .i64 ((rd_T79 l1 x8_1).f0)) ∧ w38.cell? ⟨(ad293.add ((x8_1).toNat * 2)).block, (ad293.add ((x8_1).toNat * 2)).off + 1, none⟩ = some (.string ((rd_T79 l1 x8_1).f1)) ∧ w38.cell? (ad293.add ((x8_1).toNat * 2)) = some (.int .i64 ((rd_T79 l1 x8_1).f0)) ∧ w38.cell? ⟨(ad293.add ((x8_1).toNat * 2)).block, (ad293.add ((x8_1).toNat * 2)).off + 1, none⟩ = some (.string ((rd_T79 l1 x8_1).f1)) := hS_
                          obtain ⟨Ao39, co39, eo39⟩ := Kd.V_slice HO297.out
                          (first | subst eo39 | (injection eo39 with f1_ f2_ f3_; have f4_ := f1_.symm; have f5_ := f3_.symm; clear f1_ f2_ f3_; subst f4_; subst f5_))
                          obtain ⟨Ao41, co41, eo41⟩ := Kd.V_slice HO300.out
                          (first | subst eo41 | (injection eo41 with f1_ f2_ f3_; have f4_ := f1_.symm; have f5_ := f3_.symm; clear f1_ f2_ f3_; subst f4_; subst f5_))
                          refine norm_ (a' := ?_) ?_ ?_
                          rotate_left
                          · simp only [putAll, Act.put, List.setIfInBounds_toArray, List.set_cons_zero, List.set_cons_succ]
                            rfl
                          refine one_ (i := 16) (N := none) #[true, true, true, true, true, true, true, true, true, true, true, true, true, true, true, true, true, false] rfl rfl (one_of HT_.out (by kernel_rfl)) (by decide) (fun K hK => ?_)
                          have hs40 : w38.cell? ⟨gb302, 0, none⟩ = some (.slice none 0 0) := (blk_cell BK302.out 0).trans rfl
                          have hfs40 := blk_frozen BK302.out 0
                          have hns40_0 := NB283_302.out
                          have hns40_1 := NB284_302.out
                          have hms40_0 := NB302_283.out
                          have hms40_1 := NB302_284.out
                          have hs42 : w38.cell? ⟨gb302, 1, none⟩ = some (.slice none 0 0) := (blk_cell BK302.out 1).trans rfl
                          have hfs42 := blk_frozen BK302.out 1
                          have hns42_0 := NB283_302.out
                          have hns42_1 := NB284_302.out
                          have hms42_0 := NB302_283.out
                          have hms42_1 := NB302_284.out
                          refine skip_ (w1 := ?_) (by rfl) rfl ?_ ?_
                          rotate_left
                          · go_simp
                            rfl
                          refine hK.out _ _ ⟨((cell_far (p := ⟨gb302, _, none⟩) NB283_302.out _).trans (((cell_far (p := ⟨gb302, _, none⟩) NB283_302.out _).trans (hHeld.1)))), ((cell_far (p := ⟨gb302, _, none⟩) NB283_302.out _).trans (((cell_far (p := ⟨gb302, _, none⟩) NB283_302.out _).trans (hHeld.2.1)))), ((cell_far (p := ⟨gb302, _, none⟩) (by first | exact Nat.ne_of_lt (Nat.lt_of_lt_of_le (by have := World.block_lt_of_cell? _ _ hw293_0; first | rwa [add_block] at this | exact this) GW302.out) | (rw [add_block]; exact Nat.ne_of_lt (Nat.lt_of_lt_of_le (by have := World.block_lt_of_cell? _ _ hw293_0; first | rwa [add_block] at this | exact this) GW302.out)) | (show (Addr.add _ _).block ≠ _; rw [add_block]; exact Nat.ne_of_lt (Nat.lt_of_lt_of_le (by have := World.block_lt_of_cell? _ _ hw293_0; first | rwa [add_block] at this | exact this) GW302.out)) | (dsimp only; exact Nat.ne_of_lt (Nat.lt_of_lt_of_le (by have := World.block_lt_of_cell? _ _ hw293_0; first | rwa [add_block] at this | exact this) GW302.out))) _).trans (((cell_far (p := ⟨gb302, _, none⟩) (by first | exact Nat.ne_of_lt (Nat.lt_of_lt_of_le (by have := World.block_lt_of_cell? _ _ hw293_0; first | rwa [add_block] at this | exact this) GW302.out) | (rw [add_block]; exact Nat.ne_of_lt (Nat.lt_of_lt_of_le (by have := World.block_lt_of_cell? _ _ hw293_0; first | rwa [add_block] at this | exact this) GW302.out)) | (show (Addr.add _ _).block ≠ _; rw [add_block]; exact Nat.ne_of_lt (Nat.lt_of_lt_of_le (by have := World.block_lt_of_cell? _ _ hw293_0; first | rwa [add_block] at this | exact this) GW302.out)) | (dsimp only; exact Nat.ne_of_lt (Nat.lt_of_lt_of_le (by have := World.block_lt_of_cell? _ _ hw293_0; first | rwa [add_block] at this | exact this) GW302.out))) _).trans (hHeld.2.2.1)))), ((cell_far (p := ⟨gb302, _, none⟩) (by first | exact Nat.ne_of_lt (Nat.lt_of_lt_of_le (by have := World.block_lt_of_cell? _ _ hw293_1; first | rwa [add_block] at this | exact this) GW302.out) | (rw [add_block]; exact Nat.ne_of_lt (Nat.lt_of_lt_of_le (by have := World.block_lt_of_cell? _ _ hw293_1; first | rwa [add_block] at this | exact this) GW302.out)) | (show (Addr.add _ _).block ≠ _; rw [add_block]; exact Nat.ne_of_lt (Nat.lt_of_lt_of_le (by have := World.block_lt_of_cell? _ _ hw293_1; first | rwa [add_block] at this | exact this) GW302.out)) | (dsimp only; exact Nat.ne_of_lt (Nat.lt_of_lt_of_le (by have := World.block_lt_of_cell? _ _ hw293_1; first | rwa [add_block] at this | exact this) GW302.out))) _).trans (((cell_far (p := ⟨gb302, _, none⟩) (by first | exact Nat.ne_of_lt (Nat.lt_of_lt_of_le (by have := World.block_lt_of_cell? _ _ hw293_1; first | rwa [add_block] at this | exact this) GW302.out) | (rw [add_block]; exact Nat.ne_of_lt (Nat.lt_of_lt_of_le (by have := World.block_lt_of_cell? _ _ hw293_1; first | rwa [add_block] at this | exact this) GW302.out)) | (show (Addr.add _ _).block ≠ _; rw [add_block]; exact Nat.ne_of_lt (Nat.lt_of_lt_of_le (by have := World.block_lt_of_cell? _ _ hw293_1; first | rwa [add_block] at this | exact this) GW302.out)) | (dsimp only; exact Nat.ne_of_lt (Nat.lt_of_lt_of_le (by have := World.block_lt_of_cell? _ _ hw293_1; first | rwa [add_block] at this | exact this) GW302.out))) _).trans (hHeld.2.2.2.1)))), ((cell_far (p := ⟨gb302, _, none⟩) (by first | exact Nat.ne_of_lt (Nat.lt_of_lt_of_le (by have := World.block_lt_of_cell? _ _ hw294_0; first | rwa [add_block] at this | exact this) GW302.out) | (rw [add_block]; exact Nat.ne_of_lt (Nat.lt_of_lt_of_le (by have := World.block_lt_of_cell? _ _ hw294_0; first | rwa [add_block] at this | exact this) GW302.out)) | (show (Addr.add _ _).block ≠ _; rw [add_block]; exact Nat.ne_of_lt (Nat.lt_of_lt_of_le (by have := World.block_lt_of_cell? _ _ hw294_0; first | rwa [add_block] at this | exact this) GW302.out)) | (dsimp only; exact Nat.ne_of_lt (Nat.lt_of_lt_of_le (by have := World.block_lt_of_cell? _ _ hw294_0; first | rwa [add_block] at this | exact this) GW302.out))) _).trans (((cell_far (p := ⟨gb302, _, none⟩) (by first | exact Nat.ne_of_lt (Nat.lt_of_lt_of_le (by have := World.block_lt_of_cell? _ _ hw294_0; first | rwa [add_block] at this | exact this) GW302.out) | (rw [add_block]; exact Nat.ne_of_lt (Nat.lt_of_lt_of_le (by have := World.block_lt_of_cell? _ _ hw294_0; first | rwa [add_block] at this | exact this) GW302.out)) | (show (Addr.add _ _).block ≠ _; rw [add_block]; exact Nat.ne_of_lt (Nat.lt_of_lt_of_le (by have := World.block_lt_of_cell? _ _ hw294_0; first | rwa [add_block] at this | exact this) GW302.out)) | (dsimp only; exact Nat.ne_of_lt (Nat.lt_of_lt_of_le (by have := World.block_lt_of_cell? _ _ hw294_0; first | rwa [add_block] at this | exact this) GW302.out))) _).trans (hHeld.2.2.2.2.1)))), ((cell_far (p := ⟨gb302, _, none⟩) (by first | exact Nat.ne_of_lt (Nat.lt_of_lt_of_le (by have := World.block_lt_of_cell? _ _ hw294_1; first | rwa [add_block] at this | exact this) GW302.out) | (rw [add_block]; exact Nat.ne_of_lt (Nat.lt_of_lt_of_le (by have := World.block_lt_of_cell? _ _ hw294_1; first | rwa [add_block] at this | exact this) GW302.out)) | (show (Addr.add _ _).block ≠ _; rw [add_block]; exact Nat.ne_of_lt (Nat.lt_of_lt_of_le (by have := World.block_lt_of_cell? _ _ hw294_1; first | rwa [add_block] at this | exact this) GW302.out)) | (dsimp only; exact Nat.ne_of_lt (Nat.lt_of_lt_of_le (by have := World.block_lt_of_cell? _ _ hw294_1; first | rwa [add_block] at this | exact this) GW302.out))) _).trans (((cell_far (p := ⟨gb302, _, none⟩) (by first | exact Nat.ne_of_lt (Nat.lt_of_lt_of_le (by have := World.block_lt_of_cell? _ _ hw294_1; first | rwa [add_block] at this | exact this) GW302.out) | (rw [add_block]; exact Nat.ne_of_lt (Nat.lt_of_lt_of_le (by have := World.block_lt_of_cell? _ _ hw294_1; first | rwa [add_block] at this | exact this) GW302.out)) | (show (Addr.add _ _).block ≠ _; rw [add_block]; exact Nat.ne_of_lt (Nat.lt_of_lt_of_le (by have := World.block_lt_of_cell? _ _ hw294_1; first | rwa [add_block] at this | exact this) GW302.out)) | (dsimp only; exact Nat.ne_of_lt (Nat.lt_of_lt_of_le (by have := World.block_lt_of_cell? _ _ hw294_1; first | rwa [add_block] at this | exact this) GW302.out))) _).trans (hHeld.2.2.2.2.2))))⟩ (fun hHeld => ?_)
                          clear hK K
                          refine pure_ (i := 17) (N := some 10) (v := ?_) (a' := ?_) #[true, true, true, true, true, true, true, true, true, true, true, true, true, true, true, true, true, true] rfl rfl (any_of HT_.out (by kernel_rfl)) (fun _ _ _ h => h) (Or.inl ⟨by rfl, ?_⟩) ?_ ?_
                          rotate_left
                          · intro w'
                            go_simp
                            with_reducible rfl
                          rotate_left
                          · simp only [Act.put, List.setIfInBounds_toArray, List.set_cons_zero, List.set_cons_succ, i64_w, i32_w]
                            rfl
                          refine done_ (done_of HT_.out (by kernel_rfl)) ?_
                          have hnb43 := NB302_283.out
                          have hnc43 := NB283_302.out
                          have hnb44 := NB302_284.out
                          have hnc44 := NB284_302.out
                          have hcz45_0 : w38.cell? ⟨gb302, 0, none⟩ = some (.slice none 0 0) := (blk_cell BK302.out 0).trans rfl
                          have hcz45_1 : w38.cell? ⟨gb302, 1, none⟩ = some (.slice none 0 0) := (blk_cell BK302.out 1).trans rfl
                          have hfz45_0 := blk_frozen BK302.out 0
                          have hfz45_1 := blk_frozen BK302.out 1
                          have hnb46 := NB283_284.out
                          have hnc46 := NB284_283.out
                          have hcz47_0 : w38.cell? ⟨gb283, 0, none⟩ = some (.slice Ao33 x284000_1.length co33) := (blk_cell BK283.out 0).trans rfl
                          have hcz47_1 : w38.cell? ⟨gb283, 1, none⟩ = some (.slice Ao34 x284001_1.length co34) := (blk_cell BK283.out 1).trans rfl
                          have hfz47_0 := blk_frozen BK283.out 0
                          have hfz47_1 := blk_frozen BK283.out 1
                          try go_wp2
                          go_roundg kj14
                          case measure => have := HK1.out; have := HJ6.out; have := HJ14.out; omega
                          case rel => exact ⟨(wrap64 (x8_1 + 1)), (t295), (t298), (.slice Ao39 t295.length co39), (.slice Ao41 t298.length co41), (by first | rfl | (simp; done) | (simp [*]; done)), H', ⟨by have := HK1.out; have := HJ6.out; have := HJ14.out; omega⟩, ⟨by (with_reducible repeat (first | apply Kd.V_alloc | apply Kd.V_drewN | apply Kd.V_drew)); exact Kd.V_mono (Kd.V_far (p := ⟨gb283, 1, none⟩) (Kd.V_far (p := ⟨gb283, 0, none⟩) (Kd.V_far (p := ⟨gb302, 1, none⟩) (Kd.V_far (p := ⟨gb302, 0, none⟩) (Kd.V_mono (Kd.V_mono HO297.out (fun k_ hk => (⟨hk, hk.2.2.2⟩ : _ ∧ k_ ≠ gb302))) (fun k_ hk => (⟨hk, hk.1.2.1⟩ : _ ∧ k_ ≠ gb283))) (fun _ hk => hk.1.2) (.slice Ao39 t295.length co39)) (fun _ hk => hk.1.2) (.slice Ao41 t298.length co41)) (fun _ hk => hk.2) (.slice Ao39 t295.length co39)) (fun _ hk => hk.2) (.slice Ao41 t298.length co41)) (fun _ hk => ⟨hk.1.1.1, ⟨hk.1.1.2.1, hk.1.1.2.2.1⟩⟩)⟩, ⟨by (with_reducible repeat (first | apply Kd.V_alloc | apply Kd.V_drewN | apply Kd.V_drew)); exact Kd.V_mono (Kd.V_far (p := ⟨gb283, 1, none⟩) (Kd.V_far (p := ⟨gb283, 0, none⟩) (Kd.V_far (p := ⟨gb302, 1, none⟩) (Kd.V_far (p := ⟨gb302, 0, none⟩) (Kd.V_mono (Kd.V_mono HO300.out (fun k_ hk => (⟨hk, hk.2.2.2⟩ : _ ∧ k_ ≠ gb302))) (fun k_ hk => (⟨hk, hk.1.2.1⟩ : _ ∧ k_ ≠ gb283))) (fun _ hk => hk.1.2) (.slice Ao39 t295.length co39)) (fun _ hk => hk.1.2) (.slice Ao41 t298.length co41)) (fun _ hk => hk.2) (.slice Ao39 t295.length co39)) (fun _ hk => hk.2) (.slice Ao41 t298.length co41)) (fun _ hk => ⟨hk.1.1.1, ⟨hk.1.1.2.1, hk.1.1.2.2.1⟩⟩)⟩, ⟨by (with_reducible repeat (first | refine blk_drewN ?_ _ | refine blk_drew ?_ | refine blk_alloc ?_ _)); refine blk_put (cs := #[.slice Ao39 t295.length co39, .slice Ao34 x284001_1.length co34]) ?_ 1 _ rfl; (with_reducible repeat (first | refine blk_drewN ?_ _ | refine blk_drew ?_ | refine blk_alloc ?_ _)); refine blk_put (cs := #[.slice Ao33 x284000_1.length co33, .slice Ao34 x284001_1.length co34]) ?_ 0 _ rfl; (with_reducible repeat (first | refine blk_drewN ?_ _ | refine blk_drew ?_ | refine blk_alloc ?_ _)); refine blk_far ?_ NB283_302.out _; (with_reducible repeat (first | refine blk_drewN ?_ _ | refine blk_drew ?_ | refine blk_alloc ?_ _)); refine blk_far ?_ NB283_302.out _; (with_reducible repeat (first | refine blk_drewN ?_ _ | refine blk_drew ?_ | refine blk_alloc ?_ _)); exact BK283.out⟩, ⟨by (with_reducible repeat (first | refine blk_drewN ?_ _ | refine blk_drew ?_ | refine blk_alloc ?_ _)); refine blk_far ?_ NB284_283.out _; (with_reducible repeat (first | refine blk_drewN ?_ _ | refine blk_drew ?_ | refine blk_alloc ?_ _)); refine blk_far ?_ NB284_283.out _; (with_reducible repeat (first | refine blk_drewN ?_ _ | refine blk_drew ?_ | refine blk_alloc ?_ _)); refine blk_far ?_ NB284_302.out _; (with_reducible repeat (first | refine blk_drewN ?_ _ | refine blk_drew ?_ | refine blk_alloc ?_ _)); refine blk_far ?_ NB284_302.out _; (with_reducible repeat (first | refine blk_drewN ?_ _ | refine blk_drew ?_ | refine blk_alloc ?_ _)); exact BK284.out⟩, ⟨by repeat (first | (with_reducible first | exact HB.out | apply below_alloc | apply pw_below_drewN | apply below_drew1 | refine below_set ?_ GE283.out | refine below_set ?_ GE284.out | refine below_set ?_ GE302.out) | exact HB.out)⟩⟩
                        · rw [if_neg c32] at H
                          have c32b0 : (t301 == 0) = false := beq_eq_false_iff_ne.mpr c32
                          have c32b1 : (t301 != 0) = true := bne_iff_ne.mpr c32
                          simp only [Option.some.injEq, Prod.mk.injEq] at H
                          obtain ⟨rfl, rfl, rfl⟩ := H
                          obtain ⟨Ao48, co48, eo48⟩ := Kd.V_slice HO_284000.out
                          subst eo48
                          obtain ⟨Ao49, co49, eo49⟩ := Kd.V_slice HO_284001.out
                          subst eo49
                          try go_wp2
                          have n0_ := Aside0.mk (Kd.V_drew HO_284000.out)
                          have n1_ := Aside0.mk (Kd.V_drew HO_284001.out)
                          have n2_ := Aside0.mk (blk_drew BK283.out)
                          have n3_ := Aside0.mk (blk_drew BK284.out)
                          have n4_ := Aside0.mk (below_drew1 HB.out)
                          clear HO_284000
                          clear HO_284001
                          clear BK283
                          clear BK284
                          clear HB
                          have HO_284000 := n0_
                          have HO_284001 := n1_
                          have BK283 := n2_
                          have BK284 := n3_
                          have HB := n4_
                          clear n0_ n1_ n2_ n3_ n4_
                          have p293 : 0 ≤ (x8_1 : Int) := of_decide_eq_true (by first | (with_reducible assumption) | assumption)
                          have q293 : x8_1 < (l1.length : Int) := of_decide_eq_true (by first | (with_reducible assumption) | assumption)
                          obtain ⟨ad293, e293, hx293_0, hx293_1⟩ := at_T79 HR1.out x8_1 p293 q293
                          have hw293_1 := hx293_1
                          have hw293_0 := hx293_0
                          cases e293
                          replace hx293_0 := (HB.out.cell (World.block_lt_of_cell? w _ hx293_0)).trans hx293_0
                          replace hx293_1 := (HB.out.cell (World.block_lt_of_cell? w _ hx293_1)).trans hx293_1
                          replace p293 := eq_true p293
                          replace q293 := eq_true q293
                          have p294 : 0 ≤ (x8_1 : Int) := of_decide_eq_true (by first | (with_reducible assumption) | assumption)
                          have q294 : x8_1 < (l1.length : Int) := of_decide_eq_true (by first | (with_reducible assumption) | assumption)
                          obtain ⟨ad294, e294, hx294_0, hx294_1⟩ := at_T79 HR1.out x8_1 p294 q294
                          have hw294_1 := hx294_1
                          have hw294_0 := hx294_0
                          obtain rfl : ad293 = ad294 := (by injection e294)
                          replace hx294_0 := (HB.out.cell (World.block_lt_of_cell? w _ hx294_0)).trans hx294_0
                          replace hx294_1 := (HB.out.cell (World.block_lt_of_cell? w _ hx294_1)).trans hx294_1
                          replace p294 := eq_true p294
                          replace q294 := eq_true q294
                          refine start_ (n := 18) (S := fun w' => w'.cell? ⟨gb283, 0, none⟩ = some (.slice Ao48 x284000_1.length co48) ∧ w'.cell? ⟨gb283, 1, none⟩ = some (.slice Ao49 x284001_1.length co49) ∧ w'.cell? (ad293.add ((x8_1).toNat * 2)) = some (.int .i64 ((rd_T79 l1 x8_1).f0)) ∧ w'.cell? ⟨(ad293.add ((x8_1).toNat * 2)).block, (ad293.add ((x8_1).toNat * 2)).off + 1, none⟩ = some (.string ((rd_T79 l1 x8_1).f1)) ∧ w'.cell? (ad293.add ((x8_1).toNat * 2)) = some (.int .i64 ((rd_T79 l1 x8_1).f0)) ∧ w'.cell? ⟨(ad293.add ((x8_1).toNat * 2)).block, (ad293.add ((x8_1).toNat * 2)).off + 1, none⟩ = some (.string ((rd_T79 l1 x8_1).f1))) (ds := []) #[false, false, false, false, false, false, false, false, false, false, false, false, false, false, false, false, false, false] (by kernel_rfl) rfl rfl ⟨(blk_cell BK283.out 0).trans rfl, (blk_cell BK283.out 1).trans rfl, ((HB.out.cell (World.block_lt_of_cell? w _ hw293_0)).trans hw293_0), ((HB.out.cell (World.block_lt_of_cell? w _ hw293_1)).trans hw293_1), ((HB.out.cell (World.block_lt_of_cell? w _ hw294_0)).trans hw294_0), ((HB.out.cell (World.block_lt_of_cell? w _ hw294_1)).trans hw294_1)⟩ (fun hHeld => ?_); refine with_tabW assartref02_Do.tab8 assartref02_Do.bits8 (fun HT_ HW_ => ?_)
                          generalize wc.drew = w50 at HO_284000 HO_284001 BK283 BK284 HB hx293_0 hx293_1 hx294_0 hx294_1 hHeld ⊢
                          refine pure_ (i := 1) (N := some 44) (v := ?_) (a' := ?_) #[false, true, false, false, false, false, false, false, false, false, false, false, false, false, false, false, false, false] rfl rfl (any_of HT_.out (by kernel_rfl)) (fun _ _ _ h => h) (Or.inl ⟨by rfl, ?_⟩) ?_ ?_
                          rotate_left
                          · intro w'
                            go_simp
                            with_reducible rfl
                          rotate_left
                          · simp only [Act.put, List.setIfInBounds_toArray, List.set_cons_zero, List.set_cons_succ, i64_w, i32_w]
                            rfl
                          refine pure_ (i := 2) (N := some 45) (v := ?_) (a' := ?_) #[false, true, true, false, false, false, false, false, false, false, false, false, false, false, false, false, false, false] rfl rfl (any_of HT_.out (by kernel_rfl)) (fun _ _ _ h => h) (Or.inl ⟨by rfl, ?_⟩) ?_ ?_
                          rotate_left
                          · intro w'
                            go_simp
                            with_reducible rfl
                          rotate_left
                          · simp only [Act.put, List.setIfInBounds_toArray, List.set_cons_zero, List.set_cons_succ, i64_w, i32_w]
                            rfl
                          refine pure_ (i := 3) (N := some 46) (v := ?_) (a' := ?_) #[false, true, true, true, false, false, false, false, false, false, false, false, false, false, false, false, false, false] rfl rfl (any_of HT_.out (by kernel_rfl)) (fun _ _ _ h => h) (Or.inl ⟨by rfl, ?_⟩) ?_ ?_
                          rotate_left
                          · intro w'
                            go_simp
                            with_reducible rfl
                          rotate_left
                          · simp only [Act.put, List.setIfInBounds_toArray, List.set_cons_zero, List.set_cons_succ, i64_w, i32_w]
                            rfl
                          refine pure_ (i := 4) (N := some 47) (v := ?_) (a' := ?_) #[false, true, true, true, true, false, false, false, false, false, false, false, false, false, false, false, false, false] rfl rfl (any_of HT_.out (by kernel_rfl)) (fun _ _ _ h => h) (Or.inl ⟨by rfl, ?_⟩) ?_ ?_
                          rotate_left
                          · intro w'
                            go_simp
                            with_reducible rfl
                          rotate_left
                          · simp only [Act.put, List.setIfInBounds_toArray, List.set_cons_zero, List.set_cons_succ, i64_w, i32_w]
                            rfl
                          refine pure_ (i := 6) (N := some 49) (v := ?_) (a' := ?_) #[false, true, true, true, true, false, true, false, false, false, false, false, false, false, false, false, false, false] rfl rfl (any_of HT_.out (by kernel_rfl)) (fun _ _ _ h => h) (Or.inl ⟨by rfl, ?_⟩) ?_ ?_
                          rotate_left
                          · intro w'
                            go_simp
                            with_reducible rfl
                          rotate_left
                          · simp only [Act.put, List.setIfInBounds_toArray, List.set_cons_zero, List.set_cons_succ, i64_w, i32_w]
                            rfl
                          refine pure_ (i := 7) (N := some 50) (v := ?_) (a' := ?_) #[false, true, true, true, true, false, true, true, false, false, false, false, false, false, false, false, false, false] rfl rfl (any_of HT_.out (by kernel_rfl)) (fun _ _ _ h => h) (Or.inl ⟨by rfl, ?_⟩) ?_ ?_
                          rotate_left
                          · intro w'
                            go_simp
                            with_reducible rfl
                          rotate_left
                          · simp only [Act.put, List.setIfInBounds_toArray, List.set_cons_zero, List.set_cons_succ, i64_w, i32_w]
                            rfl
                          refine pure_ (i := 8) (N := some 51) (v := ?_) (a' := ?_) #[false, true, true, true, true, false, true, true, true, false, false, false, false, false, false, false, false, false] rfl rfl (any_of HT_.out (by kernel_rfl)) (fun _ _ _ h => h) (Or.inl ⟨by rfl, ?_⟩) ?_ ?_
                          rotate_left
                          · intro w'
                            go_simp
                            with_reducible rfl
                          rotate_left
                          · simp only [Act.put, List.setIfInBounds_toArray, List.set_cons_zero, List.set_cons_succ, i64_w, i32_w]
                            rfl
                          refine pure_ (i := 9) (N := some 52) (v := ?_) (a' := ?_) #[false, true, true, true, true, false, true, true, true, true, false, false, false, false, false, false, false, false] rfl rfl (any_of HT_.out (by kernel_rfl)) (fun _ _ _ h => h) (Or.inl ⟨by rfl, ?_⟩) ?_ ?_
                          rotate_left
                          · intro w'
                            go_simp
                            with_reducible rfl
                          rotate_left
                          · simp only [Act.put, List.setIfInBounds_toArray, List.set_cons_zero, List.set_cons_succ, i64_w, i32_w]
                            rfl
                          refine take_ (i := 0) (N := some 43) (v := ?_) (a' := ?_) #[true, true, true, true, true, false, true, true, true, true, false, false, false, false, false, false, false, false] rfl rfl (take_ofW HT_.out HW_.out (by kernel_rfl)) (fun _ _ _ h => h) (Or.inl ⟨by rfl, ?_⟩) hHeld ?_ ?_
                          rotate_left
                          · rintro w' ⟨s0, s1, s2, s3, s4, s5⟩
                            go_simp
                            with_reducible rfl
                          rotate_left
                          · simp only [Act.put, List.setIfInBounds_toArray, List.set_cons_zero, List.set_cons_succ, i64_w, i32_w]
                            rfl
                          refine take_ (i := 5) (N := some 48) (v := ?_) (a' := ?_) #[true, true, true, true, true, true, true, true, true, true, false, false, false, false, false, false, false, false] rfl rfl (take_ofW HT_.out HW_.out (by kernel_rfl)) (fun _ _ _ h => h) (Or.inl ⟨by rfl, ?_⟩) hHeld ?_ ?_
                          rotate_left
                          · rintro w' ⟨s0, s1, s2, s3, s4, s5⟩
                            go_simp
                            with_reducible rfl
                          rotate_left
                          · simp only [Act.put, List.setIfInBounds_toArray, List.set_cons_zero, List.set_cons_succ, i64_w, i32_w]
                            rfl
                          refine take_ (i := 10) (N := some 53) (v := ?_) (a' := ?_) #[true, true, true, true, true, true, true, true, true, true, true, false, false, false, false, false, false, false] rfl rfl (take_ofW HT_.out HW_.out (by kernel_rfl)) (fun _ _ _ h => h) (Or.inl ⟨by rfl, ?_⟩) hHeld ?_ ?_
                          rotate_left
                          · rintro w' ⟨s0, s1, s2, s3, s4, s5⟩
                            go_simp
                            with_reducible rfl
                          rotate_left
                          · simp only [Act.put, List.setIfInBounds_toArray, List.set_cons_zero, List.set_cons_succ, i64_w, i32_w]
                            rfl
                          refine join_ (σ := Value × Value × Nat) 2 #[true, true, true, true, true, true, true, true, true, true, true, true, true, true, true, true, false, false] (fun s_ => [(54, .tuple #[.agg #[s_.1, s_.2.1], .int .i64 t301]), (9, .pointer (some ⟨s_.2.2, 0, none⟩)), (42, .tuple #[.agg #[s_.1, s_.2.1], .int .i64 t301]), (55, .agg #[s_.1, s_.2.1]), (56, .int .i64 t301)]) (fun s_ w' => (w'.cell? ⟨gb283, 0, none⟩ = some (.slice Ao48 x284000_1.length co48) ∧ w'.cell? ⟨gb283, 1, none⟩ = some (.slice Ao49 x284001_1.length co49) ∧ w'.cell? (ad293.add ((x8_1).toNat * 2)) = some (.int .i64 ((rd_T79 l1 x8_1).f0)) ∧ w'.cell? ⟨(ad293.add ((x8_1).toNat * 2)).block, (ad293.add ((x8_1).toNat * 2)).off + 1, none⟩ = some (.string ((rd_T79 l1 x8_1).f1)) ∧ w'.cell? (ad293.add ((x8_1).toNat * 2)) = some (.int .i64 ((rd_T79 l1 x8_1).f0)) ∧ w'.cell? ⟨(ad293.add ((x8_1).toNat * 2)).block, (ad293.add ((x8_1).toNat * 2)).off + 1, none⟩ = some (.string ((rd_T79 l1 x8_1).f1))) ∧ (Kd.V Kd.string 9 w' w.heap.size (fun k_ => ((P0_0_ k_ ∨ P0_1_ k_) ∨ w.heap.size ≤ k_) ∧ k_ ≠ gb283 ∧ k_ ≠ gb284 ∧ k_ ≠ s_.2.2) s_.1 t295) ∧ (Kd.V k79 79 w' w.heap.size (fun k_ => ((P0_0_ k_ ∨ P0_1_ k_) ∨ w.heap.size ≤ k_) ∧ k_ ≠ gb283 ∧ k_ ≠ gb284 ∧ k_ ≠ s_.2.2) s_.2.1 t298) ∧ (Kd.V Kd.string 9 w' w.heap.size (fun k_ => ((P0_0_ k_ ∨ P0_1_ k_) ∨ w.heap.size ≤ k_) ∧ k_ ≠ gb283 ∧ k_ ≠ gb284 ∧ k_ ≠ s_.2.2) (.slice Ao48 x284000_1.length co48) x284000_1) ∧ (Kd.V k79 79 w' w.heap.size (fun k_ => ((P0_0_ k_ ∨ P0_1_ k_) ∨ w.heap.size ≤ k_) ∧ k_ ≠ gb283 ∧ k_ ≠ gb284 ∧ k_ ≠ s_.2.2) (.slice Ao49 x284001_1.length co49) x284001_1) ∧ (w'.heap[gb283]? = some (.cells #[.slice Ao48 x284000_1.length co48, .slice Ao49 x284001_1.length co49] 63 (0, 0))) ∧ (w'.heap[gb284]? = some (.cells #[.slice none 0 0, .slice none 0 0] 63 (0, 0))) ∧ (w'.heap[s_.2.2]? = some (.cells #[.slice none 0 0, .slice none 0 0] 63 (0, 0))) ∧ (w.heap.size ≤ s_.2.2) ∧ (w.heap.size ≤ s_.2.2) ∧ (gb283 ≠ s_.2.2) ∧ (s_.2.2 ≠ gb283) ∧ (gb284 ≠ s_.2.2) ∧ (s_.2.2 ≠ gb284) ∧ (Below w.heap.size w w')) ?_ ?_
                          rotate_left
                          · intro hCont
                            refine two_ (i := 11) (j := 15) (Ni := some 54) (Nj := some 9) #[true, true, true, true, true, true, true, true, true, true, true, true, false, false, false, false, false, false] #[true, true, true, true, true, true, true, true, true, true, true, false, false, false, false, true, false, false] rfl rfl rfl rfl (two_of HT_.out (by kernel_rfl)) (by decide) (by decide) (fun K hK => ?_) (fun K hK => ?_)
                            · skip
                              refine goes_ Try.func45 (by kernel_rfl) rfl #[.agg #[.slice Ao48 x284000_1.length co48, .slice Ao49 x284001_1.length co49], .int .i64 ((rd_T79 l1 x8_1).f0), .string ((rd_T79 l1 x8_1).f1)] (by rfl) rfl rfl (by (try simp only [List.map_toArray, List.map_cons, List.map_nil]); first | done | rfl | (simp only [List.length_drop, List.length_take]; rfl)) ?_
                              with_reducible refine (assartref02_Put.calls (fun k_ => (((P0_0_ k_ ∨ P0_1_ k_) ∨ w.heap.size ≤ k_) ∧ (k_ ≠ gb283 ∧ k_ ≠ gb284))) _ _ x284000_1 (fun k_ => (((P0_0_ k_ ∨ P0_1_ k_) ∨ w.heap.size ≤ k_) ∧ (k_ ≠ gb283 ∧ k_ ≠ gb284))) _ _ x284001_1 ((rd_T79 l1 x8_1).f0) ((rd_T79 l1 x8_1).f1) t295 t298 t301 _ ?side1 ?side2 A31.out).mono ?_
                              (case side1 => exact HO_284000.out)
                              (case side2 => exact HO_284001.out)
                              rintro e w51 ⟨v296, v299, rfl, ho0, ho1, hb⟩
                              refine ⟨_, rfl, ?_⟩
                              have n0_ := Aside0.mk (Kd.V_below (by (with_reducible repeat (first | apply Kd.V_alloc | apply Kd.V_drewN | apply Kd.V_drew)); exact HO_284000.out) hb)
                              have n1_ := Aside0.mk (Kd.V_below (by (with_reducible repeat (first | apply Kd.V_alloc | apply Kd.V_drewN | apply Kd.V_drew)); exact HO_284001.out) hb)
                              have n2_ := Aside0.mk (Kd.V_lower (Kd.V_mono (ok' := fun k_ => ((P0_0_ k_ ∨ P0_1_ k_) ∨ w.heap.size ≤ k_) ∧ k_ ≠ gb283 ∧ k_ ≠ gb284) ho0 (fun k_ hk_ => ⟨Or.elim hk_ (fun hs_ => Or.elim hs_ (fun hs_ => hs_.1) (fun hs_ => hs_.1)) (fun hn_ => (.inr (Nat.le_trans (below_size (by repeat (first | (with_reducible first | exact HB.out | apply below_alloc | apply pw_below_drewN | apply below_drew1 | refine below_set ?_ GE283.out | refine below_set ?_ GE284.out) | exact HB.out))) hn_))), Or.elim hk_ (fun hs_ => Or.elim hs_ (fun hs_ => hs_.2.1) (fun hs_ => hs_.2.1)) (fun hn_ => (Kd.freshB (g := gb283) (o := .cells #[.slice Ao48 x284000_1.length co48, .slice Ao49 x284001_1.length co49] 63 (0, 0)) (by (with_reducible repeat (first | refine blk_drewN ?_ _ | refine blk_drew ?_ | refine blk_alloc ?_ _)); exact BK283.out) k_ hn_)), Or.elim hk_ (fun hs_ => Or.elim hs_ (fun hs_ => hs_.2.2) (fun hs_ => hs_.2.2)) (fun hn_ => (Kd.freshB (g := gb284) (o := .cells #[.slice none 0 0, .slice none 0 0] 63 (0, 0)) (by (with_reducible repeat (first | refine blk_drewN ?_ _ | refine blk_drew ?_ | refine blk_alloc ?_ _)); exact BK284.out) k_ hn_))⟩)) (below_size (by repeat (first | (with_reducible first | exact HB.out | apply below_alloc | apply pw_below_drewN | apply below_drew1 | refine below_set ?_ GE283.out | refine below_set ?_ GE284.out) | exact HB.out))))
                              have n3_ := Aside0.mk (Kd.V_lower (Kd.V_mono (ok' := fun k_ => ((P0_0_ k_ ∨ P0_1_ k_) ∨ w.heap.size ≤ k_) ∧ k_ ≠ gb283 ∧ k_ ≠ gb284) ho1 (fun k_ hk_ => ⟨Or.elim hk_ (fun hs_ => Or.elim hs_ (fun hs_ => hs_.1) (fun hs_ => hs_.1)) (fun hn_ => (.inr (Nat.le_trans (below_size (by repeat (first | (with_reducible first | exact HB.out | apply below_alloc | apply pw_below_drewN | apply below_drew1 | refine below_set ?_ GE283.out | refine below_set ?_ GE284.out) | exact HB.out))) hn_))), Or.elim hk_ (fun hs_ => Or.elim hs_ (fun hs_ => hs_.2.1) (fun hs_ => hs_.2.1)) (fun hn_ => (Kd.freshB (g := gb283) (o := .cells #[.slice Ao48 x284000_1.length co48, .slice Ao49 x284001_1.length co49] 63 (0, 0)) (by (with_reducible repeat (first | refine blk_drewN ?_ _ | refine blk_drew ?_ | refine blk_alloc ?_ _)); exact BK283.out) k_ hn_)), Or.elim hk_ (fun hs_ => Or.elim hs_ (fun hs_ => hs_.2.2) (fun hs_ => hs_.2.2)) (fun hn_ => (Kd.freshB (g := gb284) (o := .cells #[.slice none 0 0, .slice none 0 0] 63 (0, 0)) (by (with_reducible repeat (first | refine blk_drewN ?_ _ | refine blk_drew ?_ | refine blk_alloc ?_ _)); exact BK284.out) k_ hn_))⟩)) (below_size (by repeat (first | (with_reducible first | exact HB.out | apply below_alloc | apply pw_below_drewN | apply below_drew1 | refine below_set ?_ GE283.out | refine below_set ?_ GE284.out) | exact HB.out))))
                              have n4_ := Aside0.mk (blk_below (g := gb283) (o := .cells #[.slice Ao48 x284000_1.length co48, .slice Ao49 x284001_1.length co49] 63 (0, 0)) (by (with_reducible repeat (first | refine blk_drewN ?_ _ | refine blk_drew ?_ | refine blk_alloc ?_ _)); exact BK283.out) hb)
                              have n5_ := Aside0.mk (blk_below (g := gb284) (o := .cells #[.slice none 0 0, .slice none 0 0] 63 (0, 0)) (by (with_reducible repeat (first | refine blk_drewN ?_ _ | refine blk_drew ?_ | refine blk_alloc ?_ _)); exact BK284.out) hb)
                              have n6_ := Aside0.mk (below_step (by repeat (first | (with_reducible first | exact HB.out | apply below_alloc | apply pw_below_drewN | apply below_drew1 | refine below_set ?_ GE283.out | refine below_set ?_ GE284.out) | exact HB.out)) hb)
                              clear HO_284000
                              clear HO_284001
                              clear BK283
                              clear BK284
                              clear HB
                              have HO_284000 := n0_
                              have HO_284001 := n1_
                              have HO297 := n2_
                              have HO300 := n3_
                              have BK283 := n4_
                              have BK284 := n5_
                              have HB := n6_
                              clear n0_ n1_ n2_ n3_ n4_ n5_ n6_
                              (try clear hb)
                              (try clear hb2)
                              (try clear hk)
                              (try clear hi)
                              (try clear ho0)
                              (try clear ho1)
                              refine hK.out _ _ ⟨(blk_cell BK283.out 0).trans rfl, (blk_cell BK283.out 1).trans rfl, ((HB.out.cell (World.block_lt_of_cell? w _ hw293_0)).trans hw293_0), ((HB.out.cell (World.block_lt_of_cell? w _ hw293_1)).trans hw293_1), ((HB.out.cell (World.block_lt_of_cell? w _ hw294_0)).trans hw294_0), ((HB.out.cell (World.block_lt_of_cell? w _ hw294_1)).trans hw294_1)⟩ (fun hHeld => ?_)
                              clear hK K
                              refine norm_ (a' := ?_) ?_ ?_
                              rotate_left
                              · show Act.put _ (some 54) _ = _
                                simp only [Act.put, List.setIfInBounds_toArray, List.set_cons_zero, List.set_cons_succ, i64_w, i32_w]
                                rfl
                              refine pure_ (i := 12) (N := some 42) (v := ?_) (a' := ?_) #[true, true, true, true, true, true, true, true, true, true, true, true, true, false, false, false, false, false] rfl rfl (any_of HT_.out (by kernel_rfl)) (fun _ _ _ h => h) (Or.inl ⟨by rfl, ?_⟩) ?_ ?_
                              rotate_left
                              · intro w'
                                go_simp
                                with_reducible rfl
                              rotate_left
                              · simp only [Act.put, List.setIfInBounds_toArray, List.set_cons_zero, List.set_cons_succ, i64_w, i32_w]
                                rfl
                              refine pure_ (i := 13) (N := some 55) (v := ?_) (a' := ?_) #[true, true, true, true, true, true, true, true, true, true, true, true, true, true, false, false, false, false] rfl rfl (any_of HT_.out (by kernel_rfl)) (fun _ _ _ h => h) (Or.inl ⟨by rfl, ?_⟩) ?_ ?_
                              rotate_left
                              · intro w'
                                go_simp
                                with_reducible rfl
                              rotate_left
                              · simp only [Act.put, List.setIfInBounds_toArray, List.set_cons_zero, List.set_cons_succ, i64_w, i32_w]
                                rfl
                              refine pure_ (i := 14) (N := some 56) (v := ?_) (a' := ?_) #[true, true, true, true, true, true, true, true, true, true, true, true, true, true, true, false, false, false] rfl rfl (any_of HT_.out (by kernel_rfl)) (fun _ _ _ h => h) (Or.inl ⟨by rfl, ?_⟩) ?_ ?_
                              rotate_left
                              · intro w'
                                go_simp
                                with_reducible rfl
                              rotate_left
                              · simp only [Act.put, List.setIfInBounds_toArray, List.set_cons_zero, List.set_cons_succ, i64_w, i32_w]
                                rfl
                              refine one_ (i := 15) (N := some 9) #[true, true, true, true, true, true, true, true, true, true, true, true, true, true, true, true, false, false] rfl rfl (one_of HT_.out (by kernel_rfl)) (by decide) (fun K hK => ?_)
                              refine box_step ?hg (N := 9) ?hd (cs := #[.slice none 0 0, .slice none 0 0]) (t := 63) ?hr ?_; (case hd => rfl); (case hg => rfl); (case hr => first | (go_simp; done) | (go_simp; rfl))
                              intro gb302 hg w52 hbox hb
                              have n0_ := Aside0.mk (Kd.V_below (Kd.V_elderB (by (with_reducible repeat (first | apply Kd.V_alloc | apply Kd.V_drewN | apply Kd.V_drew)); exact HO_284000.out) gb302 (Nat.le_of_eq hg.symm)) hb)
                              have n1_ := Aside0.mk (Kd.V_below (Kd.V_elderB (by (with_reducible repeat (first | apply Kd.V_alloc | apply Kd.V_drewN | apply Kd.V_drew)); exact HO_284001.out) gb302 (Nat.le_of_eq hg.symm)) hb)
                              have n2_ := Aside0.mk (Kd.V_below (Kd.V_elderB (by (with_reducible repeat (first | apply Kd.V_alloc | apply Kd.V_drewN | apply Kd.V_drew)); exact HO297.out) gb302 (Nat.le_of_eq hg.symm)) hb)
                              have n3_ := Aside0.mk (Kd.V_below (Kd.V_elderB (by (with_reducible repeat (first | apply Kd.V_alloc | apply Kd.V_drewN | apply Kd.V_drew)); exact HO300.out) gb302 (Nat.le_of_eq hg.symm)) hb)
                              have n4_ := Aside0.mk (blk_below (g := gb283) (o := .cells #[.slice Ao48 x284000_1.length co48, .slice Ao49 x284001_1.length co49] 63 (0, 0)) (by (with_reducible repeat (first | refine blk_drewN ?_ _ | refine blk_drew ?_ | refine blk_alloc ?_ _)); exact BK283.out) hb)
                              have n5_ := Aside0.mk (blk_below (g := gb284) (o := .cells #[.slice none 0 0, .slice none 0 0] 63 (0, 0)) (by (with_reducible repeat (first | refine blk_drewN ?_ _ | refine blk_drew ?_ | refine blk_alloc ?_ _)); exact BK284.out) hb)
                              have n6_ := Aside0.mk (below_step (by repeat (first | (with_reducible first | exact HB.out | apply below_alloc | apply pw_below_drewN | apply below_drew1 | refine below_set ?_ GE283.out | refine below_set ?_ GE284.out) | exact HB.out)) hb)
                              have n7_ := Aside0.mk (hbox)
                              have n8_ := Aside0.mk ((by rw [hg]; exact (below_size (by repeat (first | (with_reducible first | exact HB.out | apply below_alloc | apply pw_below_drewN | apply below_drew1 | refine below_set ?_ GE283.out | refine below_set ?_ GE284.out) | exact HB.out))) : w.heap.size ≤ gb302))
                              have n9_ := Aside0.mk ((by rw [hg]; exact (below_size (by repeat (first | (with_reducible first | exact HB.out | apply below_alloc | apply pw_below_drewN | apply below_drew1 | refine below_set ?_ GE283.out | refine below_set ?_ GE284.out) | exact HB.out))) : w.heap.size ≤ gb302))
                              have n10_ := Aside0.mk ((by rw [hg]; exact Nat.ne_of_lt (blk_lt (g := gb283) (o := .cells #[.slice Ao48 x284000_1.length co48, .slice Ao49 x284001_1.length co49] 63 (0, 0)) (by (with_reducible repeat (first | refine blk_drewN ?_ _ | refine blk_drew ?_ | refine blk_alloc ?_ _)); exact BK283.out)) : gb283 ≠ gb302))
                              have n11_ := Aside0.mk ((by rw [hg]; exact Nat.ne_of_gt (blk_lt (g := gb283) (o := .cells #[.slice Ao48 x284000_1.length co48, .slice Ao49 x284001_1.length co49] 63 (0, 0)) (by (with_reducible repeat (first | refine blk_drewN ?_ _ | refine blk_drew ?_ | refine blk_alloc ?_ _)); exact BK283.out)) : gb302 ≠ gb283))
                              have n12_ := Aside0.mk ((by rw [hg]; exact Nat.ne_of_lt (blk_lt (g := gb284) (o := .cells #[.slice none 0 0, .slice none 0 0] 63 (0, 0)) (by (with_reducible repeat (first | refine blk_drewN ?_ _ | refine blk_drew ?_ | refine blk_alloc ?_ _)); exact BK284.out)) : gb284 ≠ gb302))
                              have n13_ := Aside0.mk ((by rw [hg]; exact Nat.ne_of_gt (blk_lt (g := gb284) (o := .cells #[.slice none 0 0, .slice none 0 0] 63 (0, 0)) (by (with_reducible repeat (first | refine blk_drewN ?_ _ | refine blk_drew ?_ | refine blk_alloc ?_ _)); exact BK284.out)) : gb302 ≠ gb284))
                              clear HO_284000
                              clear HO_284001
                              clear HO297
                              clear HO300
                              clear BK283
                              clear BK284
                              clear HB
                              have HO_284000 := n0_
                              have HO_284001 := n1_
                              have HO297 := n2_
                              have HO300 := n3_
                              have BK283 := n4_
                              have BK284 := n5_
                              have HB := n6_
                              have BK302 := n7_
                              have GW302 := n8_
                              have GE302 := n9_
                              have NB283_302 := n10_
                              have NB302_283 := n11_
                              have NB284_302 := n12_
                              have NB302_284 := n13_
                              clear n0_ n1_ n2_ n3_ n4_ n5_ n6_ n7_ n8_ n9_ n10_ n11_ n12_ n13_
                              clear hb hbox hg
                              refine hK.out _ _ ⟨(blk_cell BK283.out 0).trans rfl, (blk_cell BK283.out 1).trans rfl, ((HB.out.cell (World.block_lt_of_cell? w _ hw293_0)).trans hw293_0), ((HB.out.cell (World.block_lt_of_cell? w _ hw293_1)).trans hw293_1), ((HB.out.cell (World.block_lt_of_cell? w _ hw294_0)).trans hw294_0), ((HB.out.cell (World.block_lt_of_cell? w _ hw294_1)).trans hw294_1)⟩ (fun hHeld => ?_)
                              clear hK K
                              refine norm_ (a' := ?_) ?_ ?_
                              rotate_left
                              · show Act.put _ (some 9) _ = _
                                simp only [Act.put, List.setIfInBounds_toArray, List.set_cons_zero, List.set_cons_succ, i64_w, i32_w]
                                rfl
                              exact norm_ (by simp only [putAll, Act.put, List.setIfInBounds_toArray, List.set_cons_zero, List.set_cons_succ]) (hCont (v296, v299, gb302) _ ⟨hHeld, (by (with_reducible repeat (first | apply Kd.V_alloc | apply Kd.V_drewN | apply Kd.V_drew)); exact Kd.V_mono HO297.out (fun _ hk => ⟨hk.1.1, ⟨hk.1.2.1, ⟨hk.1.2.2, hk.2⟩⟩⟩)), (by (with_reducible repeat (first | apply Kd.V_alloc | apply Kd.V_drewN | apply Kd.V_drew)); exact Kd.V_mono HO300.out (fun _ hk => ⟨hk.1.1, ⟨hk.1.2.1, ⟨hk.1.2.2, hk.2⟩⟩⟩)), (by (with_reducible repeat (first | apply Kd.V_alloc | apply Kd.V_drewN | apply Kd.V_drew)); exact Kd.V_mono HO_284000.out (fun _ hk => ⟨hk.1.1, ⟨hk.1.2.1, ⟨hk.1.2.2, hk.2⟩⟩⟩)), (by (with_reducible repeat (first | apply Kd.V_alloc | apply Kd.V_drewN | apply Kd.V_drew)); exact Kd.V_mono HO_284001.out (fun _ hk => ⟨hk.1.1, ⟨hk.1.2.1, ⟨hk.1.2.2, hk.2⟩⟩⟩)), (by (with_reducible repeat (first | refine blk_drewN ?_ _ | refine blk_drew ?_ | refine blk_alloc ?_ _)); exact BK283.out), (by (with_reducible repeat (first | refine blk_drewN ?_ _ | refine blk_drew ?_ | refine blk_alloc ?_ _)); exact BK284.out), (by (with_reducible repeat (first | refine blk_drewN ?_ _ | refine blk_drew ?_ | refine blk_alloc ?_ _)); exact BK302.out), GW302.out, GE302.out, NB283_302.out, NB302_283.out, NB284_302.out, NB302_284.out, (by repeat (first | (with_reducible first | exact HB.out | apply below_alloc | apply pw_below_drewN | apply below_drew1 | refine below_set ?_ GE283.out | refine below_set ?_ GE284.out | refine below_set ?_ GE302.out) | exact HB.out))⟩)
                            · skip
                              refine box_step ?hg (N := 9) ?hd (cs := #[.slice none 0 0, .slice none 0 0]) (t := 63) ?hr ?_; (case hd => rfl); (case hg => rfl); (case hr => first | (go_simp; done) | (go_simp; rfl))
                              intro gb302 hg w51 hbox hb
                              have n0_ := Aside0.mk (Kd.V_below (Kd.V_elderB (by (with_reducible repeat (first | apply Kd.V_alloc | apply Kd.V_drewN | apply Kd.V_drew)); exact HO_284000.out) gb302 (Nat.le_of_eq hg.symm)) hb)
                              have n1_ := Aside0.mk (Kd.V_below (Kd.V_elderB (by (with_reducible repeat (first | apply Kd.V_alloc | apply Kd.V_drewN | apply Kd.V_drew)); exact HO_284001.out) gb302 (Nat.le_of_eq hg.symm)) hb)
                              have n2_ := Aside0.mk (blk_below (g := gb283) (o := .cells #[.slice Ao48 x284000_1.length co48, .slice Ao49 x284001_1.length co49] 63 (0, 0)) (by (with_reducible repeat (first | refine blk_drewN ?_ _ | refine blk_drew ?_ | refine blk_alloc ?_ _)); exact BK283.out) hb)
                              have n3_ := Aside0.mk (blk_below (g := gb284) (o := .cells #[.slice none 0 0, .slice none 0 0] 63 (0, 0)) (by (with_reducible repeat (first | refine blk_drewN ?_ _ | refine blk_drew ?_ | refine blk_alloc ?_ _)); exact BK284.out) hb)
                              have n4_ := Aside0.mk (below_step (by repeat (first | (with_reducible first | exact HB.out | apply below_alloc | apply pw_below_drewN | apply below_drew1 | refine below_set ?_ GE283.out | refine below_set ?_ GE284.out) | exact HB.out)) hb)
                              have n5_ := Aside0.mk (hbox)
                              have n6_ := Aside0.mk ((by rw [hg]; exact (below_size (by repeat (first | (with_reducible first | exact HB.out | apply below_alloc | apply pw_below_drewN | apply below_drew1 | refine below_set ?_ GE283.out | refine below_set ?_ GE284.out) | exact HB.out))) : w.heap.size ≤ gb302))
                              have n7_ := Aside0.mk ((by rw [hg]; exact (below_size (by repeat (first | (with_reducible first | exact HB.out | apply below_alloc | apply pw_below_drewN | apply below_drew1 | refine below_set ?_ GE283.out | refine below_set ?_ GE284.out) | exact HB.out))) : w.heap.size ≤ gb302))
                              have n8_ := Aside0.mk ((by rw [hg]; exact Nat.ne_of_lt (blk_lt (g := gb283) (o := .cells #[.slice Ao48 x284000_1.length co48, .slice Ao49 x284001_1.length co49] 63 (0, 0)) (by (with_reducible repeat (first | refine blk_drewN ?_ _ | refine blk_drew ?_ | refine blk_alloc ?_ _)); exact BK283.out)) : gb283 ≠ gb302))
                              have n9_ := Aside0.mk ((by rw [hg]; exact Nat.ne_of_gt (blk_lt (g := gb283) (o := .cells #[.slice Ao48 x284000_1.length co48, .slice Ao49 x284001_1.length co49] 63 (0, 0)) (by (with_reducible repeat (first | refine blk_drewN ?_ _ | refine blk_drew ?_ | refine blk_alloc ?_ _)); exact BK283.out)) : gb302 ≠ gb283))
                              have n10_ := Aside0.mk ((by rw [hg]; exact Nat.ne_of_lt (blk_lt (g := gb284) (o := .cells #[.slice none 0 0, .slice none 0 0] 63 (0, 0)) (by (with_reducible repeat (first | refine blk_drewN ?_ _ | refine blk_drew ?_ | refine blk_alloc ?_ _)); exact BK284.out)) : gb284 ≠ gb302))
                              have n11_ := Aside0.mk ((by rw [hg]; exact Nat.ne_of_gt (blk_lt (g := gb284) (o := .cells #[.slice none 0 0, .slice none 0 0] 63 (0, 0)) (by (with_reducible repeat (first | refine blk_drewN ?_ _ | refine blk_drew ?_ | refine blk_alloc ?_ _)); exact BK284.out)) : gb302 ≠ gb284))
                              clear HO_284000
                              clear HO_284001
                              clear BK283
                              clear BK284
                              clear HB
                              have HO_284000 := n0_
                              have HO_284001 := n1_
                              have BK283 := n2_
                              have BK284 := n3_
                              have HB := n4_
                              have BK302 := n5_
                              have GW302 := n6_
                              have GE302 := n7_
                              have NB283_302 := n8_
                              have NB302_283 := n9_
                              have NB284_302 := n10_
                              have NB302_284 := n11_
                              clear n0_ n1_ n2_ n3_ n4_ n5_ n6_ n7_ n8_ n9_ n10_ n11_
                              clear hb hbox hg
                              refine hK.out _ _ ⟨(blk_cell BK283.out 0).trans rfl, (blk_cell BK283.out 1).trans rfl, ((HB.out.cell (World.block_lt_of_cell? w _ hw293_0)).trans hw293_0), ((HB.out.cell (World.block_lt_of_cell? w _ hw293_1)).trans hw293_1), ((HB.out.cell (World.block_lt_of_cell? w _ hw294_0)).trans hw294_0), ((HB.out.cell (World.block_lt_of_cell? w _ hw294_1)).trans hw294_1)⟩ (fun hHeld => ?_)
                              clear hK K
                              refine norm_ (a' := ?_) ?_ ?_
                              rotate_left
                              · show Act.put _ (some 9) _ = _
                                simp only [Act.put, List.setIfInBounds_toArray, List.set_cons_zero, List.set_cons_succ, i64_w, i32_w]
                                rfl
                              refine one_ (i := 11) (N := some 54) #[true, true, true, true, true, true, true, true, true, true, true, true, false, false, false, true, false, false] rfl rfl (one_of HT_.out (by kernel_rfl)) (by decide) (fun K hK => ?_)
                              refine goes_ Try.func45 (by kernel_rfl) rfl #[.agg #[.slice Ao48 x284000_1.length co48, .slice Ao49 x284001_1.length co49], .int .i64 ((rd_T79 l1 x8_1).f0), .string ((rd_T79 l1 x8_1).f1)] (by rfl) rfl rfl (by (try simp only [List.map_toArray, List.map_cons, List.map_nil]); first | done | rfl | (simp only [List.length_drop, List.length_take]; rfl)) ?_
                              with_reducible refine (assartref02_Put.calls (fun k_ => ((((P0_0_ k_ ∨ P0_1_ k_) ∨ w.heap.size ≤ k_) ∧ (k_ ≠ gb283 ∧ k_ ≠ gb284)) ∧ k_ ≠ gb302)) _ _ x284000_1 (fun k_ => ((((P0_0_ k_ ∨ P0_1_ k_) ∨ w.heap.size ≤ k_) ∧ (k_ ≠ gb283 ∧ k_ ≠ gb284)) ∧ k_ ≠ gb302)) _ _ x284001_1 ((rd_T79 l1 x8_1).f0) ((rd_T79 l1 x8_1).f1) t295 t298 t301 _ ?side1 ?side2 A31.out).mono ?_
                              (case side1 => exact HO_284000.out)
                              (case side2 => exact HO_284001.out)
                              rintro e w52 ⟨v296, v299, rfl, ho0, ho1, hb⟩
                              refine ⟨_, rfl, ?_⟩
                              have n0_ := Aside0.mk (Kd.V_below (by (with_reducible repeat (first | apply Kd.V_alloc | apply Kd.V_drewN | apply Kd.V_drew)); exact HO_284000.out) hb)
                              have n1_ := Aside0.mk (Kd.V_below (by (with_reducible repeat (first | apply Kd.V_alloc | apply Kd.V_drewN | apply Kd.V_drew)); exact HO_284001.out) hb)
                              have n2_ := Aside0.mk (Kd.V_lower (Kd.V_mono (ok' := fun k_ => ((P0_0_ k_ ∨ P0_1_ k_) ∨ w.heap.size ≤ k_) ∧ k_ ≠ gb283 ∧ k_ ≠ gb284 ∧ k_ ≠ gb302) ho0 (fun k_ hk_ => ⟨Or.elim hk_ (fun hs_ => Or.elim hs_ (fun hs_ => hs_.1.1) (fun hs_ => hs_.1.1)) (fun hn_ => (.inr (Nat.le_trans (below_size (by repeat (first | (with_reducible first | exact HB.out | apply below_alloc | apply pw_below_drewN | apply below_drew1 | refine below_set ?_ GE283.out | refine below_set ?_ GE284.out | refine below_set ?_ GE302.out) | exact HB.out))) hn_))), Or.elim hk_ (fun hs_ => Or.elim hs_ (fun hs_ => hs_.1.2.1) (fun hs_ => hs_.1.2.1)) (fun hn_ => (Kd.freshB (g := gb283) (o := .cells #[.slice Ao48 x284000_1.length co48, .slice Ao49 x284001_1.length co49] 63 (0, 0)) (by (with_reducible repeat (first | refine blk_drewN ?_ _ | refine blk_drew ?_ | refine blk_alloc ?_ _)); exact BK283.out) k_ hn_)), Or.elim hk_ (fun hs_ => Or.elim hs_ (fun hs_ => hs_.1.2.2) (fun hs_ => hs_.1.2.2)) (fun hn_ => (Kd.freshB (g := gb284) (o := .cells #[.slice none 0 0, .slice none 0 0] 63 (0, 0)) (by (with_reducible repeat (first | refine blk_drewN ?_ _ | refine blk_drew ?_ | refine blk_alloc ?_ _)); exact BK284.out) k_ hn_)), Or.elim hk_ (fun hs_ => Or.elim hs_ (fun hs_ => hs_.2) (fun hs_ => hs_.2)) (fun hn_ => (Kd.freshB (g := gb302) (o := .cells #[.slice none 0 0, .slice none 0 0] 63 (0, 0)) (by (with_reducible repeat (first | refine blk_drewN ?_ _ | refine blk_drew ?_ | refine blk_alloc ?_ _)); exact BK302.out) k_ hn_))⟩)) (below_size (by repeat (first | (with_reducible first | exact HB.out | apply below_alloc | apply pw_below_drewN | apply below_drew1 | refine below_set ?_ GE283.out | refine below_set ?_ GE284.out | refine below_set ?_ GE302.out) | exact HB.out))))
                              have n3_ := Aside0.mk (Kd.V_lower (Kd.V_mono (ok' := fun k_ => ((P0_0_ k_ ∨ P0_1_ k_) ∨ w.heap.size ≤ k_) ∧ k_ ≠ gb283 ∧ k_ ≠ gb284 ∧ k_ ≠ gb302) ho1 (fun k_ hk_ => ⟨Or.elim hk_ (fun hs_ => Or.elim hs_ (fun hs_ => hs_.1.1) (fun hs_ => hs_.1.1)) (fun hn_ => (.inr (Nat.le_trans (below_size (by repeat (first | (with_reducible first | exact HB.out | apply below_alloc | apply pw_below_drewN | apply below_drew1 | refine below_set ?_ GE283.out | refine below_set ?_ GE284.out | refine below_set ?_ GE302.out) | exact HB.out))) hn_))), Or.elim hk_ (fun hs_ => Or.elim hs_ (fun hs_ => hs_.1.2.1) (fun hs_ => hs_.1.2.1)) (fun hn_ => (Kd.freshB (g := gb283) (o := .cells #[.slice Ao48 x284000_1.length co48, .slice Ao49 x284001_1.length co49] 63 (0, 0)) (by (with_reducible repeat (first | refine blk_drewN ?_ _ | refine blk_drew ?_ | refine blk_alloc ?_ _)); exact BK283.out) k_ hn_)), Or.elim hk_ (fun hs_ => Or.elim hs_ (fun hs_ => hs_.1.2.2) (fun hs_ => hs_.1.2.2)) (fun hn_ => (Kd.freshB (g := gb284) (o := .cells #[.slice none 0 0, .slice none 0 0] 63 (0, 0)) (by (with_reducible repeat (first | refine blk_drewN ?_ _ | refine blk_drew ?_ | refine blk_alloc ?_ _)); exact BK284.out) k_ hn_)), Or.elim hk_ (fun hs_ => Or.elim hs_ (fun hs_ => hs_.2) (fun hs_ => hs_.2)) (fun hn_ => (Kd.freshB (g := gb302) (o := .cells #[.slice none 0 0, .slice none 0 0] 63 (0, 0)) (by (with_reducible repeat (first | refine blk_drewN ?_ _ | refine blk_drew ?_ | refine blk_alloc ?_ _)); exact BK302.out) k_ hn_))⟩)) (below_size (by repeat (first | (with_reducible first | exact HB.out | apply below_alloc | apply pw_below_drewN | apply below_drew1 | refine below_set ?_ GE283.out | refine below_set ?_ GE284.out | refine below_set ?_ GE302.out) | exact HB.out))))
                              have n4_ := Aside0.mk (blk_below (g := gb283) (o := .cells #[.slice Ao48 x284000_1.length co48, .slice Ao49 x284001_1.length co49] 63 (0, 0)) (by (with_reducible repeat (first | refine blk_drewN ?_ _ | refine blk_drew ?_ | refine blk_alloc ?_ _)); exact BK283.out) hb)
                              have n5_ := Aside0.mk (blk_below (g := gb284) (o := .cells #[.slice none 0 0, .slice none 0 0] 63 (0, 0)) (by (with_reducible repeat (first | refine blk_drewN ?_ _ | refine blk_drew ?_ | refine blk_alloc ?_ _)); exact BK284.out) hb)
                              have n6_ := Aside0.mk (blk_below (g := gb302) (o := .cells #[.slice none 0 0, .slice none 0 0] 63 (0, 0)) (by (with_reducible repeat (first | refine blk_drewN ?_ _ | refine blk_drew ?_ | refine blk_alloc ?_ _)); exact BK302.out) hb)
                              have n7_ := Aside0.mk (below_step (by repeat (first | (with_reducible first | exact HB.out | apply below_alloc | apply pw_below_drewN | apply below_drew1 | refine below_set ?_ GE283.out | refine below_set ?_ GE284.out | refine below_set ?_ GE302.out) | exact HB.out)) hb)
                              clear HO_284000
                              clear HO_284001
                              clear BK283
                              clear BK284
                              clear BK302
                              clear HB
                              have HO_284000 := n0_
                              have HO_284001 := n1_
                              have HO297 := n2_
                              have HO300 := n3_
                              have BK283 := n4_
                              have BK284 := n5_
                              have BK302 := n6_
                              have HB := n7_
                              clear n0_ n1_ n2_ n3_ n4_ n5_ n6_ n7_
                              (try clear hb)
                              (try clear hb2)
                              (try clear hk)
                              (try clear hi)
                              (try clear ho0)
                              (try clear ho1)
                              refine hK.out _ _ ⟨(blk_cell BK283.out 0).trans rfl, (blk_cell BK283.out 1).trans rfl, ((HB.out.cell (World.block_lt_of_cell? w _ hw293_0)).trans hw293_0), ((HB.out.cell (World.block_lt_of_cell? w _ hw293_1)).trans hw293_1), ((HB.out.cell (World.block_lt_of_cell? w _ hw294_0)).trans hw294_0), ((HB.out.cell (World.block_lt_of_cell? w _ hw294_1)).trans hw294_1)⟩ (fun hHeld => ?_)
                              clear hK K
                              refine norm_ (a' := ?_) ?_ ?_
                              rotate_left
                              · show Act.put _ (some 54) _ = _
                                simp only [Act.put, List.setIfInBounds_toArray, List.set_cons_zero, List.set_cons_succ, i64_w, i32_w]
                                rfl
                              refine pure_ (i := 12) (N := some 42) (v := ?_) (a' := ?_) #[true, true, true, true, true, true, true, true, true, true, true, true, true, false, false, true, false, false] rfl rfl (any_of HT_.out (by kernel_rfl)) (fun _ _ _ h => h) (Or.inl ⟨by rfl, ?_⟩) ?_ ?_
                              rotate_left
                              · intro w'
                                go_simp
                                with_reducible rfl
                              rotate_left
                              · simp only [Act.put, List.setIfInBounds_toArray, List.set_cons_zero, List.set_cons_succ, i64_w, i32_w]
                                rfl
                              refine pure_ (i := 13) (N := some 55) (v := ?_) (a' := ?_) #[true, true, true, true, true, true, true, true, true, true, true, true, true, true, false, true, false, false] rfl rfl (any_of HT_.out (by kernel_rfl)) (fun _ _ _ h => h) (Or.inl ⟨by rfl, ?_⟩) ?_ ?_
                              rotate_left
                              · intro w'
                                go_simp
                                with_reducible rfl
                              rotate_left
                              · simp only [Act.put, List.setIfInBounds_toArray, List.set_cons_zero, List.set_cons_succ, i64_w, i32_w]
                                rfl
                              refine pure_ (i := 14) (N := some 56) (v := ?_) (a' := ?_) #[true, true, true, true, true, true, true, true, true, true, true, true, true, true, true, true, false, false] rfl rfl (any_of HT_.out (by kernel_rfl)) (fun _ _ _ h => h) (Or.inl ⟨by rfl, ?_⟩) ?_ ?_
                              rotate_left
                              · intro w'
                                go_simp
                                with_reducible rfl
                              rotate_left
                              · simp only [Act.put, List.setIfInBounds_toArray, List.set_cons_zero, List.set_cons_succ, i64_w, i32_w]
                                rfl
                              exact norm_ (by simp only [putAll, Act.put, List.setIfInBounds_toArray, List.set_cons_zero, List.set_cons_succ]) (hCont (v296, v299, gb302) _ ⟨hHeld, (by (with_reducible repeat (first | apply Kd.V_alloc | apply Kd.V_drewN | apply Kd.V_drew)); exact HO297.out), (by (with_reducible repeat (first | apply Kd.V_alloc | apply Kd.V_drewN | apply Kd.V_drew)); exact HO300.out), (by (with_reducible repeat (first | apply Kd.V_alloc | apply Kd.V_drewN | apply Kd.V_drew)); exact Kd.V_mono HO_284000.out (fun _ hk => ⟨hk.1.1, ⟨hk.1.2.1, ⟨hk.1.2.2, hk.2⟩⟩⟩)), (by (with_reducible repeat (first | apply Kd.V_alloc | apply Kd.V_drewN | apply Kd.V_drew)); exact Kd.V_mono HO_284001.out (fun _ hk => ⟨hk.1.1, ⟨hk.1.2.1, ⟨hk.1.2.2, hk.2⟩⟩⟩)), (by (with_reducible repeat (first | refine blk_drewN ?_ _ | refine blk_drew ?_ | refine blk_alloc ?_ _)); exact BK283.out), (by (with_reducible repeat (first | refine blk_drewN ?_ _ | refine blk_drew ?_ | refine blk_alloc ?_ _)); exact BK284.out), (by (with_reducible repeat (first | refine blk_drewN ?_ _ | refine blk_drew ?_ | refine blk_alloc ?_ _)); exact BK302.out), GW302.out, GE302.out, NB283_302.out, NB302_283.out, NB284_302.out, NB302_284.out, (by repeat (first | (with_reducible first | exact HB.out | apply below_alloc | apply pw_below_drewN | apply below_drew1 | refine below_set ?_ GE283.out | refine below_set ?_ GE284.out | refine below_set ?_ GE302.out) | exact HB.out))⟩)
                          rintro ⟨v296, v299, gb302⟩ w53 ⟨hS_, h0_, h1_, h2_, h3_, h4_, h5_, h6_, h7_, h8_, h9_, h10_, h11_, h12_, h13_⟩
                          have n0_ : Aside0 (Kd.V Kd.string 9 w53 w.heap.size (fun k_ => ((P0_0_ k_ ∨ P0_1_ k_) ∨ w.heap.size ≤ k_) ∧ k_ ≠ gb283 ∧ k_ ≠ gb284 ∧ k_ ≠ gb302) v296 t295) := ⟨h0_⟩
                          have n1_ : Aside0 (Kd.V k79 79 w53 w.heap.size (fun k_ => ((P0_0_ k_ ∨ P0_1_ k_) ∨ w.heap.size ≤ k_) ∧ k_ ≠ gb283 ∧ k_ ≠ gb284 ∧ k_ ≠ gb302) v299 t298) := ⟨h1_⟩
                          have n2_ : Aside0 (Kd.V Kd.string 9 w53 w.heap.size (fun k_ => ((P0_0_ k_ ∨ P0_1_ k_) ∨ w.heap.size ≤ k_) ∧ k_ ≠ gb283 ∧ k_ ≠ gb284 ∧ k_ ≠ gb302) (.slice Ao48 x284000_1.length co48) x284000_1) := ⟨h2_⟩
                          have n3_ : Aside0 (Kd.V k79 79 w53 w.heap.size (fun k_ => ((P0_0_ k_ ∨ P0_1_ k_) ∨ w.heap.size ≤ k_) ∧ k_ ≠ gb283 ∧ k_ ≠ gb284 ∧ k_ ≠ gb302) (.slice Ao49 x284001_1.length co49) x284001_1) := ⟨h3_⟩
                          have n4_ : Aside0 (w53.heap[gb283]? = some (.cells #[.slice Ao48 x284000_1.length co48, .slice Ao49 x284001_1.length co49] 63 (0, 0))) := ⟨h4_⟩
                          have n5_ : Aside0 (w53.heap[gb284]? = some (.cells #[.slice none 0 0, .slice none 0 0] 63 (0, 0))) := ⟨h5_⟩
                          have n6_ : Aside0 (w53.heap[gb302]? = some (.cells #[.slice none 0 0, .slice none 0 0] 63 (0, 0))) := ⟨h6_⟩
                          have n7_ : Aside0 (w.heap.size ≤ gb302) := ⟨h7_⟩
                          have n8_ : Aside0 (w.heap.size ≤ gb302) := ⟨h8_⟩
                          have n9_ : Aside0 (gb283 ≠ gb302) := ⟨h9_⟩
                          have n10_ : Aside0 (gb302 ≠ gb283) := ⟨h10_⟩
                          have n11_ : Aside0 (gb284 ≠ gb302) := ⟨h11_⟩
                          have n12_ : Aside0 (gb302 ≠ gb284) := ⟨h12_⟩
                          have n13_ : Aside0 (Below w.heap.size w w53) := ⟨h13_⟩
                          clear HO_284000
                          clear HO_284001
                          clear BK283
                          clear BK284
                          clear HB
                          clear h0_ h1_ h2_ h3_ h4_ h5_ h6_ h7_ h8_ h9_ h10_ h11_ h12_ h13_
                          have HO297 := n0_
                          have HO300 := n1_
                          have HO_284000 := n2_
                          have HO_284001 := n3_
                          have BK283 := n4_
                          have BK284 := n5_
                          have BK302 := n6_
                          have GW302 := n7_
                          have GE302 := n8_
                          have NB283_302 := n9_
                          have NB302_283 := n10_
                          have NB284_302 := n11_
                          have NB302_284 := n12_
                          have HB := n13_
                          clear n0_ n1_ n2_ n3_ n4_ n5_ n6_ n7_ n8_ n9_ n10_ n11_ n12_ n13_
                          have hHeld : w53.cell? ⟨gb283, 0, none⟩ = some (.slice Ao48 x284000_1.length co48) ∧ w53.cell? ⟨gb283, 1, none⟩ = some (.slice Ao49 x284001_1.length co49) ∧ w53.cell? (ad293.add ((x8_1).toNat * 2)) = some (.int .i64 ((rd_T79 l1 x8_1).f0)) ∧ w53.cell? ⟨(ad293.add ((x8_1).toNat * 2)).block, (ad293.add ((x8_1).toNat * 2)).off + 1, none⟩ = some (.string ((rd_T79 l1 x8_1).f1)) ∧ w53.cell? (ad293.add ((x8_1).toNat * 2)) = some (.int .i64 ((rd_T79 l1 x8_1).f0)) ∧ w53.cell? ⟨(ad293.add ((x8_1).toNat * 2)).block, (ad293.add ((x8_1).toNat * 2)).off + 1, none⟩ = some (.string ((rd_T79 l1 x8_1).f1)) := hS_
                          obtain ⟨Ao54, co54, eo54⟩ := Kd.V_slice HO297.out
                          (first | subst eo54 | (injection eo54 with f1_ f2_ f3_; have f4_ := f1_.symm; have f5_ := f3_.symm; clear f1_ f2_ f3_; subst f4_; subst f5_))
                          obtain ⟨Ao56, co56, eo56⟩ := Kd.V_slice HO300.out
                          (first | subst eo56 | (injection eo56 with f1_ f2_ f3_; have f4_ := f1_.symm; have f5_ := f3_.symm; clear f1_ f2_ f3_; subst f4_; subst f5_))
                          refine norm_ (a' := ?_) ?_ ?_
                          rotate_left
                          · simp only [putAll, Act.put, List.setIfInBounds_toArray, List.set_cons_zero, List.set_cons_succ]
                            rfl
                          refine one_ (i := 16) (N := none) #[true, true, true, true, true, true, true, true, true, true, true, true, true, true, true, true, true, false] rfl rfl (one_of HT_.out (by kernel_rfl)) (by decide) (fun K hK => ?_)
                          have hs55 : w53.cell? ⟨gb302, 0, none⟩ = some (.slice none 0 0) := (blk_cell BK302.out 0).trans rfl
                          have hfs55 := blk_frozen BK302.out 0
                          have hns55_0 := NB283_302.out
                          have hns55_1 := NB284_302.out
                          have hms55_0 := NB302_283.out
                          have hms55_1 := NB302_284.out
                          have hs57 : w53.cell? ⟨gb302, 1, none⟩ = some (.slice none 0 0) := (blk_cell BK302.out 1).trans rfl
                          have hfs57 := blk_frozen BK302.out 1
                          have hns57_0 := NB283_302.out
                          have hns57_1 := NB284_302.out
                          have hms57_0 := NB302_283.out
                          have hms57_1 := NB302_284.out
                          refine skip_ (w1 := ?_) (by rfl) rfl ?_ ?_
                          rotate_left
                          · go_simp
                            rfl
                          refine hK.out _ _ ⟨((cell_far (p := ⟨gb302, _, none⟩) NB283_302.out _).trans (((cell_far (p := ⟨gb302, _, none⟩) NB283_302.out _).trans (hHeld.1)))), ((cell_far (p := ⟨gb302, _, none⟩) NB283_302.out _).trans (((cell_far (p := ⟨gb302, _, none⟩) NB283_302.out _).trans (hHeld.2.1)))), ((cell_far (p := ⟨gb302, _, none⟩) (by first | exact Nat.ne_of_lt (Nat.lt_of_lt_of_le (by have := World.block_lt_of_cell? _ _ hw293_0; first | rwa [add_block] at this | exact this) GW302.out) | (rw [add_block]; exact Nat.ne_of_lt (Nat.lt_of_lt_of_le (by have := World.block_lt_of_cell? _ _ hw293_0; first | rwa [add_block] at this | exact this) GW302.out)) | (show (Addr.add _ _).block ≠ _; rw [add_block]; exact Nat.ne_of_lt (Nat.lt_of_lt_of_le (by have := World.block_lt_of_cell? _ _ hw293_0; first | rwa [add_block] at this | exact this) GW302.out)) | (dsimp only; exact Nat.ne_of_lt (Nat.lt_of_lt_of_le (by have := World.block_lt_of_cell? _ _ hw293_0; first | rwa [add_block] at this | exact this) GW302.out))) _).trans (((cell_far (p := ⟨gb302, _, none⟩) (by first | exact Nat.ne_of_lt (Nat.lt_of_lt_of_le (by have := World.block_lt_of_cell? _ _ hw293_0; first | rwa [add_block] at this | exact this) GW302.out) | (rw [add_block]; exact Nat.ne_of_lt (Nat.lt_of_lt_of_le (by have := World.block_lt_of_cell? _ _ hw293_0; first | rwa [add_block] at this | exact this) GW302.out)) | (show (Addr.add _ _).block ≠ _; rw [add_block]; exact Nat.ne_of_lt (Nat.lt_of_lt_of_le (by have := World.block_lt_of_cell? _ _ hw293_0; first | rwa [add_block] at this | exact this) GW302.out)) | (dsimp only; exact Nat.ne_of_lt (Nat.lt_of_lt_of_le (by have := World.block_lt_of_cell? _ _ hw293_0; first | rwa [add_block] at this | exact this) GW302.out))) _).trans (hHeld.2.2.1)))), ((cell_far (p := ⟨gb302, _, none⟩) (by first | exact Nat.ne_of_lt (Nat.lt_of_lt_of_le (by have := World.block_lt_of_cell? _ _ hw293_1; first | rwa [add_block] at this | exact this) GW302.out) | (rw [add_block]; exact Nat.ne_of_lt (Nat.lt_of_lt_of_le (by have := World.block_lt_of_cell? _ _ hw293_1; first | rwa [add_block] at this | exact this) GW302.out)) | (show (Addr.add _ _).block ≠ _; rw [add_block]; exact Nat.ne_of_lt (Nat.lt_of_lt_of_le (by have := World.block_lt_of_cell? _ _ hw293_1; first | rwa [add_block] at this | exact this) GW302.out)) | (dsimp only; exact Nat.ne_of_lt (Nat.lt_of_lt_of_le (by have := World.block_lt_of_cell? _ _ hw293_1; first | rwa [add_block] at this | exact this) GW302.out))) _).trans (((cell_far (p := ⟨gb302, _, none⟩) (by first | exact Nat.ne_of_lt (Nat.lt_of_lt_of_le (by have := World.block_lt_of_cell? _ _ hw293_1; first | rwa [add_block] at this | exact this) GW302.out) | (rw [add_block]; exact Nat.ne_of_lt (Nat.lt_of_lt_of_le (by have := World.block_lt_of_cell? _ _ hw293_1; first | rwa [add_block] at this | exact this) GW302.out)) | (show (Addr.add _ _).block ≠ _; rw [add_block]; exact Nat.ne_of_lt (Nat.lt_of_lt_of_le (by have := World.block_lt_of_cell? _ _ hw293_1; first | rwa [add_block] at this | exact this) GW302.out)) | (dsimp only; exact Nat.ne_of_lt (Nat.lt_of_lt_of_le (by have := World.block_lt_of_cell? _ _ hw293_1; first | rwa [add_block] at this | exact this) GW302.out))) _).trans (hHeld.2.2.2.1)))), ((cell_far (p := ⟨gb302, _, none⟩) (by first | exact Nat.ne_of_lt (Nat.lt_of_lt_of_le (by have := World.block_lt_of_cell? _ _ hw294_0; first | rwa [add_block] at this | exact this) GW302.out) | (rw [add_block]; exact Nat.ne_of_lt (Nat.lt_of_lt_of_le (by have := World.block_lt_of_cell? _ _ hw294_0; first | rwa [add_block] at this | exact this) GW302.out)) | (show (Addr.add _ _).block ≠ _; rw [add_block]; exact Nat.ne_of_lt (Nat.lt_of_lt_of_le (by have := World.block_lt_of_cell? _ _ hw294_0; first | rwa [add_block] at this | exact this) GW302.out)) | (dsimp only; exact Nat.ne_of_lt (Nat.lt_of_lt_of_le (by have := World.block_lt_of_cell? _ _ hw294_0; first | rwa [add_block] at this | exact this) GW302.out))) _).trans (((cell_far (p := ⟨gb302, _, none⟩) (by first | exact Nat.ne_of_lt (Nat.lt_of_lt_of_le (by have := World.block_lt_of_cell? _ _ hw294_0; first | rwa [add_block] at this | exact this) GW302.out) | (rw [add_block]; exact Nat.ne_of_lt (Nat.lt_of_lt_of_le (by have := World.block_lt_of_cell? _ _ hw294_0; first | rwa [add_block] at this | exact this) GW302.out)) | (show (Addr.add _ _).block ≠ _; rw [add_block]; exact Nat.ne_of_lt (Nat.lt_of_lt_of_le (by have := World.block_lt_of_cell? _ _ hw294_0; first | rwa [add_block] at this | exact this) GW302.out)) | (dsimp only; exact Nat.ne_of_lt (Nat.lt_of_lt_of_le (by have := World.block_lt_of_cell? _ _ hw294_0; first | rwa [add_block] at this | exact this) GW302.out))) _).trans (hHeld.2.2.2.2.1)))), ((cell_far (p := ⟨gb302, _, none⟩) (by first | exact Nat.ne_of_lt (Nat.lt_of_lt_of_le (by have := World.block_lt_of_cell? _ _ hw294_1; first | rwa [add_block] at this | exact this) GW302.out) | (rw [add_block]; exact Nat.ne_of_lt (Nat.lt_of_lt_of_le (by have := World.block_lt_of_cell? _ _ hw294_1; first | rwa [add_block] at this | exact this) GW302.out)) | (show (Addr.add _ _).block ≠ _; rw [add_block]; exact Nat.ne_of_lt (Nat.lt_of_lt_of_le (by have := World.block_lt_of_cell? _ _ hw294_1; first | rwa [add_block] at this | exact this) GW302.out)) | (dsimp only; exact Nat.ne_of_lt (Nat.lt_of_lt_of_le (by have := World.block_lt_of_cell? _ _ hw294_1; first | rwa [add_block] at this | exact this) GW302.out))) _).trans (((cell_far (p := ⟨gb302, _, none⟩) (by first | exact Nat.ne_of_lt (Nat.lt_of_lt_of_le (by have := World.block_lt_of_cell? _ _ hw294_1; first | rwa [add_block] at this | exact this) GW302.out) | (rw [add_block]; exact Nat.ne_of_lt (Nat.lt_of_lt_of_le (by have := World.block_lt_of_cell? _ _ hw294_1; first | rwa [add_block] at this | exact this) GW302.out)) | (show (Addr.add _ _).block ≠ _; rw [add_block]; exact Nat.ne_of_lt (Nat.lt_of_lt_of_le (by have := World.block_lt_of_cell? _ _ hw294_1; first | rwa [add_block] at this | exact this) GW302.out)) | (dsimp only; exact Nat.ne_of_lt (Nat.lt_of_lt_of_le (by have := World.block_lt_of_cell? _ _ hw294_1; first | rwa [add_block] at this | exact this) GW302.out))) _).trans (hHeld.2.2.2.2.2))))⟩ (fun hHeld => ?_)
                          clear hK K
                          refine pure_ (i := 17) (N := some 10) (v := ?_) (a' := ?_) #[true, true, true, true, true, true, true, true, true, true, true, true, true, true, true, true, true, true] rfl rfl (any_of HT_.out (by kernel_rfl)) (fun _ _ _ h => h) (Or.inl ⟨by rfl, ?_⟩) ?_ ?_
                          rotate_left
                          · intro w'
                            go_simp
                            with_reducible rfl
                          rotate_left
                          · simp only [Act.put, List.setIfInBounds_toArray, List.set_cons_zero, List.set_cons_succ, i64_w, i32_w]
                            rfl
                          refine done_ (done_of HT_.out (by kernel_rfl)) ?_
                          have hnb58 := NB283_284.out
                          have hnc58 := NB284_283.out
                          have hnb59 := NB283_302.out
                          have hnc59 := NB302_283.out
                          have hcz60_0 : w53.cell? ⟨gb283, 0, none⟩ = some (.slice Ao48 x284000_1.length co48) := (blk_cell BK283.out 0).trans rfl
                          have hcz60_1 : w53.cell? ⟨gb283, 1, none⟩ = some (.slice Ao49 x284001_1.length co49) := (blk_cell BK283.out 1).trans rfl
                          have hfz60_0 := blk_frozen BK283.out 0
                          have hfz60_1 := blk_frozen BK283.out 1
                          have hnb61 := NB284_302.out
                          have hnc61 := NB302_284.out
                          have hcz62_0 : w53.cell? ⟨gb284, 0, none⟩ = some (.slice none 0 0) := (blk_cell BK284.out 0).trans rfl
                          have hcz62_1 : w53.cell? ⟨gb284, 1, none⟩ = some (.slice none 0 0) := (blk_cell BK284.out 1).trans rfl
                          have hfz62_0 := blk_frozen BK284.out 0
                          have hfz62_1 := blk_frozen BK284.out 1
                          try go_wp2
                          refine bodyPost_ret (results_ct rfl _ _ gb284 63 #[.slice Ao48 x284000_1.length co48, .slice Ao49 x284001_1.length co49] (0, 0) _ rfl (by (with_reducible repeat (first | refine blk_drewN ?_ _ | refine blk_drew ?_ | refine blk_alloc ?_ _)); refine blk_put (cs := #[.slice Ao48 x284000_1.length co48, .slice none 0 0]) ?_ 1 _ rfl; (with_reducible repeat (first | refine blk_drewN ?_ _ | refine blk_drew ?_ | refine blk_alloc ?_ _)); refine blk_put (cs := #[.slice none 0 0, .slice none 0 0]) ?_ 0 _ rfl; (with_reducible repeat (first | refine blk_drewN ?_ _ | refine blk_drew ?_ | refine blk_alloc ?_ _)); refine blk_far ?_ NB284_302.out _; (with_reducible repeat (first | refine blk_drewN ?_ _ | refine blk_drew ?_ | refine blk_alloc ?_ _)); refine blk_far ?_ NB284_302.out _; (with_reducible repeat (first | refine blk_drewN ?_ _ | refine blk_drew ?_ | refine blk_alloc ?_ _)); exact BK284.out) Try.underlying63 rfl (by kernel_rfl)) rfl ?_
                          exact ⟨_, _, by first | rfl | (simp [errW_none, errW_some] <;> rfl) | (simp [*, errW_none, errW_some] <;> rfl), by (with_reducible repeat (first | apply Kd.V_alloc | apply Kd.V_drewN | apply Kd.V_drew)); exact Kd.V_mono (Kd.V_far (p := ⟨gb284, 1, none⟩) (Kd.V_far (p := ⟨gb284, 0, none⟩) (Kd.V_far (p := ⟨gb302, 1, none⟩) (Kd.V_far (p := ⟨gb302, 0, none⟩) (Kd.V_mono (Kd.V_mono HO_284000.out (fun k_ hk => (⟨hk, hk.2.2.2⟩ : _ ∧ k_ ≠ gb302))) (fun k_ hk => (⟨hk, hk.1.2.2.1⟩ : _ ∧ k_ ≠ gb284))) (fun _ hk => hk.1.2) (.slice Ao54 t295.length co54)) (fun _ hk => hk.1.2) (.slice Ao56 t298.length co56)) (fun _ hk => hk.2) (.slice Ao48 x284000_1.length co48)) (fun _ hk => hk.2) (.slice Ao49 x284001_1.length co49)) (fun _ hk => hk.1.1.1), by (with_reducible repeat (first | apply Kd.V_alloc | apply Kd.V_drewN | apply Kd.V_drew)); exact Kd.V_mono (Kd.V_far (p := ⟨gb284, 1, none⟩) (Kd.V_far (p := ⟨gb284, 0, none⟩) (Kd.V_far (p := ⟨gb302, 1, none⟩) (Kd.V_far (p := ⟨gb302, 0, none⟩) (Kd.V_mono (Kd.V_mono HO_284001.out (fun k_ hk => (⟨hk, hk.2.2.2⟩ : _ ∧ k_ ≠ gb302))) (fun k_ hk => (⟨hk, hk.1.2.2.1⟩ : _ ∧ k_ ≠ gb284))) (fun _ hk => hk.1.2) (.slice Ao54 t295.length co54)) (fun _ hk => hk.1.2) (.slice Ao56 t298.length co56)) (fun _ hk => hk.2) (.slice Ao48 x284000_1.length co48)) (fun _ hk => hk.2) (.slice Ao49 x284001_1.length co49)) (fun _ hk => hk.1.1.1), by repeat (first | (with_reducible first | exact HB.out | apply below_alloc | apply pw_below_drewN | apply below_drew1 | refine below_set ?_ GE283.out | refine below_set ?_ GE284.out | refine below_set ?_ GE302.out) | exact HB.out)⟩
                      · rw [if_neg c30] at H
                        exact absurd H (by simp)
                    · rw [if_neg c29] at H
                      exact absurd H (by simp)
      · rw [if_neg c6] at H
        have c6b0 : decide (x8_1 < (l1.length : Int)) = false := decide_eq_false c6
        clear c6
        simp only [Option.some.injEq, Prod.mk.injEq] at H
        obtain ⟨rfl, rfl, rfl⟩ := H
        have hnb63 := NB283_284.out
        have hnc63 := NB284_283.out
        have hcz64_0 : wr.cell? ⟨gb283, 0, none⟩ = some (u284000) := (blk_cell BK283.out 0).trans rfl
        have hcz64_1 : wr.cell? ⟨gb283, 1, none⟩ = some (u284001) := (blk_cell BK283.out 1).trans rfl
        have hfz64_0 := blk_frozen BK283.out 0
        have hfz64_1 := blk_frozen BK283.out 1
        obtain ⟨Ao65, co65, eo65⟩ := Kd.V_slice HO_284000.out
        subst eo65
        have hcz66_0 : wr.cell? ⟨gb284, 0, none⟩ = some (.slice none 0 0) := (blk_cell BK284.out 0).trans rfl
        have hcz66_1 : wr.cell? ⟨gb284, 1, none⟩ = some (.slice none 0 0) := (blk_cell BK284.out 1).trans rfl
        have hfz66_0 := blk_frozen BK284.out 0
        have hfz66_1 := blk_frozen BK284.out 1
        obtain ⟨Ao67, co67, eo67⟩ := Kd.V_slice HO_284001.out
        subst eo67
        go_wp2
        refine bodyPost_ret (results_ct rfl _ _ gb284 63 #[.slice Ao65 x284000_1.length co65, .slice Ao67 x284001_1.length co67] (0, 0) _ rfl (by (with_reducible repeat (first | refine blk_drewN ?_ _ | refine blk_drew ?_ | refine blk_alloc ?_ _)); refine blk_put (cs := #[.slice Ao65 x284000_1.length co65, .slice none 0 0]) ?_ 1 _ rfl; (with_reducible repeat (first | refine blk_drewN ?_ _ | refine blk_drew ?_ | refine blk_alloc ?_ _)); refine blk_put (cs := #[.slice none 0 0, .slice none 0 0]) ?_ 0 _ rfl; (with_reducible repeat (first | refine blk_drewN ?_ _ | refine blk_drew ?_ | refine blk_alloc ?_ _)); exact BK284.out) Try.underlying63 rfl (by kernel_rfl)) rfl ?_
        exact ⟨_, _, by first | rfl | (simp [errW_none, errW_some] <;> rfl) | (simp [*, errW_none, errW_some] <;> rfl), by (with_reducible repeat (first | apply Kd.V_alloc | apply Kd.V_drewN | apply Kd.V_drew)); exact Kd.V_mono (Kd.V_far (p := ⟨gb284, 1, none⟩) (Kd.V_far (p := ⟨gb284, 0, none⟩) (Kd.V_mono HO_284000.out (fun k_ hk => (⟨hk, hk.2.2⟩ : _ ∧ k_ ≠ gb284))) (fun _ hk => hk.2) (.slice Ao65 x284000_1.length co65)) (fun _ hk => hk.2) (.slice Ao67 x284001_1.length co67)) (fun _ hk => hk.1.1), by (with_reducible repeat (first | apply Kd.V_alloc | apply Kd.V_drewN | apply Kd.V_drew)); exact Kd.V_mono (Kd.V_far (p := ⟨gb284, 1, none⟩) (Kd.V_far (p := ⟨gb284, 0, none⟩) (Kd.V_mono HO_284001.out (fun k_ hk => (⟨hk, hk.2.2⟩ : _ ∧ k_ ≠ gb284))) (fun _ hk => hk.2) (.slice Ao65 x284000_1.length co65)) (fun _ hk => hk.2) (.slice Ao67 x284001_1.length co67)) (fun _ hk => hk.1.1), by repeat (first | (with_reducible first | exact HB.out | apply below_alloc | apply pw_below_drewN | apply below_drew1 | refine below_set ?_ GE283.out | refine below_set ?_ GE284.out) | exact HB.out)⟩
end Go.Proofs.Ytgjjcgemelafaaa.P
