import Derived.Test.YtopkoganfnabgaaG6
import Derived.Test.YtopkoganfnabgaaG1
import Derived.Test.YtopkoganfnabgaaG2
import Derived.StillTailTactics
namespace Go.Proofs.Ytopkoganfnabgaa.H
open Go.RowKit Go.Proofs.YtopkoganfnabgaaW.PrintWords Go.Proofs.YtopkoganfnabgaaW.PrintLast Go.Proofs.YtopkoganfnabgaaW.PrintMore
attribute [local go_sem] max2_int min2_int max_two min_two max_three min_three max_four min_four
set_option linter.unusedVariables false
set_option linter.unusedSimpArgs false
set_option maxHeartbeats 4000000 in
set_option maxRecDepth 100000 in
/-- The reference's Fill. -/
theorem refFill_walk (A B : Option Addr) (c cb f : Nat) (h h' : Hp) (root p er : Int) (l : List It) (w : World) (hr : kCl.C w A h.c.length h.c) (hcc : h.c.length ≤ c) (hn : kIt.C w B l.length l) (e : fillO f h root l = some (h', p, er)) :
    Calls Try.prog 20 #[.agg #[.slice A h.c.length c, .int .i64 h.keep], .int .i64 root, .slice B l.length cb] w fun e w' => ∃ B' cb', e = .returned (.tuple #[.agg #[.slice B' h'.c.length cb', .int .i64 h'.keep], .int .i64 p, .int .i64 er]) ∧ h'.c.length ≤ cb' ∧ kCl.C w' B' h'.c.length h'.c ∧ Below w.heap.size w w' := by
  have hm := Kd.C_max hn
  obtain ⟨W1, hW1⟩ : ∃ W1, W1 = (w.alloc (.cells #[.slice A h.c.length c, .int .i64 h.keep] 24)).alloc (.cells #[.slice none 0 0, .int .i64 0] 24) := ⟨_, rfl⟩
  have S1 := Aside0.mk (show PuSt w W1 A c h by rw [hW1]; exact pust w A c h hr hcc)
  have HNR := Aside0.mk hn
  have HE := Aside0.mk e
  have hW1' := Aside0.mk hW1
  clear hW1 hr hcc hn e
  go_enter Try.func20, Try.ntmps20
  go_wp2
  rw [← hW1'.out]
  go_loopg [1, 9] l.length (fun g s1 s9 wr => ∃ (k : Nat) (hk : Hp) (rk : Int) (A' : Option Addr) (c' : Nat), s9 = .int .i64 k ∧ s1 = .int .i64 rk ∧ k + g = l.length ∧ Aside0 (fillO f hk rk (l.drop k) = some (h', p, er)) ∧ Aside0 (wr.heap[w.heap.size]? = some (.cells #[.slice A' hk.c.length c', .int .i64 hk.keep] 24 (0, 0))) ∧ Aside0 (hk.c.length ≤ c' ∧ kCl.C wr A' hk.c.length hk.c) ∧ Aside0 (wr.heap[w.heap.size + 1]? = some (.cells #[.slice none 0 0, .int .i64 0] 24 (0, 0))) ∧ Aside0 (Below w.heap.size w wr))
  case atStart => exact ⟨0, h, root, A, c, rfl, rfl, by omega, ⟨by rw [List.drop_zero]; exact HE.out⟩, ⟨S1.out.hh⟩, ⟨S1.out.cl.2, S1.out.cl.1⟩, ⟨S1.out.hr⟩, ⟨S1.out.b0⟩⟩
  case round =>
    obtain ⟨k, hk, rk, A', c', rfl, rfl, hkk, HF, HH, HC, HZ, HB⟩ := hrel
    have b0 := (blk_cell HH.out 0).trans (show _ = some (Value.slice A' hk.c.length c') from rfl)
    have b1 := (blk_cell HH.out 1).trans (show _ = some (Value.int .i64 hk.keep) from rfl)
    by_cases hlt : k < l.length
    · obtain ⟨g1, rfl⟩ : ∃ g1, gk = g1 + 1 := ⟨gk - 1, by omega⟩
      have r1 : decide (k < l.length) = true := decide_eq_true hlt
      have r2 : (k < l.length) = True := eq_true hlt
      obtain ⟨ad, rfl, x0, x1⟩ := at_it (Kd.C_below HNR.out HB.out) k hlt
      have hf := HF.out
      rw [drop_succ zIt l k hlt] at hf
      obtain ⟨x, hx⟩ : ∃ x, x = itAt l k := ⟨_, rfl⟩
      rw [show l.getD k zIt = x from hx.symm] at hf
      rw [← hx] at x0 x1
      obtain ⟨g, q, e1, hput, hcase⟩ := fillO_inv hf
      have HPU := Aside0.mk (fun (W : World) (hb : Below wr.heap.size wr W) => refPut_walk A' c' hk g rk x.k x.v q e1 false f W (Kd.C_below HC.out.2 hb) HC.out.1 hput)
      have HK := Aside0.mk (And.intro hlt hkk)
      have HW := Aside0.mk (show wrap64 ((k : Int) + 1) = ((k + 1 : Nat) : Int) by unfold wrap64; omega)
      clear hf hx hlt hkk hput
      go_upto_region 4 with (fail)
      go_cut [10, 11, 12] from 19 to 35 (fun v10 v11 v12 wx => ∃ (XN : Nat) (A9 : Option Addr) (c9 : Nat), v10 = .pointer (some ⟨XN, 0, none⟩) ∧ v11 = .int .i64 q ∧ v12 = .int .i64 e1 ∧ Aside0 (wx.heap[XN]? = some (.cells #[.slice A9 g.c.length c9, .int .i64 g.keep] 24 (0, 0))) ∧ Aside0 (g.c.length ≤ c9 ∧ kCl.C wx A9 g.c.length g.c) ∧ Aside0 (Below wr.heap.size wr wx))
      case first =>
        go_region_held3 (fun w' => w'.cell? ⟨w.heap.size, 0, none⟩ = some (.slice A' hk.c.length c') ∧ w'.cell? ⟨w.heap.size, 1, none⟩ = some (.int .i64 hk.keep) ∧ w'.cell? (ad.add (k * 2)) = some (.int .i64 x.k) ∧ w'.cell? ⟨(ad.add (k * 2)).block, (ad.add (k * 2)).off + 1, none⟩ = some (.int .i64 x.v)) (first | exact ⟨b0, b1, x0, x1⟩ | exact (fun (hb : Below wr.heap.size wr _) => ⟨bcell hb b0, bcell hb b1, bcell hb x0, bcell hb x1⟩) (by repeat (first | (with_reducible exact Below.refl _ _) | (with_reducible refine below_alloc ?_ _) | (with_reducible refine below_drew1 ?_) | (with_reducible refine pw_below_drewN ?_ _) | (with_reducible exact HB2.out) | (with_reducible refine below_set ?_ (Nat.le_refl _))))) (first | (go_at_call 14; (with_reducible refine (HPU.out _ (by repeat (first | (with_reducible exact Below.refl _ _) | (with_reducible refine below_alloc ?_ _) | (with_reducible refine below_drew1 ?_) | (with_reducible refine pw_below_drewN ?_ _) | fail))).mono ?_); rintro e w2 ⟨B2, c2, rfl, hc2, hr2, hb2⟩; have HB2 := Aside0.mk (show Below wr.heap.size wr w2 from below_step (by repeat (first | (with_reducible exact Below.refl _ _) | (with_reducible refine below_alloc ?_ _) | (with_reducible refine below_drew1 ?_) | (with_reducible refine pw_below_drewN ?_ _) | fail)) hb2); have HR2 := Aside0.mk (And.intro hc2 hr2); (first | (have qx := blk_below (blk_drew (blk_new wr (.cells #[.slice none 0 0, .int .i64 0] 24))) hb2; have QX := Aside0.mk qx; have qx0 := (blk_cell qx 0).trans (show _ = some (Value.slice none 0 0) from rfl); have qx1 := (blk_cell qx 1).trans (show _ = some (Value.int .i64 0) from rfl); have qf0 := blk_frozen qx 0; have qf1 := blk_frozen qx 1; clear qx) | skip); clear hc2 hr2 hb2) | fail)
        · go_wp2
          go_meet
          case rel => exact ⟨w2.heap.size, B2, c2, rfl, rfl, rfl, ⟨blk_new _ _⟩, ⟨HR2.out.1, Kd.C_alloc HR2.out.2 _⟩, ⟨below_alloc HB2.out _⟩⟩
        · go_wp2
          go_meet
          case rel => exact ⟨wr.heap.size, B2, c2, rfl, rfl, rfl, ⟨hb_store QX.out⟩, ⟨HR2.out.1, cl_store HR2.out.2 QX.out⟩, ⟨below_set (below_set HB2.out (Nat.le_refl _)) (Nat.le_refl _)⟩⟩
      case rest =>
        obtain ⟨XN, A9, c9, rfl, rfl, rfl, HXN, HK9, HBX⟩ := hcut
        obtain ⟨W3, hW3⟩ : ∃ W3, W3 = wc := ⟨_, rfl⟩
        rw [← hW3] at HXN HK9 HBX ⊢
        clear hW3 b0 b1 x0 x1
        have HHd := Aside0.mk (blk_below HH.out HBX.out)
        have HZd := Aside0.mk (blk_below HZ.out HBX.out)
        have d0 := (blk_cell HHd.out 0).trans (show _ = some (Value.slice A' hk.c.length c') from rfl)
        have d1 := (blk_cell HHd.out 1).trans (show _ = some (Value.int .i64 hk.keep) from rfl)
        have d2 := (blk_cell HXN.out 0).trans (show _ = some (Value.slice A9 g.c.length c9) from rfl)
        have d3 := (blk_cell HXN.out 1).trans (show _ = some (Value.int .i64 g.keep) from rfl)
        rcases hcase with ⟨h0, hrest⟩ | ⟨h0, eh, ep, ee⟩
        · subst h0
          have HRE := Aside0.mk hrest
          have f0 := blk_frozen HHd.out 0
          have f1 := blk_frozen HHd.out 1
          clear hrest
          go_wp2
          go_roundg g1
          case measure => omega
          case rel => exact ⟨k + 1, g, q, A9, c9, by rw [HW.out], rfl, by have := HK.out.2; omega, HRE, ⟨hb_store HHd.out⟩, ⟨HK9.out.1, cl_store HK9.out.2 HHd.out⟩, ⟨blk_far (blk_far HZd.out (by show w.heap.size + 1 ≠ w.heap.size; omega) _) (by show w.heap.size + 1 ≠ w.heap.size; omega) _⟩, ⟨below_set (below_set (below_step HB.out HBX.out) (Nat.le_refl _)) (Nat.le_refl _)⟩⟩
        · have q1 := bne_t h0
          have HEQ := Aside0.mk (And.intro eh (And.intro ep ee))
          have z0 := (blk_cell HZd.out 0).trans (show _ = some (Value.slice none 0 0) from rfl)
          have z1 := (blk_cell HZd.out 1).trans (show _ = some (Value.int .i64 0) from rfl)
          have f0 := blk_frozen HZd.out 0
          have f1 := blk_frozen HZd.out 1
          clear h0 eh ep ee
          go_wp2
          refine bodyPost_ret (results_ctt rfl _ _ (w.heap.size + 1) 24 #[.slice A' hk.c.length c', .int .i64 hk.keep] (0, 0) _ rfl (hb_store HZd.out) Try.underlying24 rfl (by kernel_rfl)) rfl ?_
          rw [HEQ.out.1, HEQ.out.2.1, HEQ.out.2.2]
          exact ⟨A', c', rfl, HC.out.1, cl_store (Kd.C_below HC.out.2 HBX.out) HZd.out, below_set (below_set (below_step HB.out HBX.out) (by omega)) (by omega)⟩
    · have r1 : decide (k < l.length) = false := decide_eq_false hlt
      have r2 : (k < l.length) = False := eq_false hlt
      have hf := HF.out
      rw [List.drop_eq_nil_of_le (by omega)] at hf
      unfold fillO at hf
      simp only [Option.some.injEq, Prod.mk.injEq] at hf
      obtain ⟨rfl, rfl, rfl⟩ := hf
      have f0 := blk_frozen HZ.out 0
      have f1 := blk_frozen HZ.out 1
      have z0 := (blk_cell HZ.out 0).trans (show _ = some (Value.slice none 0 0) from rfl)
      have z1 := (blk_cell HZ.out 1).trans (show _ = some (Value.int .i64 0) from rfl)
      clear hlt hkk
      go_wp2
      refine bodyPost_ret (results_ctt rfl _ _ (w.heap.size + 1) 24 #[.slice A' hk.c.length c', .int .i64 hk.keep] (0, 0) _ rfl (hb_store HZ.out) Try.underlying24 rfl (by kernel_rfl)) rfl ?_
      exact ⟨A', c', rfl, HC.out.1, cl_store HC.out.2 HZ.out, below_set (below_set HB.out (by omega)) (by omega)⟩
end Go.Proofs.Ytopkoganfnabgaa.H
namespace Go.Proofs.Ytopkoganfnabgaa.H
open Go.RowKit Go.Proofs.YtopkoganfnabgaaW.PrintWords Go.Proofs.YtopkoganfnabgaaW.PrintLast Go.Proofs.YtopkoganfnabgaaW.PrintMore
attribute [local go_sem] max2_int min2_int max_two min_two max_three min_three max_four min_four
set_option linter.unusedVariables false
set_option linter.unusedSimpArgs false
set_option maxHeartbeats 2000000 in
set_option maxRecDepth 100000 in
/-- The reference's New, with nothing kept back. -/
theorem refNew_walk (n : Nat) (w : World) (h1 : 1 ≤ n) (h2 : n ≤ 2000) :
    Calls Try.prog 26 #[.int .i64 (n : Int), .int .i64 0] w fun e w' => ∃ B cb, e = .returned (.tuple #[.agg #[.slice B n cb, .int .i64 0], .int .i64 0]) ∧ n ≤ cb ∧ kCl.C w' B n (List.replicate n zCl) ∧ Below w.heap.size w w' := by
  obtain ⟨W1, hW1⟩ : ∃ W1, W1 = w.alloc (.cells #[.slice none 0 0, .int .i64 0] 24) := ⟨_, rfl⟩
  have HB0 := Aside0.mk (show Below w.heap.size w W1 by rw [hW1]; exact below_alloc (Below.refl _ _) _)
  have HR1 := Aside0.mk (show W1.heap[w.heap.size]? = some (.cells #[.slice none 0 0, .int .i64 0] 24 (0, 0)) by rw [hW1]; exact blk_new w _)
  have q1 : decide ((n : Int) < 1) = false := decide_eq_false (by omega)
  have q2 : decide ((2000 : Int) < (n : Int)) = false := decide_eq_false (by omega)
  have q3 : decide ((n : Int) < 0) = false := decide_eq_false (by omega)
  have q4 : decide (n < 1) = false := decide_eq_false (by omega)
  have q5 : decide (2000 < n) = false := decide_eq_false (by omega)
  have HL := Aside0.mk (And.intro h1 h2)
  have hW1' := Aside0.mk hW1
  clear hW1 h1 h2
  go_enter Try.func26, Try.ntmps26
  go_upto_region 1 with (fail)
  rw [← hW1'.out]
  go_wp2_with (first | ((with_reducible refine gate_dst (N := 23) rfl ?_); refine Kd.R_make kRw w.heap.size 79 rfl (N := 23) rfl 22 _ _ rfl (n : Int) rfl rfl Try.underlying22 (.agg #[.int .i64 0, .bool false, .bool false, .slice none 0 0]) 48 info_cl rfl (by decide) (by decide) zRw (ok := fun _ => True) (okp := fun _ => False) (zrw_M _ _ _) (fun _ h => h.elim) trivial (by omega) (by have := HL.out; rw [Int.toNat_natCast]; omega) HB0.out HB0.out.size ?_; intro v1 w5 ho hb hg hat; rw [Int.toNat_natCast] at ho; obtain ⟨g, cap, hv, hgb, hgl, _⟩ := Kd.R_form ho (by rw [List.length_replicate]; have := HL.out; omega); subst hv; rw [List.length_replicate] at ho ⊢; have HO5 := Aside0.mk ho; have HB5 := Aside0.mk hb; have HBR := Aside0.mk ((hg.block _ (blk_lt HR1.out) (by simp)).trans HR1.out); have e0 := (blk_cell HBR.out 0).trans (show _ = some (Value.slice none 0 0) from rfl); have e1 := (blk_cell HBR.out 1).trans (show _ = some (Value.int .i64 0) from rfl); have f0 := blk_frozen HBR.out 0; have f1 := blk_frozen HBR.out 1; clear ho hb hg hat hgb hgl) | fail)
  refine bodyPost_ret (results_ct rfl _ _ w.heap.size 24 #[.slice (some ⟨g, 0, none⟩) n cap, .int .i64 0] (0, 0) _ rfl (hb_store HBR.out) Try.underlying24 rfl (by kernel_rfl)) rfl ?_
  have h7 := Kd.R_reads' HO5.out
  have hc : CellsC w5 (List.replicate n zRw) (List.replicate n zCl) := ⟨by simp, fun i hi => by
    rw [List.length_replicate] at hi
    rw [List.getD_eq_getElem?_getD, List.getD_eq_getElem?_getD, List.getElem?_replicate, List.getElem?_replicate, if_pos hi, if_pos hi]
    exact ⟨rfl, rfl, rfl, rfl, Nat.le_refl _, Kd.C_nil _ _⟩⟩
  have h8 := h7.2.2
  rw [List.length_replicate] at h8
  have hcl := cl_of_rw h8 hc
  have hcl2 : kCl.C w5 (some ⟨g, 0, none⟩) (List.replicate n zCl).length (List.replicate n zCl) := by rw [List.length_replicate]; exact hcl
  have hst := cl_store (m := n) (c := cap) (Y := some ⟨g, 0, none⟩) (q := 0) hcl HBR.out
  exact ⟨some ⟨g, 0, none⟩, cap, rfl, h7.2.1, hst, below_set (below_set HB5.out (Nat.le_refl _)) (Nat.le_refl _)⟩
end Go.Proofs.Ytopkoganfnabgaa.H
namespace Go.Proofs.Ytopkoganfnabgaa.H
/-- The example of the laws of grow, told by the plain functions. -/
def h20 : Hp := ⟨List.replicate 20 zCl, 0⟩
def l5 : List It := [⟨1, 1⟩, ⟨2, 2⟩, ⟨3, 3⟩, ⟨4, 4⟩, ⟨5, 5⟩]
def shownB : Bool := match fillO 25 h20 (-1) l5 with
  | some (g, r, e) => decide (e = 0) && (decide (r = 6) && (decide (g.c.length = 20) && (!(clAt g 6).n.leaf && (decide ((clAt g 6).n.it.length = 2) && (decide ((itAt (clAt g 6).n.it 1).k = 4) && decide (listO 21 g 6 = some l5))))))
  | none => false
theorem shownB_true : shownB = true := by decide +kernel
def shownC : Bool := match putO 25 h20 (-1) (-1) 0 true with
  | some (g, r, e) => decide (g = h20) && (decide (r = -1) && decide (e = 1))
  | none => false
theorem shownC_true : shownC = true := by decide +kernel
def shownD : Bool := match putO 25 h20 (-1) 7 8 false with
  | some (g, r, e) => decide (g.c.length = 20) && (decide (r = 0) && (decide (e = 0) && decide ((g.c.getD 0 zCl).ref = 1)))
  | none => false
theorem shownD_true : shownD = true := by decide +kernel
end Go.Proofs.Ytopkoganfnabgaa.H
namespace Go.Proofs.Ytopkoganfnabgaa.H
open Go.RowKit Go.Proofs.YtopkoganfnabgaaW.PrintWords Go.Proofs.YtopkoganfnabgaaW.PrintLast Go.Proofs.YtopkoganfnabgaaW.PrintMore
attribute [local go_sem] max2_int min2_int max_two min_two max_three min_three max_four min_four
set_option linter.unusedVariables false
set_option linter.unusedSimpArgs false
theorem five_it (W : World) : kIt.C (W.alloc (.cells #[.int .i64 1, .int .i64 1, .int .i64 2, .int .i64 2, .int .i64 3, .int .i64 3, .int .i64 4, .int .i64 4, .int .i64 5, .int .i64 5] 26)) (some ⟨W.heap.size, 0, none⟩) 5 l5 := by
  refine ⟨by rfl, by decide, fun _ => ⟨⟨W.heap.size, 0, none⟩, rfl, fun j p hj => ?_⟩⟩
  have hjn : j < 5 := (List.getElem?_eq_some_iff.1 hj).1
  have hc := fun i => blk_cell (blk_new W (.cells #[.int .i64 1, .int .i64 1, .int .i64 2, .int .i64 2, .int .i64 3, .int .i64 3, .int .i64 4, .int .i64 4, .int .i64 5, .int .i64 5] 26)) i
  refine ⟨[.int .i64 p.k, .int .i64 p.v], rfl, ⟨_, _, rfl, rfl, rfl⟩, fun i u hu => ?_⟩
  have hi : i < 2 := (List.getElem?_eq_some_iff.1 hu).1
  rw [show (Addr.add ⟨W.heap.size, 0, none⟩ (j * kIt.sz + i)) = ⟨W.heap.size, j * 2 + i, none⟩ by rw [show kIt.sz = 2 from rfl]; simp [Addr.add]; intro h1 h2; omega, hc]
  match j, hjn with
  | 0, _ | 1, _ | 2, _ | 3, _ | 4, _ =>
    obtain rfl := (Option.some.inj hj)
    match i, hi with
    | 0, _ | 1, _ => exact hu
theorem shownB_facts : ∃ g, fillO 25 h20 (-1) l5 = some (g, 6, 0) ∧ g.c.length = 20 ∧ (clAt g 6).n.leaf = false ∧ (clAt g 6).n.it.length = 2 ∧ (itAt (clAt g 6).n.it 1).k = 4 ∧ listO 21 g 6 = some l5 := by
  have h := shownB_true
  unfold shownB at h
  split at h
  · rename_i g r e hf
    simp only [Bool.and_eq_true, decide_eq_true_eq, Bool.not_eq_true'] at h
    obtain ⟨rfl, rfl, h1, h2, h3, h4, h5⟩ := h
    exact ⟨g, hf, h1, h2, h3, h4, h5⟩
  · cases h
theorem shownC_facts : putO 25 h20 (-1) (-1) 0 true = some (h20, -1, 1) := by
  have h := shownC_true
  unfold shownC at h
  split at h
  · rename_i g r e hf
    simp only [Bool.and_eq_true, decide_eq_true_eq] at h
    obtain ⟨rfl, rfl, rfl⟩ := h
    exact hf
  · cases h
theorem shownD_facts : ∃ x, putO 25 h20 (-1) 7 8 false = some (x, 0, 0) ∧ x.c.length = 20 ∧ (x.c.getD 0 zCl).ref = 1 := by
  have h := shownD_true
  unfold shownD at h
  split at h
  · rename_i g r e hf
    simp only [Bool.and_eq_true, decide_eq_true_eq] at h
    obtain ⟨h1, rfl, rfl, h2⟩ := h
    exact ⟨g, hf, h1, h2⟩
  · cases h
set_option maxHeartbeats 4000000 in
set_option maxRecDepth 100000 in
/-- The worked example of the laws of grow comes out true. -/
theorem shown9_walk (w : World) : Calls Try.prog 11 #[] w fun e w' => e = .returned (.bool true) ∧ Below w.heap.size w w' := by
  obtain ⟨g, hf, hgl, hlf, hit, hk4, hli⟩ := shownB_facts
  have hc := shownC_facts
  obtain ⟨x, hd, hxl, hx0⟩ := shownD_facts
  have h20l : h20.c.length = 20 := rfl
  have HNW := Aside0.mk (show ∀ w : World, Calls Try.prog 26 #[.int .i64 20, .int .i64 0] w fun e w' => ∃ B cb, e = .returned (.tuple #[.agg #[.slice B 20 cb, .int .i64 0], .int .i64 0]) ∧ 20 ≤ cb ∧ kCl.C w' B 20 (List.replicate 20 zCl) ∧ Below w.heap.size w w' from fun w => refNew_walk 20 w (by decide) (by decide))
  have HFL := Aside0.mk (show ∀ (A : Option Addr) (c : Nat) (B : Option Addr) (w : World), kCl.C w A 20 h20.c → 20 ≤ c → kIt.C w B 5 l5 → Calls Try.prog 19 #[.agg #[.slice A 20 c, .int .i64 0], .int .i64 (-1), .slice B 5 5] w fun e w' => ∃ B' cb', e = .returned (.tuple #[.agg #[.slice B' 20 cb', .int .i64 g.keep], .int .i64 6, .int .i64 0]) ∧ 20 ≤ cb' ∧ kCl.C w' B' 20 g.c ∧ Below w.heap.size w w' from fun A c B w hr hcc hn => by
    have := growFill_walk A B c 5 25 h20 g (-1) 6 0 l5 w hr hcc hn hf
    rw [hgl] at this
    exact this)
  have HPC := Aside0.mk (show ∀ (A : Option Addr) (c : Nat) (w : World), kCl.C w A 20 h20.c → 20 ≤ c → Calls Try.prog 13 #[.agg #[.slice A 20 c, .int .i64 0], .int .i64 (-1), .int .i64 (-1), .int .i64 0, .bool true] w fun e w' => ∃ B' cb', e = .returned (.tuple #[.agg #[.slice B' 20 cb', .int .i64 0], .int .i64 (-1), .int .i64 1]) ∧ 20 ≤ cb' ∧ kCl.C w' B' 20 h20.c ∧ Below w.heap.size w w' from fun A c w hr hcc => growPut_walk A c h20 h20 (-1) (-1) 0 (-1) 1 true 25 w hr hcc hc)
  have HPD := Aside0.mk (show ∀ (A : Option Addr) (c : Nat) (w : World), kCl.C w A 20 h20.c → 20 ≤ c → Calls Try.prog 13 #[.agg #[.slice A 20 c, .int .i64 0], .int .i64 (-1), .int .i64 7, .int .i64 8, .bool false] w fun e w' => ∃ B' cb', e = .returned (.tuple #[.agg #[.slice B' 20 cb', .int .i64 x.keep], .int .i64 0, .int .i64 0]) ∧ 20 ≤ cb' ∧ kCl.C w' B' 20 x.c ∧ Below w.heap.size w w' from fun A c w hr hcc => by
    have := growPut_walk A c h20 x (-1) 7 8 0 0 false 25 w hr hcc hd
    rw [hxl] at this
    exact this)
  have HLI := Aside0.mk (fun (A : Option Addr) (c : Nat) (w : World) (hr : kCl.C w A 20 g.c) => by
    have := list_walk 21 A c g 6 l5 w (by rw [hgl]; exact hr) hli
    rw [hgl] at this
    exact this)
  rw [show (l5 : List It).length = 5 from rfl] at HLI
  have HIT := Aside0.mk (fun (A B : Option Addr) (c d : Nat) (w : World) (h1 : kIt.C w A 5 l5) (h2 : kIt.C w B 5 l5) => items_walk A B c d l5 l5 w h1 h2)
  rw [show (l5 : List It).length = 5 from rfl, show decide (l5 = l5) = true from decide_eq_true rfl] at HIT
  rw [show clAt g 6 = g.c.getD 6 zCl from rfl] at hlf hit hk4
  have HG := Aside0.mk (And.intro hlf (And.intro hit hk4))
  have HX := Aside0.mk hx0
  clear hf hgl hlf hit hk4 hli hc hd hxl hx0 h20l
  go_enter Try.func11, Try.ntmps11
  go_upto_region 3 with (first | (go_at_call 26; (with_reducible refine (HNW.out _).mono ?_); rintro e w1 ⟨A0, c0, rfl, hc0, hC0, hb1⟩; have HC0 := Aside0.mk hc0; have HA0 := Aside0.mk hC0; have HB1 := Aside0.mk hb1; clear hc0 hC0 hb1) | fail)
  obtain ⟨W, hW⟩ : ∃ W, W = (w1.alloc (.cells #[.slice A0 20 c0, .int .i64 0] 24)).alloc (.cells #[.int .i64 1, .int .i64 1, .int .i64 2, .int .i64 2, .int .i64 3, .int .i64 3, .int .i64 4, .int .i64 4, .int .i64 5, .int .i64 5] 26) := ⟨_, rfl⟩
  have HB := Aside0.mk (show Below w1.heap.size w1 W by rw [hW]; exact below_alloc (below_alloc (Below.refl _ _) _) _)
  have HBW := Aside0.mk (show Below w.heap.size w W from below_step HB1.out HB.out)
  have HBH := Aside0.mk (show W.heap[w1.heap.size]? = some (.cells #[.slice A0 20 c0, .int .i64 0] 24) by rw [hW]; exact blk_alloc (blk_new w1 _) _)
  have hrow := five_it (w1.alloc (.cells #[.slice A0 20 c0, .int .i64 0] 24))
  rw [← hW, World.size_alloc] at hrow
  have HROW := Aside0.mk hrow
  have HA := Aside0.mk (show kCl.C W A0 20 h20.c from Kd.C_below HA0.out HB.out)
  rw [← hW]
  clear hW hrow
  have d0 := (blk_cell HBH.out 0).trans (show _ = some (Value.slice A0 20 c0) from rfl)
  have d1 := (blk_cell HBH.out 1).trans (show _ = some (Value.int .i64 0) from rfl)
  go_upto_region 4 with (first | (go_at_call 19; (with_reducible refine (HFL.out A0 c0 _ _ HA.out HC0.out HROW.out).mono ?_); rintro e w3 ⟨B3, c3, rfl, hc3, hr3, hb3⟩; have HR3 := Aside0.mk (And.intro hc3 hr3); have HB3 := Aside0.mk hb3; clear hc3 hr3 hb3) | fail)
  obtain ⟨W4, hW4⟩ : ∃ W4, W4 = w3.alloc (.cells #[.slice B3 20 c3, .int .i64 g.keep] 24) := ⟨_, rfl⟩
  have HB4 := Aside0.mk (show Below W.heap.size W W4 by rw [hW4]; exact below_alloc HB3.out _)
  have HH4 := Aside0.mk (show W4.heap[w3.heap.size]? = some (.cells #[.slice B3 20 c3, .int .i64 g.keep] 24) by rw [hW4]; exact blk_new w3 _)
  have HR4 := Aside0.mk (show kCl.C W4 B3 20 g.c by rw [hW4]; exact Kd.C_alloc HR3.out.2 _)
  have HA4 := Aside0.mk (Kd.C_below HA.out HB4.out)
  have HBH4 := Aside0.mk (blk_below HBH.out HB4.out)
  have HROW4 := Aside0.mk (Kd.C_below HROW.out HB4.out)
  rw [← hW4]
  clear hW4 d0 d1
  have d0 := (blk_cell HBH4.out 0).trans (show _ = some (Value.slice A0 20 c0) from rfl)
  have d1 := (blk_cell HBH4.out 1).trans (show _ = some (Value.int .i64 0) from rfl)
  go_upto_region 5 with (first | (go_at_call 13; (with_reducible refine (HPC.out A0 c0 _ HA4.out HC0.out).mono ?_); rintro e w5 ⟨B5, c5, rfl, hc5, hr5, hb5⟩; have HB5 := Aside0.mk hb5; clear hc5 hr5 hb5) | fail)
  obtain ⟨W6, hW6⟩ : ∃ W6, W6 = w5.alloc (.cells #[.slice B5 20 c5, .int .i64 0] 24) := ⟨_, rfl⟩
  have HB6 := Aside0.mk (show Below W4.heap.size W4 W6 by rw [hW6]; exact below_alloc HB5.out _)
  have HA6 := Aside0.mk (Kd.C_below HA4.out HB6.out)
  have HBH6 := Aside0.mk (blk_below HBH4.out HB6.out)
  rw [← hW6]
  clear hW6 d0 d1
  have d0 := (blk_cell HBH6.out 0).trans (show _ = some (Value.slice A0 20 c0) from rfl)
  have d1 := (blk_cell HBH6.out 1).trans (show _ = some (Value.int .i64 0) from rfl)
  go_upto_region 6 with (first | (go_at_call 13; (with_reducible refine (HPD.out A0 c0 _ HA6.out HC0.out).mono ?_); rintro e w7 ⟨B7, c7, rfl, hc7, hr7, hb7⟩; have HR7 := Aside0.mk (And.intro hc7 hr7); have HB7 := Aside0.mk hb7; clear hc7 hr7 hb7) | fail)
  obtain ⟨W8, hW8⟩ : ∃ W8, W8 = w7.alloc (.cells #[.slice B7 20 c7, .int .i64 x.keep] 24) := ⟨_, rfl⟩
  have HB8 := Aside0.mk (show Below W4.heap.size W4 W8 by rw [hW8]; exact below_step HB6.out (below_alloc HB7.out _))
  have HH8 := Aside0.mk (blk_below HH4.out HB8.out)
  have HX8 := Aside0.mk (show W8.heap[w7.heap.size]? = some (.cells #[.slice B7 20 c7, .int .i64 x.keep] 24) by rw [hW8]; exact blk_new w7 _)
  have HR8 := Aside0.mk (Kd.C_below HR4.out HB8.out)
  have HXR := Aside0.mk (show kCl.C W8 B7 20 x.c by rw [hW8]; exact Kd.C_alloc HR7.out.2 _)
  have HROW8 := Aside0.mk (Kd.C_below HROW4.out HB8.out)
  have HBW8 := Aside0.mk (below_step (below_step HBW.out HB4.out) HB8.out)
  rw [← hW8]
  clear hW8 d0 d1
  obtain ⟨ad3, Bn, cn, rfl, -, -, y2, y3, -, hBn⟩ := at_cl HR8.out 6 (by decide)
  obtain ⟨ad7, Bm, cm, rfl, z0, -, -, -, -, -⟩ := at_cl HXR.out 0 (by decide)
  rw [HG.out.1] at y2
  rw [HG.out.2.1] at y3
  rw [HX.out] at z0
  obtain ⟨adn, rfl, n0, -⟩ := at_it hBn 1 (by rw [HG.out.2.1]; decide)
  rw [HG.out.2.2] at n0
  have d0 := (blk_cell HH8.out 0).trans (show _ = some (Value.slice (some ad3) 20 c3) from rfl)
  have d1 := (blk_cell HH8.out 1).trans (show _ = some (Value.int .i64 g.keep) from rfl)
  have e0 := (blk_cell HX8.out 0).trans (show _ = some (Value.slice (some ad7) 20 c7) from rfl)
  clear hBn
  have y4 : W8.cell? ⟨ad3.block, ad3.off + 24 + 2, none⟩ = some (.bool false) := y2
  have y5 : W8.cell? ⟨ad3.block, ad3.off + 24 + 2 + 1, none⟩ = some (.slice (some adn) 2 cn) := y3
  go_upto_region 9 with (fail)
  obtain ⟨W9, hW9⟩ : ∃ W9, W9 = W8.alloc (.cells #[.bool false, .slice (some adn) 2 cn] 77) := ⟨_, rfl⟩
  have hb9 : Below W8.heap.size W8 W9 := by rw [hW9]; exact below_alloc (Below.refl _ _) _
  have HB9 := Aside0.mk hb9
  have HN9 := Aside0.mk (show W9.heap[W8.heap.size]? = some (.cells #[.bool false, .slice (some adn) 2 cn] 77) by rw [hW9]; exact blk_new W8 _)
  have HR9 := Aside0.mk (Kd.C_below HR8.out hb9)
  have HROW9 := Aside0.mk (Kd.C_below HROW8.out hb9)
  have HBW9 := Aside0.mk (below_step HBW8.out hb9)
  have HZ := Aside0.mk (show W9.cell? ad7 = some (.int .i64 1) by
    have := bcell hb9 z0
    rwa [show ad7.add (0 * 4) = ad7 by simp [Addr.add]] at this)
  have n1 : W9.cell? ⟨adn.block, adn.off + 2, none⟩ = some (.int .i64 4) := bcell hb9 n0
  have f0 := bcell hb9 d0
  have f1 := bcell hb9 d1
  have HE := Aside0.mk (bcell hb9 e0)
  rw [← hW9]
  clear hW9 hb9 d0 d1 e0 z0 n0 y2 y3
  have m0 := (blk_cell HN9.out 0).trans (show _ = some (Value.bool false) from rfl)
  have m1 := (blk_cell HN9.out 1).trans (show _ = some (Value.slice (some adn) 2 cn) from rfl)
  have z0 := HZ.out
  have e0 := HE.out
  go_wp2_with (first | (go_at_call 24; (with_reducible refine (HLI.out _ _ _ HR9.out).mono ?_); rintro e w10 ⟨B10, c10, rfl, hc10, hr10, hb10⟩; have HR10 := Aside0.mk (And.intro hc10 hr10); have HB10 := Aside0.mk hb10; clear hc10 hr10 hb10) | (go_at_call 23; (with_reducible refine (HIT.out _ _ _ _ _ HR10.out.2 (Kd.C_below HROW9.out HB10.out)).mono ?_); rintro e w11 ⟨rfl, hb11⟩; have HB11 := Aside0.mk (show Below W9.heap.size W9 w11 from below_step HB10.out hb11); clear hb11; have z1 := bcell HB11.out HZ.out; have e1 := bcell HB11.out HE.out) | fail)
  go_ret
  exact ⟨rfl, below_step HBW9.out HB11.out⟩
end Go.Proofs.Ytopkoganfnabgaa.H
namespace Go.Proofs.Ytopkoganfnabgaa.H
open Go.RowKit Go.Proofs.YtopkoganfnabgaaW.PrintWords Go.Proofs.YtopkoganfnabgaaW.PrintLast Go.Proofs.YtopkoganfnabgaaW.PrintMore
attribute [local go_sem] max2_int min2_int max_two min_two max_three min_three max_four min_four
set_option linter.unusedVariables false
set_option linter.unusedSimpArgs false
theorem given_walk (p : Int) (w : World) : Calls Try.prog 107 #[.slice none 0 0, .int .i64 p] w fun e w' => e = .returned (.int .i64 0) ∧ w = w' := by
  go_enter Try.func107, Try.ntmps107
  go_wp2
  refine wp_loop_rounds 1 ?_
  rw [rounds_succ]; go_wp2
  go_ret
  exact ⟨rfl, rfl⟩
theorem right06_walk (n : Int) (w : World) : Calls Try.prog 104 #[.slice none 0 0, .int .i64 n] w fun e w' => e = .returned (.bool true) ∧ w = w' := by
  go_enter Try.func104, Try.ntmps104
  go_wp2
  refine wp_loop_rounds 1 ?_
  rw [rounds_succ]; go_wp2
  go_ret
  exact ⟨rfl, rfl⟩
theorem filt_succ {α : Type} (l : List α) (p : α → Bool) (z : α) (k : Nat) (hk : k < l.length) : ((l.take (k + 1)).filter p).length = ((l.take k).filter p).length + if p (l.getD k z) = true then 1 else 0 := by
  rw [List.take_succ_eq_append_getElem hk, List.filter_append, List.length_append, List.getD_eq_getElem?_getD, List.getElem?_eq_getElem hk]
  simp only [List.filter_cons, List.filter_nil, Option.getD_some]
  split <;> rfl
theorem filt_le {α : Type} (l : List α) (p : α → Bool) (k : Nat) : ((l.take k).filter p).length ≤ k := Nat.le_trans (List.length_filter_le _ _) (by rw [List.length_take]; omega)
set_option maxHeartbeats 2000000 in
theorem outside_walk (A : Option Addr) (c : Nat) (l : List Int) (q : Int) (w : World) (hr : (Kd.int .i64).C w A l.length l) :
    Calls Try.prog 108 #[.slice A l.length c, .slice none 0 0, .int .i64 q] w fun e w' => e = .returned (.int .i64 (cntI l q : Nat)) ∧ w = w' := by
  have hm := Kd.C_max hr
  have HR := Aside0.mk hr
  clear hr
  go_enter Try.func108, Try.ntmps108
  go_wp2
  go_loopg [7, 8] l.length (fun g s7 s8 wr => ∃ k : Nat, s8 = .int .i64 k ∧ k + g = l.length ∧ s7 = .int .i64 (((l.take k).filter fun x => decide (x = q)).length : Nat) ∧ Aside0 (w = wr))
  case atStart => exact ⟨0, rfl, by omega, rfl, ⟨rfl⟩⟩
  case round =>
    obtain ⟨k, rfl, hk, rfl, HE⟩ := hrel
    have he := HE.out
    subst he
    by_cases hlt : k < l.length
    · obtain ⟨g1, rfl⟩ : ∃ g1, gk = g1 + 1 := ⟨gk - 1, by omega⟩
      have r1 : decide (k < l.length) = true := decide_eq_true hlt
      have r2 : (k < l.length) = True := eq_true hlt
      obtain ⟨ad, rfl, hx⟩ := Kd.at_int HR.out (k : Int) (by omega) (by omega)
      rw [Int.toNat_natCast] at hx
      obtain ⟨x, hxx⟩ : ∃ x, x = rd l (k : Int) := ⟨_, rfl⟩
      have hs := filt_succ l (fun x => decide (x = q)) 0 k hlt
      have hl := filt_le l (fun x => decide (x = q)) k
      rw [show l.getD k 0 = x by rw [hxx]; unfold rd; rw [Int.toNat_natCast]] at hs
      rw [← hxx] at hx
      obtain ⟨C, hC⟩ : ∃ C, C = ((l.take k).filter fun x => decide (x = q)).length := ⟨_, rfl⟩
      rw [← hC] at hs hl ⊢
      have HK := Aside0.mk hk
      have HW := Aside0.mk (show wrap64 ((k : Int) + 1) = ((k + 1 : Nat) : Int) by unfold wrap64; omega)
      have HW2 := Aside0.mk (show wrap64 ((C : Int) + 1) = ((C + 1 : Nat) : Int) by unfold wrap64; omega)
      by_cases e1 : x = q
      · have q1 : (x == q) = true := beq_iff_eq.mpr e1
        rw [if_pos (decide_eq_true e1)] at hs
        have HS := Aside0.mk hs
        clear hs hl hC hxx hlt hk e1
        go_wp2
        go_roundg g1
        case measure => omega
        case rel => exact ⟨k + 1, by rw [HW.out], by have := HK.out; omega, by rw [HS.out, HW2.out], ⟨rfl⟩⟩
      · have q1 : (x == q) = false := beq_eq_false_iff_ne.mpr e1
        rw [if_neg (by simpa using e1)] at hs
        have HS := Aside0.mk hs
        clear hs hl hC hxx hlt hk e1
        go_wp2
        go_roundg g1
        case measure => omega
        case rel => exact ⟨k + 1, by rw [HW.out], by have := HK.out; omega, by rw [HS.out, Nat.add_zero], ⟨rfl⟩⟩
    · have r1 : decide (k < l.length) = false := decide_eq_false hlt
      have r2 : (k < l.length) = False := eq_false hlt
      have HC := Aside0.mk (show ((l.take k).filter fun x => decide (x = q)).length = cntI l q by unfold cntI; rw [List.take_of_length_le (by omega)])
      clear hlt hk
      go_wp2
      refine wp_loop_rounds 1 ?_
      rw [rounds_succ]; go_wp2
      go_ret
      exact ⟨ret_i (by rw [HC.out]), rfl⟩
set_option maxHeartbeats 4000000 in
set_option maxRecDepth 100000 in
theorem tells_walk (A : Option Addr) (c : Nat) (h : Hp) (p : Nat) (q : Int) (w : World) (hr : kCl.C w A h.c.length h.c) (hp : p < h.c.length) :
    Calls Try.prog 109 #[.agg #[.slice A h.c.length c, .int .i64 h.keep], .slice none 0 0, .int .i64 p, .int .i64 q] w fun e w' => e = .returned (.int .i64 (tellsN h p q : Nat)) ∧ Below w.heap.size w w' := by
  obtain ⟨ad, B, cb, rfl, x0, x1, x2, x3, hcb, hB⟩ := at_cl hr p hp
  have htell : tellsN h p q = if (decide (0 < (h.c.getD p zCl).ref) && !(h.c.getD p zCl).n.leaf) = true then cntV (h.c.getD p zCl).n.it q else 0 := rfl
  obtain ⟨x, hx⟩ : ∃ x, x = h.c.getD p zCl := ⟨_, rfl⟩
  rw [← hx] at x0 x1 x2 x3 hB htell
  rw [htell]
  have q2 : (p < h.c.length) = True := eq_true hp
  have y0 := al1 x0
  have y1 := al1 x1
  have y2 := al1 x2
  have y3 := al1 x3
  have hm := Kd.C_max hB
  have HBI := Aside0.mk hB
  obtain ⟨lf, hlf⟩ : ∃ lf, lf = x.n.leaf := ⟨_, rfl⟩
  rw [← hlf] at y2 ⊢
  clear x0 x1 x2 x3 hx hlf hr hB htell hcb hp
  obtain ⟨l, hl⟩ : ∃ l, l = x.n.it := ⟨_, rfl⟩
  rw [← hl] at y3 HBI hm ⊢
  clear hl
  by_cases e0 : 0 < x.ref
  · have d0 : decide (0 < x.ref) = true := decide_eq_true e0
    rw [d0]
    clear e0
    cases lf with
    | true =>
      by_cases h0 : 0 < l.length
      · have r1 : decide (0 < l.length) = true := decide_eq_true h0
        have r2 : (0 < l.length) = True := eq_true h0
        have r3 : decide ((0 : Int) < (l.length : Int)) = true := decide_eq_true (by omega)
        clear h0
        go_enter Try.func109, Try.ntmps109
        go_wp2_with (first | (go_at_call 107; (with_reducible refine (given_walk _ _).mono ?_); rintro e w' ⟨rfl, rfl⟩) | fail)
        refine wp_loop_rounds 1 ?_
        rw [rounds_succ]; go_wp2
        go_ret
        exact ⟨rfl, by repeat (first | (with_reducible exact Below.refl _ _) | (with_reducible refine below_alloc ?_ _) | (with_reducible refine below_drew1 ?_) | (with_reducible refine pw_below_drewN ?_ _) | fail)⟩
      · have r1 : decide (0 < l.length) = false := decide_eq_false h0
        have r2 : (0 < l.length) = False := eq_false h0
        have r3 : decide ((0 : Int) < (l.length : Int)) = false := decide_eq_false (by omega)
        clear h0
        go_enter Try.func109, Try.ntmps109
        go_wp2_with (first | (go_at_call 107; (with_reducible refine (given_walk _ _).mono ?_); rintro e w' ⟨rfl, rfl⟩) | fail)
        refine wp_loop_rounds 1 ?_
        rw [rounds_succ]; go_wp2
        go_ret
        exact ⟨rfl, by repeat (first | (with_reducible exact Below.refl _ _) | (with_reducible refine below_alloc ?_ _) | (with_reducible refine below_drew1 ?_) | (with_reducible refine pw_below_drewN ?_ _) | fail)⟩
    | false =>
      rw [if_pos (by rfl)]
      go_enter Try.func109, Try.ntmps109
      go_wp2_with (first | (go_at_call 107; (with_reducible refine (given_walk _ _).mono ?_); rintro e w' ⟨rfl, rfl⟩) | fail)
      obtain ⟨W2, hW2⟩ : ∃ W2, W2 = (w.alloc (.cells #[.slice (some ad) h.c.length c, .int .i64 h.keep] 24)).alloc (.cells #[.int .i64 x.ref, .bool x.pin, .bool false, .slice B l.length cb] 79) := ⟨_, rfl⟩
      have HB0 := Aside0.mk (show Below w.heap.size w W2 by rw [hW2]; exact below_alloc (below_alloc (Below.refl _ _) _) _)
      have HBC := Aside0.mk (show W2.heap[w.heap.size + 1]? = some (.cells #[.int .i64 x.ref, .bool x.pin, .bool false, .slice B l.length cb] 79) by rw [hW2]; exact blk2 w _ _)
      have HR2 := Aside0.mk (Kd.C_below HBI.out HB0.out)
      rw [← hW2]
      clear hW2 y0 y1 y2 y3 q2
      go_loopg [10, 11] l.length (fun g s10 s11 wr => ∃ k : Nat, s11 = .int .i64 k ∧ k + g = l.length ∧ s10 = .int .i64 (((l.take k).filter fun x => decide (x.v = q)).length : Nat) ∧ Aside0 (wr = W2))
      case atStart => exact ⟨0, rfl, by omega, rfl, ⟨rfl⟩⟩
      case round =>
        obtain ⟨k, rfl, hk, rfl, HE⟩ := hrel
        have he := HE.out
        subst he
        have c0 := (blk_cell HBC.out 0).trans (show _ = some (Value.int .i64 x.ref) from rfl)
        have c2 := (blk_cell HBC.out 2).trans (show _ = some (Value.bool false) from rfl)
        have c3 := (blk_cell HBC.out (2 + 1)).trans (show _ = some (Value.slice B l.length cb) from rfl)
        by_cases hlt : k < l.length
        · obtain ⟨g1, rfl⟩ : ∃ g1, gk = g1 + 1 := ⟨gk - 1, by omega⟩
          have r1 : decide (k < l.length) = true := decide_eq_true hlt
          have r2 : (k < l.length) = True := eq_true hlt
          obtain ⟨ad2, rfl, _, z1⟩ := at_it HR2.out k hlt
          obtain ⟨y, hy⟩ : ∃ y, y = itAt l k := ⟨_, rfl⟩
          have hs := filt_succ l (fun x => decide (x.v = q)) zIt k hlt
          have hl := filt_le l (fun x => decide (x.v = q)) k
          rw [show l.getD k zIt = y from hy.symm] at hs
          rw [← hy] at z1
          obtain ⟨C, hC⟩ : ∃ C, C = ((l.take k).filter fun x => decide (x.v = q)).length := ⟨_, rfl⟩
          rw [← hC] at hs hl ⊢
          have HK := Aside0.mk hk
          have HW := Aside0.mk (show wrap64 ((k : Int) + 1) = ((k + 1 : Nat) : Int) by unfold wrap64; omega)
          have HW2 := Aside0.mk (show wrap64 ((C : Int) + 1) = ((C + 1 : Nat) : Int) by unfold wrap64; omega)
          by_cases e1 : y.v = q
          · have q1 : (y.v == q) = true := beq_iff_eq.mpr e1
            rw [if_pos (decide_eq_true e1)] at hs
            have HS := Aside0.mk hs
            clear hs hl hC hy hlt hk e1
            go_wp2
            go_roundg g1
            case measure => omega
            case rel => exact ⟨k + 1, by rw [HW.out], by have := HK.out; omega, by rw [HS.out, HW2.out], ⟨rfl⟩⟩
          · have q1 : (y.v == q) = false := beq_eq_false_iff_ne.mpr e1
            rw [if_neg (by simpa using e1)] at hs
            have HS := Aside0.mk hs
            clear hs hl hC hy hlt hk e1
            go_wp2
            go_roundg g1
            case measure => omega
            case rel => exact ⟨k + 1, by rw [HW.out], by have := HK.out; omega, by rw [HS.out, Nat.add_zero], ⟨rfl⟩⟩
        · have r1 : decide (k < l.length) = false := decide_eq_false hlt
          have r2 : (k < l.length) = False := eq_false hlt
          have HC := Aside0.mk (show ((l.take k).filter fun x => decide (x.v = q)).length = cntV l q by unfold cntV; rw [List.take_of_length_le (by omega)])
          clear hlt hk
          go_wp2
          go_ret
          exact ⟨ret_i (by rw [HC.out]), HB0.out⟩
  · have d0 : decide (0 < x.ref) = false := decide_eq_false e0
    rw [d0]
    clear e0
    by_cases h0 : 0 < l.length
    · have r1 : decide (0 < l.length) = true := decide_eq_true h0
      have r2 : (0 < l.length) = True := eq_true h0
      have r3 : decide ((0 : Int) < (l.length : Int)) = true := decide_eq_true (by omega)
      clear h0
      go_enter Try.func109, Try.ntmps109
      go_wp2_with (first | (go_at_call 107; (with_reducible refine (given_walk _ _).mono ?_); rintro e w' ⟨rfl, rfl⟩) | fail)
      refine wp_loop_rounds 1 ?_
      rw [rounds_succ]; go_wp2
      go_ret
      exact ⟨rfl, by repeat (first | (with_reducible exact Below.refl _ _) | (with_reducible refine below_alloc ?_ _) | (with_reducible refine below_drew1 ?_) | (with_reducible refine pw_below_drewN ?_ _) | fail)⟩
    · have r1 : decide (0 < l.length) = false := decide_eq_false h0
      have r2 : (0 < l.length) = False := eq_false h0
      have r3 : decide ((0 : Int) < (l.length : Int)) = false := decide_eq_false (by omega)
      clear h0
      go_enter Try.func109, Try.ntmps109
      go_wp2_with (first | (go_at_call 107; (with_reducible refine (given_walk _ _).mono ?_); rintro e w' ⟨rfl, rfl⟩) | fail)
      refine wp_loop_rounds 1 ?_
      rw [rounds_succ]; go_wp2
      go_ret
      exact ⟨rfl, by repeat (first | (with_reducible exact Below.refl _ _) | (with_reducible refine below_alloc ?_ _) | (with_reducible refine below_drew1 ?_) | (with_reducible refine pw_below_drewN ?_ _) | fail)⟩
end Go.Proofs.Ytopkoganfnabgaa.H
namespace Go.Proofs.Ytopkoganfnabgaa.H
open Go.RowKit Go.Proofs.YtopkoganfnabgaaW.PrintWords Go.Proofs.YtopkoganfnabgaaW.PrintLast Go.Proofs.YtopkoganfnabgaaW.PrintMore
attribute [local go_sem] max2_int min2_int max_two min_two max_three min_three max_four min_four
set_option linter.unusedVariables false
set_option linter.unusedSimpArgs false
theorem tellsN_le {h : Hp} {p : Nat} {q : Int} {b : Nat} (hb : ∀ i, i < h.c.length → (h.c.getD i zCl).n.it.length ≤ b) (hp : p < h.c.length) : tellsN h p q ≤ b := by
  unfold tellsN cntV
  split
  · exact Nat.le_trans (List.length_filter_le _ _) (hb p hp)
  · omega
theorem sumN_le {f : Nat → Nat} {b : Nat} : ∀ n, (∀ i, i < n → f i ≤ b) → sumN f n ≤ n * b
  | 0, _ => by simp [sumN]
  | n + 1, h => by
    have := sumN_le n (fun i hi => h i (by omega))
    have h2 := h n (by omega)
    rw [sumN, Nat.succ_mul]
    omega
theorem cntI_le (l : List Int) (q : Int) : cntI l q ≤ l.length := List.length_filter_le _ _
def refsL (h : Hp) (roots : List Int) (k : Nat) : List Int := (List.range k).map fun q => (refsN h roots q : Int)
theorem refsL_succ (h : Hp) (roots : List Int) (k : Nat) : refsL h roots (k + 1) = refsL h roots k ++ [(refsN h roots k : Int)] := by unfold refsL; rw [List.range_succ, List.map_append]; rfl
set_option maxHeartbeats 4000000 in
set_option maxRecDepth 100000 in
theorem refs_walk (A Ar : Option Addr) (c cr : Nat) (h : Hp) (roots : List Int) (w : World) (hr : kCl.C w A h.c.length h.c) (hrr : (Kd.int .i64).C w Ar roots.length roots) (hl : h.c.length ≤ 2000) (hrl : roots.length ≤ 1000) (hit : ∀ i, i < h.c.length → (h.c.getD i zCl).n.it.length ≤ 10) :
    Calls Try.prog 90 #[.agg #[.slice A h.c.length c, .int .i64 h.keep], .slice Ar roots.length cr, .slice none 0 0] w fun e w' => ∃ B cb, e = .returned (.slice B h.c.length cb) ∧ (Kd.int .i64).C w' B h.c.length (refsL h roots h.c.length) ∧ Below w.heap.size w w' := by
  obtain ⟨W1, hW1⟩ : ∃ W1, W1 = w.alloc (.cells #[.slice A h.c.length c, .int .i64 h.keep] 24) := ⟨_, rfl⟩
  have HB0 := Aside0.mk (show Below w.heap.size w W1 by rw [hW1]; exact below_alloc (Below.refl _ _) _)
  have HBH := Aside0.mk (show W1.heap[w.heap.size]? = some (.cells #[.slice A h.c.length c, .int .i64 h.keep] 24) by rw [hW1]; exact blk_new w _)
  have HOUT0 := Aside0.mk (fun (q : Int) (W : World) (hb : Below W1.heap.size W1 W) => outside_walk Ar cr roots q W (Kd.C_below (Kd.C_below hrr HB0.out) hb))
  have HTL0 := Aside0.mk (fun (p : Nat) (q : Int) (hp : p < h.c.length) (W : World) (hb : Below W1.heap.size W1 W) => tells_walk A c h p q W (Kd.C_below (Kd.C_below hr HB0.out) hb) hp)
  have HIT := Aside0.mk hit
  have HL := Aside0.mk (And.intro hl hrl)
  have hW1' := Aside0.mk hW1
  clear hr hrr hW1 hit hrl hl
  go_enter Try.func90, Try.ntmps90
  go_wp2
  rw [← hW1'.out]
  go_loopg [7, 8] h.c.length (fun g s7 s8 wr => ∃ k : Nat, s8 = .int .i64 k ∧ k + g = h.c.length ∧ Aside0 ((Kd.int .i64).R 3 wr W1.heap.size (fun _ => True) s7 (refsL h roots k)) ∧ Aside0 (Below W1.heap.size W1 wr))
  case atStart => exact ⟨0, rfl, by omega, ⟨Kd.R_nil _ _ _ _ _⟩, ⟨Below.refl _ _⟩⟩
  case round =>
    obtain ⟨q, rfl, hk, HO, HB⟩ := hrel
    have b0 := (blk_cell (blk_below HBH.out HB.out) 0).trans (show _ = some (Value.slice A h.c.length c) from rfl)
    by_cases hlt : q < h.c.length
    · obtain ⟨g1, rfl⟩ : ∃ g1, gk = g1 + 1 := ⟨gk - 1, by omega⟩
      have r1 : decide (q < h.c.length) = true := decide_eq_true hlt
      have r2 : (q < h.c.length) = True := eq_true hlt
      have HOUT := Aside0.mk (HOUT0.out (q : Int))
      have hci := cntI_le roots (q : Int)
      have href : refsN h roots q = cntI roots (q : Int) + sumN (fun p => tellsN h p (q : Int)) h.c.length := rfl
      have HREF := Aside0.mk href
      obtain ⟨C, hC⟩ : ∃ C, C = cntI roots (q : Int) := ⟨_, rfl⟩
      have HC := Aside0.mk (And.intro hC hci)
      rw [← hC] at HOUT
      have HKQ := Aside0.mk (And.intro hlt hk)
      have HWQ := Aside0.mk (show wrap64 ((q : Int) + 1) = ((q + 1 : Nat) : Int) by have := HL.out; unfold wrap64; omega)
      clear hci hC href hlt hk
      go_wp2_with (first | (go_at_call 108; (with_reducible refine (HOUT.out _ (by repeat (first | (with_reducible exact Below.refl _ _) | (with_reducible refine below_alloc ?_ _) | (with_reducible refine below_drew1 ?_) | (with_reducible refine pw_below_drewN ?_ _) | (with_reducible exact HB.out)))).mono ?_); rintro e w' ⟨rfl, rfl⟩) | fail)
      obtain ⟨wo, hwo⟩ : ∃ wo : World, wo = wr := ⟨_, rfl⟩
      rw [← hwo] at HO HB b0 ⊢
      clear hwo
      go_loopg [9, 10] h.c.length (fun g s9 s10 wr => ∃ k : Nat, s10 = .int .i64 k ∧ k + g = h.c.length ∧ s9 = .int .i64 ((C + sumN (fun p => tellsN h p (q : Int)) k : Nat) : Int) ∧ Aside0 (Below wo.heap.size wo wr))
      case atStart => exact ⟨0, rfl, by omega, rfl, ⟨Below.refl _ _⟩⟩
      case round =>
        obtain ⟨k, rfl, hk, rfl, HBI⟩ := hrel
        have b2 := (blk_cell (blk_below (blk_below HBH.out HB.out) HBI.out) 0).trans (show _ = some (Value.slice A h.c.length c) from rfl)
        have b3 := (blk_cell (blk_below (blk_below HBH.out HB.out) HBI.out) 1).trans (show _ = some (Value.int .i64 h.keep) from rfl)
        have HBW := Aside0.mk (below_step HB.out HBI.out)
        by_cases hlt : k < h.c.length
        · obtain ⟨g2, rfl⟩ : ∃ g2, gk = g2 + 1 := ⟨gk - 1, by omega⟩
          have r3 : decide (k < h.c.length) = true := decide_eq_true hlt
          have r4 : (k < h.c.length) = True := eq_true hlt
          have hsm := sumN_le (f := fun p => tellsN h p (q : Int)) (b := 10) k (fun i hi => tellsN_le HIT.out (by omega))
          have ht := tellsN_le (q := (q : Int)) HIT.out hlt
          have hss : sumN (fun p => tellsN h p (q : Int)) (k + 1) = sumN (fun p => tellsN h p (q : Int)) k + tellsN h k (q : Int) := rfl
          have HTL := Aside0.mk (fun (W : World) (hb : Below wo.heap.size wo W) => HTL0.out k (q : Int) hlt W (below_step HB.out hb))
          obtain ⟨T, hT⟩ : ∃ T, T = tellsN h k (q : Int) := ⟨_, rfl⟩
          rw [← hT] at ht hss HTL
          obtain ⟨S, hS⟩ : ∃ S, S = C + sumN (fun p => tellsN h p (q : Int)) k := ⟨_, rfl⟩
          rw [← hS]
          have HS := Aside0.mk (show S + T = C + sumN (fun p => tellsN h p (q : Int)) (k + 1) by rw [hss, hS]; omega)
          have HW2 := Aside0.mk (show wrap64 ((S : Int) + (T : Int)) = ((S + T : Nat) : Int) by have := HL.out; have := HC.out.2; have := HC.out.1; have h9 : k * 10 ≤ 20000 := (by omega); unfold wrap64; omega)
          have HW := Aside0.mk (show wrap64 ((k : Int) + 1) = ((k + 1 : Nat) : Int) by have := HL.out; unfold wrap64; omega)
          have HK := Aside0.mk hk
          clear hsm ht hss hT hS hlt hk
          go_wp2_with (first | (go_at_call 109; (with_reducible refine (HTL.out _ (by repeat (first | (with_reducible exact Below.refl _ _) | (with_reducible refine below_alloc ?_ _) | (with_reducible refine below_drew1 ?_) | (with_reducible refine pw_below_drewN ?_ _) | (with_reducible exact HBI.out)))).mono ?_); rintro e w3 ⟨rfl, hb3⟩; have HB3 := Aside0.mk (show Below wo.heap.size wo w3 from below_step HBI.out hb3); clear hb3) | fail)
          go_roundg g2
          case measure => omega
          case rel => exact ⟨k + 1, by rw [HW.out], by have := HK.out; omega, by rw [HW2.out, HS.out], HB3⟩
        · have r3 : decide (k < h.c.length) = false := decide_eq_false hlt
          have r4 : (k < h.c.length) = False := eq_false hlt
          have hkl : k = h.c.length := by omega
          obtain ⟨R, hR⟩ : ∃ R, R = C + sumN (fun p => tellsN h p (q : Int)) k := ⟨_, rfl⟩
          rw [← hR]
          have HRR := Aside0.mk (show (R : Nat) = refsN h roots q by rw [HREF.out, hR, HC.out.1, hkl])
          have HO2 := Aside0.mk (Kd.R_below HO.out HBI.out)
          have HLQ := Aside0.mk (show (refsL h roots q).length = q by unfold refsL; simp)
          clear hlt hk hkl hR
          go_wp2_with (first | ((with_reducible refine gate_builtin (b := .append) (xs := #[.tmp 36, .tmp 38]) rfl ?_); at_builtin; refine Kd.R_append (Kd.int .i64) (w0 := W1) W1.heap.size rfl (.tmp 36) (.tmp 38) 41 3 (.int .i64 0) 8 rfl Try.underlying41 info_int rfl (by decide) (by decide) _ (refsL h roots q) (R : Int) [.int .i64 (R : Int)] (fun _ => True) (fun _ => False) rfl rfl rfl (fun _ h => h.elim) (fun _ _ => trivial) HO2.out HBW.out HBW.out.size (by have := HLQ.out; have := HL.out; have := HKQ.out; omega) ?_; intro v1 w5 ho hb hg hat; have HO5 := Aside0.mk ho; have HB5 := Aside0.mk hb; clear ho hb hg hat) | fail)
          go_roundg g1
          case measure => omega
          case rel => exact ⟨q + 1, by rw [HWQ.out], by have := HKQ.out; omega, ⟨by rw [refsL_succ, ← HRR.out]; exact HO5.out⟩, HB5⟩
    · have r1 : decide (q < h.c.length) = false := decide_eq_false hlt
      have r2 : (q < h.c.length) = False := eq_false hlt
      have hq : q = h.c.length := by omega
      obtain ⟨B, cb, rfl⟩ := Kd.R_slice HO.out
      have h5 := (Kd.R_reads' HO.out).2.2
      rw [show (refsL h roots q).length = h.c.length by unfold refsL; simp [hq]] at h5 ⊢
      rw [hq] at h5
      have H5 := Aside0.mk h5
      have HBW := Aside0.mk (below_step HB0.out HB.out)
      clear hlt hk hq h5
      go_wp2
      go_ret
      exact ⟨B, cb, rfl, H5.out, HBW.out⟩
end Go.Proofs.Ytopkoganfnabgaa.H
namespace Go.Proofs.Ytopkoganfnabgaa.H
open Go.RowKit Go.Proofs.YtopkoganfnabgaaW.PrintWords Go.Proofs.YtopkoganfnabgaaW.PrintLast Go.Proofs.YtopkoganfnabgaaW.PrintMore
attribute [local go_sem] max2_int min2_int max_two min_two max_three min_three max_four min_four
set_option linter.unusedVariables false
set_option linter.unusedSimpArgs false
theorem info_bool : (Try.prog.info? 4).map (fun i => (i.zero, i.size, i.bytes)) = some (some (.bool false), 1, 1) := by kernel_rfl
def rowB (f : Nat → Bool) (n : Nat) : List Bool := (List.range n).map f
theorem rowB_len (f : Nat → Bool) (n : Nat) : (rowB f n).length = n := by unfold rowB; simp
theorem rowB_get (f : Nat → Bool) (n i : Nat) (hi : i < n) : (rowB f n).getD i false = f i := by
  unfold rowB
  rw [List.getD_eq_getElem?_getD, List.getElem?_map, List.getElem?_range hi]
  rfl
theorem rowB_ext {f g : Nat → Bool} {n : Nat} (h : ∀ j, j < n → f j = g j) : rowB f n = rowB g n := by
  unfold rowB
  apply List.map_congr_left
  intro j hj
  exact h j (by simpa using hj)
theorem rowB_set (f : Nat → Bool) (n q : Nat) (b : Bool) : (rowB f n).set q b = rowB (fun j => if j = q then b else f j) n := by
  apply List.ext_getElem?
  intro j
  rw [List.getElem?_set]
  unfold rowB
  simp only [List.length_map, List.length_range, List.getElem?_map]
  by_cases hj : j < n
  · rw [List.getElem?_range hj]
    by_cases e : q = j
    · subst e; simp [hj]
    · rw [if_neg e]; simp; intro e2; exact absurd e2.symm e
  · rw [List.getElem?_eq_none (by simpa using hj)]
    by_cases e : q = j
    · subst e; simp [hj]
    · rw [if_neg e]; rfl
def fillB (f : Nat → Bool) (k j : Nat) : Bool := decide (j < k) && f j
theorem fillB_set (f : Nat → Bool) (n k : Nat) : (rowB (fillB f k) n).set k (f k) = rowB (fillB f (k + 1)) n := by
  rw [rowB_set]
  apply rowB_ext
  intro j _
  unfold fillB
  by_cases e : j = k
  · subst e; simp
  · rw [if_neg e, decide_eq_decide.2 (show j < k ↔ j < k + 1 by omega)]
theorem fillB_all (f : Nat → Bool) (n : Nat) : rowB (fillB f n) n = rowB f n := rowB_ext (fun j hj => by unfold fillB; simp [hj])
theorem fillB_zero (f : Nat → Bool) (n : Nat) : List.replicate n false = rowB (fillB f 0) n := by
  apply List.ext_getElem?
  intro j
  unfold rowB fillB
  rw [List.getElem?_map, List.getElem?_replicate]
  by_cases hj : j < n
  · rw [if_pos hj, List.getElem?_range hj]; simp
  · rw [if_neg hj, List.getElem?_eq_none (by simpa using hj)]; rfl
/-- What is held behind p whole rounds and q steps of another one. -/
def stF (o : Nat → Bool) (t : Nat → Nat → Bool) (p q j : Nat) : Bool := o j || ((List.range p).any (fun p' => o p' && t p' j) || (decide (j < q) && (o p && t p j)))
theorem stF_set {o : Nat → Bool} {t : Nat → Nat → Bool} {p q n : Nat} (hp : o p = true) (ht : t p q = true) : (rowB (stF o t p q) n).set q true = rowB (stF o t p (q + 1)) n := by
  rw [rowB_set]
  apply rowB_ext
  intro j _
  unfold stF
  by_cases e : j = q
  · subst e; simp [hp, ht]
  · rw [if_neg e, decide_eq_decide.2 (show j < q ↔ j < q + 1 by omega)]
theorem stF_skip {o : Nat → Bool} {t : Nat → Nat → Bool} {p q n : Nat} (ht : t p q = false) : rowB (stF o t p q) n = rowB (stF o t p (q + 1)) n := by
  apply rowB_ext
  intro j _
  unfold stF
  by_cases e : j = q
  · subst e; simp [ht]
  · rw [decide_eq_decide.2 (show j < q ↔ j < q + 1 by omega)]
theorem any_succ (f : Nat → Bool) (p : Nat) : (List.range (p + 1)).any f = ((List.range p).any f || f p) := by rw [List.range_succ, List.any_append]; simp
theorem stF_end {o : Nat → Bool} {t : Nat → Nat → Bool} {p n : Nat} : rowB (stF o t p n) n = rowB (stF o t (p + 1) 0) n := by
  apply rowB_ext
  intro j hj
  unfold stF
  rw [any_succ, decide_eq_true hj]
  simp
theorem stF_none {o : Nat → Bool} {t : Nat → Nat → Bool} {p n : Nat} (hp : o p = false) : rowB (stF o t p 0) n = rowB (stF o t (p + 1) 0) n := by
  apply rowB_ext
  intro j hj
  unfold stF
  rw [any_succ, hp]
  simp
theorem stF_zero {o : Nat → Bool} {t : Nat → Nat → Bool} {n : Nat} : rowB o n = rowB (stF o t 0 0) n := by
  apply rowB_ext
  intro j hj
  unfold stF
  simp
theorem stF_held (h : Hp) (roots : List Int) (k : Nat) : rowB (stF (heldB h roots k) (fun p j => decide (0 < tellsN h p (j : Int))) h.c.length 0) h.c.length = rowB (heldB h roots (k + 1)) h.c.length := by
  apply rowB_ext
  intro j hj
  unfold stF
  rw [heldB]
  simp
end Go.Proofs.Ytopkoganfnabgaa.H
namespace Go.Proofs.Ytopkoganfnabgaa.H
open Go.RowKit Go.Proofs.YtopkoganfnabgaaW.PrintWords Go.Proofs.YtopkoganfnabgaaW.PrintLast Go.Proofs.YtopkoganfnabgaaW.PrintMore
attribute [local go_sem] max2_int min2_int max_two min_two max_three min_three max_four min_four
set_option linter.unusedVariables false
set_option linter.unusedSimpArgs false
set_option maxHeartbeats 8000000 in
set_option maxRecDepth 100000 in
theorem held_walk (A Ar : Option Addr) (c cr : Nat) (h : Hp) (roots : List Int) (w : World) (hr : kCl.C w A h.c.length h.c) (hrr : (Kd.int .i64).C w Ar roots.length roots) (hl : h.c.length ≤ 2000) (hl1 : 1 ≤ h.c.length) (hrl : roots.length ≤ 1000) (hit : ∀ i, i < h.c.length → (h.c.getD i zCl).n.it.length ≤ 10) :
    Calls Try.prog 91 #[.agg #[.slice A h.c.length c, .int .i64 h.keep], .slice Ar roots.length cr, .slice none 0 0] w fun e w' => ∃ B cb, e = .returned (.slice B h.c.length cb) ∧ Kd.bool.C w' B h.c.length (rowB (heldB h roots 25) h.c.length) ∧ Below w.heap.size w w' := by
  obtain ⟨W1, hW1⟩ : ∃ W1, W1 = w.alloc (.cells #[.slice A h.c.length c, .int .i64 h.keep] 24) := ⟨_, rfl⟩
  have HB0 := Aside0.mk (show Below w.heap.size w W1 by rw [hW1]; exact below_alloc (Below.refl _ _) _)
  have HBH := Aside0.mk (show W1.heap[w.heap.size]? = some (.cells #[.slice A h.c.length c, .int .i64 h.keep] 24) by rw [hW1]; exact blk_new w _)
  have HOUT0 := Aside0.mk (fun (q : Int) (W : World) (hb : Below W1.heap.size W1 W) => outside_walk Ar cr roots q W (Kd.C_below (Kd.C_below hrr HB0.out) hb))
  have HTL0 := Aside0.mk (fun (p : Nat) (q : Int) (hp : p < h.c.length) (W : World) (hb : Below W1.heap.size W1 W) => tells_walk A c h p q W (Kd.C_below (Kd.C_below hr HB0.out) hb) hp)
  have HL := Aside0.mk (And.intro hl (And.intro hl1 hrl))
  have hW1' := Aside0.mk hW1
  have c0 := (blk_cell HBH.out 0).trans (show _ = some (Value.slice A h.c.length c) from rfl)
  clear hr hrr hW1 hit hrl hl hl1
  go_enter Try.func91, Try.ntmps91
  go_upto_region 1 with (fail)
  rw [← hW1'.out]
  go_upto_region 2 with (first | ((with_reducible refine gate_dst (N := 16) rfl ?_); refine Kd.R_make Kd.bool W1.heap.size 4 rfl (N := 16) rfl 129 _ _ rfl (h.c.length : Int) rfl rfl Try.underlying129 (.bool false) 1 info_bool rfl (by decide) (by decide) false (ok := fun _ => True) (okp := fun _ => False) rfl (fun _ h => h.elim) trivial (by omega) (by have := HL.out; rw [Int.toNat_natCast]; omega) (Below.refl W1.heap.size W1) (Nat.le_refl _) ?_; intro v1 w5 ho hb hg hat; have HO5 := Aside0.mk ho; have HB5 := Aside0.mk hb; clear ho hb hg hat) | fail)
  have ho := HO5.out
  rw [Int.toNat_natCast, fillB_zero (heldB h roots 0) h.c.length] at ho
  obtain ⟨g0, cap0, rfl, hg0, _, _⟩ := Kd.R_form ho (by rw [rowB_len]; exact HL.out.2.1)
  rw [rowB_len] at ho ⊢
  have HO0 := Aside0.mk ho
  have HG0 := Aside0.mk hg0
  clear ho hg0 HO5 c0
  go_wp2
  go_loopg [8] h.c.length (fun g s8 wr => ∃ k : Nat, s8 = .int .i64 k ∧ k + g = h.c.length ∧ Aside0 (Kd.bool.R 4 wr W1.heap.size (fun _ => True) (.slice (some ⟨g0, 0, none⟩) h.c.length cap0) (rowB (fillB (heldB h roots 0) k) h.c.length)) ∧ Aside0 (Below W1.heap.size W1 wr))
  case atStart => exact ⟨0, rfl, by omega, HO0, HB5⟩
  case round =>
    obtain ⟨p, rfl, hk, HO, HB⟩ := hrel
    have b0 := (blk_cell (blk_below HBH.out HB.out) 0).trans (show _ = some (Value.slice A h.c.length c) from rfl)
    by_cases hlt : p < h.c.length
    · obtain ⟨g1, rfl⟩ : ∃ g1, gk = g1 + 1 := ⟨gk - 1, by omega⟩
      have r1 : decide (p < h.c.length) = true := decide_eq_true hlt
      have r2 : (p < h.c.length) = True := eq_true hlt
      have HOUT := Aside0.mk (HOUT0.out (p : Int))
      obtain ⟨C, hC⟩ : ∃ C, C = cntI roots (p : Int) := ⟨_, rfl⟩
      have hb0 : decide ((0 : Int) < (C : Int)) = heldB h roots 0 p := by rw [hC, heldB]; exact decide_eq_decide.2 (by omega)
      have hb1 : decide (0 < C) = heldB h roots 0 p := by rw [hC, heldB]
      rw [← hC] at HOUT
      obtain ⟨hc1, hf1⟩ := Kd.R_celln false HO.out (p : Int) (by omega) (by omega)
      have hput := Kd.R_putn HO.out (p : Int) (heldB h roots 0 p)
      rw [Int.toNat_natCast] at hc1 hf1 hput
      rw [fillB_set] at hput
      obtain ⟨bb, hbb⟩ : ∃ bb, bb = heldB h roots 0 p := ⟨_, rfl⟩
      rw [← hbb] at hput hb0 hb1
      have HP := Aside0.mk hput
      have HKQ := Aside0.mk (And.intro hlt hk)
      have HWQ := Aside0.mk (show wrap64 ((p : Int) + 1) = ((p + 1 : Nat) : Int) by have := HL.out; unfold wrap64; omega)
      clear hC hput hbb hlt hk
      go_wp2_with (first | (go_at_call 108; (with_reducible refine (HOUT.out _ (by repeat (first | (with_reducible exact Below.refl _ _) | (with_reducible refine below_alloc ?_ _) | (with_reducible refine below_drew1 ?_) | (with_reducible refine pw_below_drewN ?_ _) | (with_reducible exact HB.out)))).mono ?_); rintro e w' ⟨rfl, rfl⟩) | fail)
      go_roundg g1
      case measure => omega
      case rel => exact ⟨p + 1, by rw [HWQ.out], by have := HKQ.out; omega, HP, ⟨below_set HB.out HG0.out⟩⟩
    · have r1 : decide (p < h.c.length) = false := decide_eq_false hlt
      have r2 : (p < h.c.length) = False := eq_false hlt
      have hp : p = h.c.length := by omega
      have ho := HO.out
      rw [hp, fillB_all] at ho
      have HO1 := Aside0.mk ho
      clear ho hp hlt hk HO
      go_wp2
      have hc7 := (Kd.R_reads' HO1.out).2.2
      rw [rowB_len] at hc7
      have HC7 := Aside0.mk hc7
      clear hc7 b0
      go_loopg [7, 9] 25 (fun g s7 s9 wr => ∃ (k c7 : Nat) (A7 : Option Addr), s9 = .int .i64 k ∧ k + g = 25 ∧ s7 = .slice A7 h.c.length c7 ∧ Aside0 (Kd.bool.C wr A7 h.c.length (rowB (heldB h roots k) h.c.length)) ∧ Aside0 (Below W1.heap.size W1 wr))
      case atStart => exact ⟨0, cap0, _, rfl, rfl, rfl, HC7, HB⟩
      case round =>
        clear HO1 HC7 HB r1 r2
        obtain ⟨k, c7, A7, rfl, hk, rfl, HC, HB⟩ := hrel
        by_cases hlt : k < 25
        · obtain ⟨g1, rfl⟩ : ∃ g1, gk = g1 + 1 := ⟨gk - 1, by omega⟩
          have r1 : decide ((k : Int) < 25) = true := decide_eq_true (by omega)
          have r2 : decide (k < 25) = true := decide_eq_true hlt
          have r3 : (k < 25) = True := eq_true hlt
          have r4 : ((k : Int) < 25) = True := eq_true (by omega)
          obtain ⟨o, ho⟩ : ∃ o, o = heldB h roots k := ⟨_, rfl⟩
          rw [← ho] at HC
          have HOK := Aside0.mk ho
          have HKK := Aside0.mk (And.intro hk hlt)
          have HWK := Aside0.mk (show wrap64 ((k : Int) + 1) = ((k + 1 : Nat) : Int) by unfold wrap64; omega)
          obtain ⟨wo, hwo⟩ : ∃ wo : World, wo = wr := ⟨_, rfl⟩
          rw [← hwo] at HC HB ⊢
          have HE0 := Aside0.mk (show Kd.R Kd.bool 4 (wo.alloc (.cells #[] 4)) wo.heap.size (fun _ => True) (.slice (some ⟨wo.heap.size, 0, none⟩) 0 0) [] from Kd.R_of_own (enc := Value.bool) (h1 := fun _ => rfl) ⟨rfl, .inr ⟨wo.heap.size, 0, #[], rfl, Nat.le_refl _, blk_new _ _, Nat.le_refl _, by unfold maxLen; decide, rfl, rfl⟩⟩ (fun _ _ => trivial))
          clear ho hk hlt hwo
          go_upto_region 10 with (first | ((with_reducible refine gate_builtin (b := .append) (xs := #[.tmp 36, .tmp 37]) rfl ?_); at_builtin; refine Kd.R_append_rows Kd.bool (w0 := wo) wo.heap.size rfl (.tmp 36) (.tmp 37) 129 4 (.bool false) 1 rfl Try.underlying129 info_bool rfl (by decide) (by omega) _ [] (rowB o h.c.length) _ h.c.length _ (fun _ => True) (fun _ => False) rfl rfl HE0.out (Kd.C_alloc HC.out _) (fun _ _ h => h) (fun _ h => h.elim) (fun _ _ => trivial) (below_alloc (Below.refl _ _) _) (below_alloc (Below.refl _ _) _).size (by have := HL.out; simp; omega) ?_; intro v1 w5 ho hb hg hat; have HO5 := Aside0.mk ho; have HB5 := Aside0.mk hb; clear ho hb hg hat) | fail)
          have ho := HO5.out
          rw [List.nil_append, stF_zero (t := fun p j => decide (0 < tellsN h p (j : Int)))] at ho
          obtain ⟨g2, cap2, rfl, hg2, _, _⟩ := Kd.R_form ho (by rw [rowB_len]; exact HL.out.2.1)
          rw [rowB_len] at ho ⊢
          have HO6 := Aside0.mk ho
          have HG2 := Aside0.mk hg2
          clear ho hg2 HO5 r1 r2 r3 r4
          go_wp2
          go_loopg [11] h.c.length (fun g s11 wr => ∃ p : Nat, s11 = .int .i64 p ∧ p + g = h.c.length ∧ Aside0 (Kd.bool.R 4 wr wo.heap.size (fun _ => True) (.slice (some ⟨g2, 0, none⟩) h.c.length cap2) (rowB (stF o (fun p j => decide (0 < tellsN h p (j : Int))) p 0) h.c.length)) ∧ Aside0 (Below wo.heap.size wo wr))
          case atStart => exact ⟨0, rfl, by omega, HO6, HB5⟩
          case round =>
            clear HO6 HB5
            obtain ⟨p, rfl, hp, HO, HBP⟩ := hrel
            have b0 := (blk_cell (blk_below (blk_below HBH.out HB.out) HBP.out) 0).trans (show _ = some (Value.slice A h.c.length c) from rfl)
            by_cases hlt : p < h.c.length
            · obtain ⟨g3, rfl⟩ : ∃ g3, gk = g3 + 1 := ⟨gk - 1, by omega⟩
              have r1 : decide (p < h.c.length) = true := decide_eq_true hlt
              have r2 : (p < h.c.length) = True := eq_true hlt
              have HPP := Aside0.mk (And.intro hp hlt)
              have HWP := Aside0.mk (show wrap64 ((p : Int) + 1) = ((p + 1 : Nat) : Int) by have := HL.out; unfold wrap64; omega)
              obtain ⟨ad7, rfl, _⟩ := Kd.at_bool HC.out (p : Int) (by omega) (by omega)
              clear hp hlt
              go_wp2
              clear r1 r2
              go_loopg [12] h.c.length (fun g s12 wr => ∃ q : Nat, s12 = .int .i64 q ∧ q + g = h.c.length ∧ Aside0 (o p = true ∨ q = 0) ∧ Aside0 (Kd.bool.R 4 wr wo.heap.size (fun _ => True) (.slice (some ⟨g2, 0, none⟩) h.c.length cap2) (rowB (stF o (fun p j => decide (0 < tellsN h p (j : Int))) p q) h.c.length)) ∧ Aside0 (Below wo.heap.size wo wr))
              case atStart => exact ⟨0, rfl, by omega, ⟨.inr rfl⟩, HO, HBP⟩
              case round =>
                clear b0 HO HBP
                obtain ⟨q, rfl, hq, HOQ, HO, HBI⟩ := hrel
                have b0 := (blk_cell (blk_below (blk_below HBH.out HB.out) HBI.out) 0).trans (show _ = some (Value.slice (A) h.c.length c) from rfl)
                have b1 := (blk_cell (blk_below (blk_below HBH.out HB.out) HBI.out) 1).trans (show _ = some (Value.int .i64 h.keep) from rfl)
                by_cases hlt : q < h.c.length
                · have r1 : decide (q < h.c.length) = true := decide_eq_true hlt
                  have r2 : (q < h.c.length) = True := eq_true hlt
                  have r3 : (p < h.c.length) = True := eq_true HPP.out.2
                  obtain ⟨ad8, e8, hx⟩ := Kd.at_bool (Kd.C_below HC.out HBI.out) (p : Int) (by omega) (by have := HPP.out; omega)
                  cases e8
                  rw [Int.toNat_natCast, show rdOf false (rowB o h.c.length) (p : Int) = o p by unfold rdOf; rw [Int.toNat_natCast]; exact rowB_get o _ p HPP.out.2] at hx
                  obtain ⟨op, hop⟩ : ∃ op, op = o p := ⟨_, rfl⟩
                  rw [← hop] at hx HOQ
                  have HOP := Aside0.mk hop
                  cases op with
                  | false =>
                    have hq0 : q = 0 := by rcases HOQ.out with e | e; cases e; exact e
                    have HN := Aside0.mk (show Kd.bool.R 4 wr wo.heap.size (fun _ => True) (.slice (some ⟨g2, 0, none⟩) h.c.length cap2) (rowB (stF o (fun p j => decide (0 < tellsN h p (j : Int))) (p + 1) 0) h.c.length) by
                      have h2 := HO.out
                      rw [hq0, stF_none hop.symm] at h2
                      exact h2)
                    clear hq0 hop hlt hq
                    go_wp2
                    go_roundg g3
                    case measure => omega
                    case rel => exact ⟨p + 1, by rw [HWP.out], by have := HPP.out; omega, HN, HBI⟩
                  | true =>
                    obtain ⟨g4, rfl⟩ : ∃ g4, gk = g4 + 1 := ⟨gk - 1, by omega⟩
                    have HTL := Aside0.mk (fun (W : World) (hb : Below wo.heap.size wo W) => HTL0.out p (q : Int) HPP.out.2 W (below_step HB.out hb))
                    obtain ⟨T, hT⟩ : ∃ T, T = tellsN h p (q : Int) := ⟨_, rfl⟩
                    rw [← hT] at HTL
                    have HQQ := Aside0.mk (And.intro hq hlt)
                    have HWQ := Aside0.mk (show wrap64 ((q : Int) + 1) = ((q + 1 : Nat) : Int) by have := HL.out; unfold wrap64; omega)
                    by_cases e0 : 0 < T
                    · have d1 : decide ((0 : Int) < (T : Int)) = true := decide_eq_true (by omega)
                      have d2 : decide (0 < T) = true := decide_eq_true e0
                      have HTT := Aside0.mk (show decide (0 < tellsN h p (q : Int)) = true by rw [← hT]; exact d2)
                      have HOPT := Aside0.mk hop.symm
                      clear hT hop hlt hq e0
                      go_upto_region 17 with (first | (go_at_call 109; (with_reducible refine (HTL.out _ (by repeat (first | (with_reducible exact Below.refl _ _) | (with_reducible refine below_alloc ?_ _) | (with_reducible refine below_drew1 ?_) | (with_reducible refine pw_below_drewN ?_ _) | (with_reducible exact HBI.out)))).mono ?_); rintro e w3 ⟨rfl, hb3⟩; have HB3 := Aside0.mk (show Below wo.heap.size wo w3 from below_step HBI.out hb3); have HB4 := Aside0.mk hb3; clear hb3) | fail)
                      have ho3 := Kd.R_below HO.out HB4.out
                      obtain ⟨hc1, hf1⟩ := Kd.R_celln false ho3 (q : Int) (by omega) (by have := HQQ.out; omega)
                      have hput := Kd.R_putn ho3 (q : Int) true
                      rw [Int.toNat_natCast] at hc1 hf1 hput
                      rw [stF_set HOPT.out HTT.out] at hput
                      have HP := Aside0.mk hput
                      clear ho3 hput
                      go_wp2
                      go_roundg g4
                      case measure => omega
                      case rel => exact ⟨q + 1, by rw [HWQ.out], by have := HQQ.out; omega, ⟨.inl HOP.out.symm⟩, HP, ⟨below_set HB3.out HG2.out⟩⟩
                    · have d1 : decide ((0 : Int) < (T : Int)) = false := decide_eq_false (by omega)
                      have d2 : decide (0 < T) = false := decide_eq_false e0
                      have HTT := Aside0.mk (show decide (0 < tellsN h p (q : Int)) = false by rw [← hT]; exact d2)
                      clear hT hop hlt hq e0
                      go_wp2_with (first | (go_at_call 109; (with_reducible refine (HTL.out _ (by repeat (first | (with_reducible exact Below.refl _ _) | (with_reducible refine below_alloc ?_ _) | (with_reducible refine below_drew1 ?_) | (with_reducible refine pw_below_drewN ?_ _) | (with_reducible exact HBI.out)))).mono ?_); rintro e w3 ⟨rfl, hb3⟩; have HB3 := Aside0.mk (show Below wo.heap.size wo w3 from below_step HBI.out hb3); have HB4 := Aside0.mk hb3; clear hb3) | fail)
                      go_roundg g4
                      case measure => omega
                      case rel => exact ⟨q + 1, by rw [HWQ.out], by have := HQQ.out; omega, ⟨.inl HOP.out.symm⟩, ⟨by rw [← stF_skip HTT.out]; exact Kd.R_below HO.out HB4.out⟩, HB3⟩
                · have r1 : decide (q < h.c.length) = false := decide_eq_false hlt
                  have r2 : (q < h.c.length) = False := eq_false hlt
                  have hqn : q = h.c.length := by omega
                  have HN := Aside0.mk (show Kd.bool.R 4 wr wo.heap.size (fun _ => True) (.slice (some ⟨g2, 0, none⟩) h.c.length cap2) (rowB (stF o (fun p j => decide (0 < tellsN h p (j : Int))) (p + 1) 0) h.c.length) by
                    have h2 := HO.out
                    rw [hqn, stF_end] at h2
                    exact h2)
                  clear hqn hlt hq
                  go_wp2
                  go_roundg g3
                  case measure => omega
                  case rel => exact ⟨p + 1, by rw [HWP.out], by have := HPP.out; omega, HN, HBI⟩
            · have r1 : decide (p < h.c.length) = false := decide_eq_false hlt
              have r2 : (p < h.c.length) = False := eq_false hlt
              have hpn : p = h.c.length := by omega
              have h2 := HO.out
              rw [hpn, HOK.out, stF_held] at h2
              have h3 := (Kd.R_reads' h2).2.2
              rw [rowB_len] at h3
              have H3 := Aside0.mk h3
              clear hpn hlt hp h2 h3
              go_wp2
              go_roundg g1
              case measure => omega
              case rel => exact ⟨k + 1, cap2, _, by rw [HWK.out], by have := HKK.out; omega, rfl, H3, ⟨below_step HB.out HBP.out⟩⟩
        · have r1 : decide ((k : Int) < 25) = false := decide_eq_false (by omega)
          have r2 : decide (k < 25) = false := decide_eq_false hlt
          have r3 : (k < 25) = False := eq_false hlt
          have r4 : ((k : Int) < 25) = False := eq_false (by omega)
          have hk25 : k = 25 := by omega
          have h2 := HC.out
          rw [hk25] at h2
          have H2 := Aside0.mk h2
          have HBW := Aside0.mk (below_step HB0.out HB.out)
          clear hk25 hlt hk h2
          go_wp2
          go_ret
          exact ⟨_, _, rfl, H2.out, HBW.out⟩
end Go.Proofs.Ytopkoganfnabgaa.H
namespace Go.Proofs.Ytopkoganfnabgaa.H
open Go.RowKit Go.Proofs.YtopkoganfnabgaaW.PrintWords Go.Proofs.YtopkoganfnabgaaW.PrintLast Go.Proofs.YtopkoganfnabgaaW.PrintMore
attribute [local go_sem] max2_int min2_int max_two min_two max_three min_three max_four min_four
set_option linter.unusedVariables false
set_option linter.unusedSimpArgs false
theorem belowO_eq (m : Nat) (h : Hp) (p : Int) : ∃ inner, belowO m h p = belowB m h p inner ∧ (m ≤ 1 → ∀ l, inner l = some zGt) ∧ (2 ≤ m → ∀ l, inner l = belowL (belowO (m - 1) h) zGt true l) := by
  cases m with
  | zero => exact ⟨_, rfl, fun _ _ => rfl, fun h => by omega⟩
  | succ m =>
    refine ⟨_, rfl, fun hm l => ?_, fun hm l => ?_⟩
    · show (if m = 0 then some zGt else belowL (belowO m h) zGt true l) = _; rw [if_pos (by omega)]
    · show (if m = 0 then some zGt else belowL (belowO m h) zGt true l) = _; rw [if_neg (by omega)]; rfl
set_option maxHeartbeats 8000000 in
set_option maxRecDepth 100000 in
theorem below_walk (m : Nat) : ∀ (A : Option Addr) (c : Nat) (h : Hp) (p : Int) (r : Gt) (w : World), m ≤ 1000 → kCl.C w A h.c.length h.c → belowO m h p = some r →
    Calls Try.prog 68 #[.agg #[.slice A h.c.length c, .int .i64 h.keep], .int .i64 p, .int .i64 m] w fun e w' => e = .returned (.agg #[.int .i64 r.lo, .int .i64 r.hi, .int .i64 r.high, .bool r.is]) ∧ Below w.heap.size w w' := by
  induction m using Nat.strongRecOn with
  | _ m ih =>
    intro A c h p r w hm hr e
    obtain ⟨inner, e0, em1, em2⟩ := belowO_eq m h p
    rw [e0] at e
    unfold belowB at e
    by_cases hin' : inB h p = false
    · rw [hin'] at e; simp at e
    have hin : inB h p = true := by simpa using hin'
    rw [if_pos hin] at e
    obtain ⟨i, rfl, hi⟩ := inB_nat hin
    rw [clAt_nat] at e
    obtain ⟨ad, B, cb, rfl, x0, x1, x2, x3, hcb, hB⟩ := at_cl hr i hi
    obtain ⟨x, hx⟩ : ∃ x, x = h.c.getD i zCl := ⟨_, rfl⟩
    rw [← hx] at x0 x2 x3 hB e hcb
    have q2 : (i < h.c.length) = True := eq_true hi
    obtain ⟨lf, hlf⟩ : ∃ lf, lf = x.n.leaf := ⟨_, rfl⟩
    rw [← hlf] at x2 e
    obtain ⟨W1, hW1⟩ : ∃ W1, W1 = (w.alloc (.cells #[.slice (some ad) h.c.length c, .int .i64 h.keep] 24)).alloc (.cells #[.int .i64 0, .int .i64 0, .int .i64 0, .bool false] 110) := ⟨_, rfl⟩
    have hB1 : Below w.heap.size w W1 := by rw [hW1]; exact below_alloc (below_alloc (Below.refl _ _) _) _
    obtain ⟨W2, hW2⟩ : ∃ W2, W2 = W1.alloc (.cells #[.bool lf, .slice B x.n.it.length cb] 77) := ⟨_, rfl⟩
    have hsz : W1.heap.size = w.heap.size + 1 + 1 := by rw [hW1]; simp
    have HB0 := Aside0.mk (show Below w.heap.size w W2 by rw [hW2]; exact below_alloc hB1 _)
    have hH1 : W1.heap[w.heap.size]? = some (.cells #[.slice (some ad) h.c.length c, .int .i64 h.keep] 24) := by rw [hW1]; exact blk_alloc (blk_new w _) _
    have hG1 : W1.heap[w.heap.size + 1]? = some (.cells #[.int .i64 0, .int .i64 0, .int .i64 0, .bool false] 110) := by rw [hW1]; exact blk2 w _ _
    have HBH := Aside0.mk (show W2.heap[w.heap.size]? = some (.cells #[.slice (some ad) h.c.length c, .int .i64 h.keep] 24) by rw [hW2]; exact blk_alloc hH1 _)
    have HBG := Aside0.mk (show W2.heap[w.heap.size + 1]? = some (.cells #[.int .i64 0, .int .i64 0, .int .i64 0, .bool false] 110) by rw [hW2]; exact blk_alloc hG1 _)
    have HBN := Aside0.mk (show W2.heap[w.heap.size + 1 + 1]? = some (.cells #[.bool lf, .slice B x.n.it.length cb] 77) by rw [hW2, ← hsz]; exact blk_new _ _)
    have x5 := bcell hB1 x2
    have x6 := bcell hB1 x3
    have x7 := bcell HB0.out x0
    have c0 := (blk_cell hH1 0).trans (show _ = some (Value.slice (some ad) h.c.length c) from rfl)
    have c1 := (blk_cell HBH.out 0).trans (show _ = some (Value.slice (some ad) h.c.length c) from rfl)
    have n0 := (blk_cell HBN.out 0).trans (show _ = some (Value.bool lf) from rfl)
    have n1 := (blk_cell HBN.out 1).trans (show _ = some (Value.slice B x.n.it.length cb) from rfl)
    have g0 := (blk_cell HBG.out 0).trans (show _ = some (Value.int .i64 0) from rfl)
    have g1 := (blk_cell HBG.out 1).trans (show _ = some (Value.int .i64 0) from rfl)
    have g2 := (blk_cell HBG.out 2).trans (show _ = some (Value.int .i64 0) from rfl)
    have g3 := (blk_cell HBG.out 3).trans (show _ = some (Value.bool false) from rfl)
    have f0 := blk_frozen HBG.out 0
    have f1 := blk_frozen HBG.out 1
    have f2 := blk_frozen HBG.out 2
    have f3 := blk_frozen HBG.out 3
    have HW1 := Aside0.mk hW1
    have HW2 := Aside0.mk hW2
    have HSZ := Aside0.mk hsz
    have HR := Aside0.mk hr
    have HBI := Aside0.mk (Kd.C_below hB HB0.out)
    have HB00 := Aside0.mk hB
    have HCB := Aside0.mk hcb
    have HM1 := Aside0.mk em1
    have HM2 := Aside0.mk em2
    have HIH := Aside0.mk ih
    have hmx := Kd.C_max hB
    clear ih hin' hin hi hx hlf hr hB hcb x0 x1 x2 x3 hW1 hW2 hsz hB1 hH1 hG1 e0 em1 em2
    go_enter Try.func68, Try.ntmps68
    go_upto_region 1 with (fail)
    rw [← HW1.out]
    go_upto_region 2 with (fail)
    rw [HSZ.out, ← HW2.out]
    by_cases e1 : x.ref < 1
    · rw [if_pos e1] at e
      obtain rfl : zGt = r := by simpa using e
      have d1 : decide (x.ref < 1) = true := decide_eq_true e1
      clear e e1
      go_wp2
      (refine bodyPost_ret (results_single rfl (.cell (w.heap.size + 1) 110 #[.int .i64 0, .int .i64 0, .int .i64 0, .bool false] (0, 0) _ rfl (blk_put (blk_put (blk_put (blk_put HBG.out 0 _ rfl) 1 _ rfl) 2 _ rfl) 3 _ rfl) Try.underlying110 rfl (by kernel_rfl) .nil)) rfl ⟨rfl, below_set (below_set (below_set (below_set HB0.out (by omega)) (by omega)) (by omega)) (by omega)⟩)
    · rw [if_neg e1] at e
      have d1 : decide (x.ref < 1) = false := decide_eq_false e1
      clear e1
      cases lf with
      | true =>
        rw [if_pos rfl] at e
        by_cases hl : 0 < x.n.it.length
        · rw [if_pos hl] at e
          obtain ⟨ad2, rfl, z0, _⟩ := at_it0 HBI.out hl
          obtain ⟨j, hj⟩ : ∃ j, j = x.n.it.length - 1 := ⟨_, rfl⟩
          rw [← hj] at e
          obtain ⟨ad3, e3, y0, _⟩ := at_it HBI.out j (by omega)
          cases e3
          obtain ⟨k0, hk0⟩ : ∃ k0, k0 = (itAt x.n.it 0).k := ⟨_, rfl⟩
          obtain ⟨k1, hk1⟩ : ∃ k1, k1 = (itAt x.n.it j).k := ⟨_, rfl⟩
          rw [← hk0] at z0 e
          rw [← hk1] at y0 e
          have r1 : (0 < x.n.it.length) = True := eq_true hl
          have r2 : ((0 : Int) < (x.n.it.length : Int)) = True := eq_true (by omega)
          have r3 : IntKind.i64.wrap ((x.n.it.length : Int) - 1) = (j : Int) := by rw [i64_w]; unfold wrap64; omega
          have r4 : (j < x.n.it.length) = True := eq_true (by omega)
          have r5 : ((j : Int) < (x.n.it.length : Int)) = True := eq_true (by omega)
          have r6 : decide ((1 : Int) ≤ (m : Int)) = decide (1 ≤ m) := decide_eq_decide.2 (by omega)
          obtain ⟨bm, hbm⟩ : ∃ bm, bm = decide (1 ≤ m) := ⟨_, rfl⟩
          rw [← hbm] at e r6
          obtain rfl : (⟨k0, k1, 1, bm⟩ : Gt) = r := by simpa using e
          clear e hl hj hk0 hk1 hbm
          go_wp2
          go_still_tail 17, (by kernel_rfl)
          go_wp2
          (refine bodyPost_ret (results_single rfl (.cell (w.heap.size + 1) 110 #[.int .i64 k0, .int .i64 k1, .int .i64 1, .bool bm] (0, 0) _ rfl (blk_put (blk_put (blk_put (blk_put (blk_drew HBG.out) 0 _ rfl) 1 _ rfl) 2 _ rfl) 3 _ rfl) Try.underlying110 rfl (by kernel_rfl) .nil)) rfl ⟨rfl, below_set (below_set (below_set (below_set (below_drew1 HB0.out) (by omega)) (by omega)) (by omega)) (by omega)⟩)
        · rw [if_neg hl] at e; cases e
      | false =>
        rw [if_neg (by decide)] at e
        by_cases hm1 : m ≤ 1
        · rw [HM1.out hm1] at e
          obtain rfl : zGt = r := by simpa using e
          have d2 : decide ((m : Int) ≤ 1) = true := decide_eq_true (by omega)
          have d3 : decide (m ≤ 1) = true := decide_eq_true hm1
          clear e hm1
          go_wp2
          (refine bodyPost_ret (results_single rfl (.cell (w.heap.size + 1) 110 #[.int .i64 0, .int .i64 0, .int .i64 0, .bool false] (0, 0) _ rfl (blk_put (blk_put (blk_put (blk_put HBG.out 0 _ rfl) 1 _ rfl) 2 _ rfl) 3 _ rfl) Try.underlying110 rfl (by kernel_rfl) .nil)) rfl ⟨rfl, below_set (below_set (below_set (below_set HB0.out (by omega)) (by omega)) (by omega)) (by omega)⟩)
        · rw [HM2.out (by omega)] at e
          have d2 : decide ((m : Int) ≤ 1) = false := decide_eq_false (by omega)
          have d3 : decide (m ≤ 1) = false := decide_eq_false hm1
          have HE := Aside0.mk e
          obtain ⟨m', hm'⟩ : ∃ m', m' = m - 1 := ⟨_, rfl⟩
          rw [← hm'] at HE
          have HMM := Aside0.mk (show m' < m ∧ m' ≤ 1000 ∧ wrap64 ((m : Int) - 1) = (m' : Int) ∧ IntKind.i64.wrap ((m : Int) - 1) = (m' : Int) from ⟨by omega, by omega, by unfold wrap64; omega, by rw [i64_w]; unfold wrap64; omega⟩)
          clear e hm1 hm'
          go_wp2
          obtain ⟨S, hS⟩ : ∃ S, S = W2.heap.size := ⟨_, rfl⟩
          obtain ⟨W3, hW3⟩ : ∃ W3, W3 = W2.alloc (.cells #[.int .i64 0, .int .i64 0, .int .i64 0, .bool false] 110) := ⟨_, rfl⟩
          have HX3 := Aside0.mk (show W3.heap[w.heap.size]? = some (.cells #[.slice (some ad) h.c.length c, .int .i64 h.keep] 24) ∧ W3.heap[w.heap.size + 1]? = some (.cells #[.int .i64 0, .int .i64 0, .int .i64 0, .bool false] 110) ∧ W3.heap[w.heap.size + 1 + 1]? = some (.cells #[.bool false, .slice B x.n.it.length cb] 77) ∧ W3.heap[S]? = some (.cells #[.int .i64 zGt.lo, .int .i64 zGt.hi, .int .i64 zGt.high, .bool false] 110) by
            rw [hW3, hS]; exact ⟨blk_alloc HBH.out _, blk_alloc HBG.out _, blk_alloc HBN.out _, blk_new _ _⟩)
          have HB3 := Aside0.mk (show Below w.heap.size w W3 by rw [hW3]; exact below_alloc HB0.out _)
          have HSS := Aside0.mk (show w.heap.size ≤ S ∧ w.heap.size < S ∧ w.heap.size + 1 < S ∧ w.heap.size + 1 + 1 < S by
            have := blk_lt HBN.out; rw [hS]; exact ⟨HB0.out.size, by omega, by omega, by omega⟩)
          rw [← hS, ← hW3]
          clear hS hW3 x5 x6 x7 c0 c1 n0 n1 g0 g1 g2 g3 f0 f1 f2 f3 d1 d2 d3 q2
          go_loopg [9] x.n.it.length (fun gg s9 wr => ∃ (k : Nat) (out : Gt), s9 = .int .i64 k ∧ k + gg = x.n.it.length ∧ Aside0 (belowL (belowO m' h) out (decide (k = 0)) (x.n.it.drop k) = some r) ∧ Aside0 (wr.heap[w.heap.size]? = some (.cells #[.slice (some ad) h.c.length c, .int .i64 h.keep] 24) ∧ wr.heap[w.heap.size + 1]? = some (.cells #[.int .i64 0, .int .i64 0, .int .i64 0, .bool false] 110) ∧ wr.heap[w.heap.size + 1 + 1]? = some (.cells #[.bool false, .slice B x.n.it.length cb] 77) ∧ wr.heap[S]? = some (.cells #[.int .i64 out.lo, .int .i64 out.hi, .int .i64 out.high, .bool false] 110)) ∧ Aside0 (Below w.heap.size w wr))
          case atStart => exact ⟨0, zGt, rfl, by omega, HE, HX3, HB3⟩
          case round =>
            obtain ⟨k, out, rfl, hk, HACC, HX, HBW⟩ := hrel
            have b0 := (blk_cell HX.out.1 0).trans (show _ = some (Value.slice (some ad) h.c.length c) from rfl)
            have b1 := (blk_cell HX.out.1 1).trans (show _ = some (Value.int .i64 h.keep) from rfl)
            have n1 := (blk_cell HX.out.2.2.1 1).trans (show _ = some (Value.slice B x.n.it.length cb) from rfl)
            by_cases hlt : k < x.n.it.length
            · obtain ⟨g1, rfl⟩ : ∃ g1, gk = g1 + 1 := ⟨gk - 1, by omega⟩
              have r1 : decide (k < x.n.it.length) = true := decide_eq_true hlt
              have r2 : (k < x.n.it.length) = True := eq_true hlt
              have r3 := HMM.out.2.2.1
              have r4 := HMM.out.2.2.2
              have ha := HACC.out
              rw [drop_at _ _ hlt, belowL] at ha
              obtain ⟨ad2, rfl, y0, z1⟩ := at_it (Kd.C_below HB00.out HBW.out) k hlt
              obtain ⟨y, hy⟩ : ∃ y, y = itAt x.n.it k := ⟨_, rfl⟩
              rw [← hy] at y0 z1 ha
              cases hq : belowO m' h y.v with
              | none => rw [hq] at ha; cases ha
              | some z =>
                rw [hq] at ha
                simp only at ha
                have HI := Aside0.mk (fun (W : World) (hb : Below w.heap.size w W) => HIH.out m' HMM.out.1 (some ad) c h y.v z W HMM.out.2.1 (Kd.C_below HR.out hb) hq)
                have HKK := Aside0.mk (And.intro hk hlt)
                have HW := Aside0.mk (show wrap64 ((k : Int) + 1) = ((k + 1 : Nat) : Int) by unfold wrap64; omega)
                obtain ⟨t1, ht1⟩ : ∃ t1, t1 = w64 (z.high + 1) := ⟨_, rfl⟩
                have s1 : wrap64 (z.high + 1) = t1 := by rw [ht1, w64_eq]
                have s2 : IntKind.i64.wrap (z.high + 1) = t1 := by rw [ht1, wrap_i64]
                have hbad : badB out (decide (k = 0)) y z = (!z.is || (!decide (z.lo = y.k) || (!decide (k = 0) && (decide (z.lo ≤ out.hi) || !decide (out.high = t1))))) := by rw [ht1]; rfl
                have hstep : stepG out (decide (k = 0)) z = ⟨if decide (k = 0) then z.lo else out.lo, z.hi, if decide (k = 0) then t1 else out.high, false⟩ := by rw [ht1]; rfl
                obtain ⟨zis, hzis⟩ : ∃ zis, zis = z.is := ⟨_, rfl⟩
                rw [← hzis] at HI hbad
                clear hq hy hlt hk ht1 hzis
                go_upto_region 12 with (fail)
                go_cut [10] from 55 to 64 (fun v10 wc => ∃ XN : Nat, v10 = .pointer (some ⟨XN, 0, none⟩) ∧ S < XN ∧ Aside0 (wc.heap[XN]? = some (.cells #[.int .i64 z.lo, .int .i64 z.hi, .int .i64 z.high, .bool zis] 110)) ∧ Aside0 (Below wr.heap.size wr wc))
                case first =>
                  go_region_held3 (fun w' => w'.cell? ⟨w.heap.size, 0, none⟩ = some (.slice (some ad) h.c.length c) ∧ w'.cell? ⟨w.heap.size, 1, none⟩ = some (.int .i64 h.keep) ∧ w'.cell? ⟨w.heap.size + 1 + 1, 1, none⟩ = some (.slice (some ad2) x.n.it.length cb) ∧ w'.cell? ⟨(ad2.add (k * 2)).block, (ad2.add (k * 2)).off + 1, none⟩ = some (.int .i64 y.v)) (first | exact ⟨b0, b1, n1, z1⟩ | exact (fun (h : Below wr.heap.size wr _) => ⟨bcell h b0, bcell h b1, bcell h n1, bcell h z1⟩) (by repeat (first | (with_reducible exact Below.refl _ _) | (with_reducible refine below_alloc ?_ _) | (with_reducible refine below_drew1 ?_) | (with_reducible refine pw_below_drewN ?_ _) | (with_reducible exact HB2.out) | (with_reducible refine below_set ?_ (Nat.le_refl _))))) (first | (go_at_call 68; (with_reducible refine (HI.out _ (below_step HBW.out (by repeat (first | (with_reducible exact Below.refl _ _) | (with_reducible refine below_alloc ?_ _) | (with_reducible refine below_drew1 ?_) | (with_reducible refine pw_below_drewN ?_ _) | fail)))).mono ?_); rintro e w2 ⟨rfl, hb2⟩; have HB2 := Aside0.mk (show Below wr.heap.size wr w2 from below_step (by repeat (first | (with_reducible exact Below.refl _ _) | (with_reducible refine below_alloc ?_ _) | (with_reducible refine below_drew1 ?_) | (with_reducible refine pw_below_drewN ?_ _) | fail)) hb2); (first | (have qx := blk_below (blk_drew (blk_new wr (.cells #[.int .i64 0, .int .i64 0, .int .i64 0, .bool false] 110))) hb2; have QX := Aside0.mk qx; have qx0 := (blk_cell qx 0).trans (show _ = some (Value.int .i64 0) from rfl); have qx1 := (blk_cell qx 1).trans (show _ = some (Value.int .i64 0) from rfl); have qx2 := (blk_cell qx 2).trans (show _ = some (Value.int .i64 0) from rfl); have qx3 := (blk_cell qx 3).trans (show _ = some (Value.bool false) from rfl); have qf0 := blk_frozen qx 0; have qf1 := blk_frozen qx 1; have qf2 := blk_frozen qx 2; have qf3 := blk_frozen qx 3; clear qx) | skip); clear hb2) | fail)
                  · go_wp2
                    go_meet
                    case rel => exact ⟨w2.heap.size, rfl, by have := blk_lt HX.out.2.2.2; have := HB2.out.size; omega, ⟨blk_new _ _⟩, ⟨below_alloc HB2.out _⟩⟩
                  · go_wp2
                    go_meet
                    case rel => exact ⟨wr.heap.size, rfl, blk_lt HX.out.2.2.2, ⟨blk_put (blk_put (blk_put (blk_put QX.out 0 _ rfl) 1 _ rfl) 2 _ rfl) 3 _ rfl⟩, ⟨below_set (below_set (below_set (below_set HB2.out (Nat.le_refl _)) (Nat.le_refl _)) (Nat.le_refl _)) (Nat.le_refl _)⟩⟩
                case rest =>
                  obtain ⟨XN, rfl, hSX, HXN, HB2⟩ := hcut
                  have HSX := Aside0.mk hSX
                  have X0 := Aside0.mk (blk_below HX.out.1 HB2.out)
                  have X1 := Aside0.mk (blk_below HX.out.2.1 HB2.out)
                  have X2 := Aside0.mk (blk_below HX.out.2.2.1 HB2.out)
                  have X3 := Aside0.mk (blk_below HX.out.2.2.2 HB2.out)
                  have HB5 := Aside0.mk (below_step HBW.out HB2.out)
                  have v1 := (blk_cell X2.out 1).trans (show _ = some (Value.slice (some ad2) x.n.it.length cb) from rfl)
                  have v2 := (blk_cell X3.out 1).trans (show _ = some (Value.int .i64 out.hi) from rfl)
                  have v3 := (blk_cell X3.out 2).trans (show _ = some (Value.int .i64 out.high) from rfl)
                  have v4 := bcell HB2.out y0
                  have u0 := (blk_cell HXN.out 0).trans (show _ = some (Value.int .i64 z.lo) from rfl)
                  have u1 := (blk_cell HXN.out 1).trans (show _ = some (Value.int .i64 z.hi) from rfl)
                  have u2 := (blk_cell HXN.out 2).trans (show _ = some (Value.int .i64 z.high) from rfl)
                  have u3 := (blk_cell HXN.out 3).trans (show _ = some (Value.bool zis) from rfl)
                  clear b0 b1 n1 y0 z1 hSX HI r3 r4
                  cases zis with
                  | false =>
                    rw [hbad, if_pos (by rfl)] at ha
                    obtain rfl : zGt = r := by simpa using ha
                    clear ha hbad hstep
                    (go_wp2; go_quiet (fail); obtain ⟨W5, hW5⟩ : ∃ W5, W5 = wc.drewN nq := ⟨_, rfl⟩; have HB6 := Aside0.mk (show Below w.heap.size w W5 by rw [hW5]; exact pw_below_drewN HB5.out nq); have G5 := Aside0.mk (show W5.heap[w.heap.size + 1]? = some (.cells #[.int .i64 0, .int .i64 0, .int .i64 0, .bool false] 110) by rw [hW5]; exact blk_drewN X1.out nq); rw [← hW5]; have g0 := (blk_cell G5.out 0).trans (show _ = some (Value.int .i64 0) from rfl); have g1 := (blk_cell G5.out 1).trans (show _ = some (Value.int .i64 0) from rfl); have g2 := (blk_cell G5.out 2).trans (show _ = some (Value.int .i64 0) from rfl); have g3 := (blk_cell G5.out 3).trans (show _ = some (Value.bool false) from rfl); have f0 := blk_frozen G5.out 0; have f1 := blk_frozen G5.out 1; have f2 := blk_frozen G5.out 2; have f3 := blk_frozen G5.out 3; clear hW5; go_wp2; (refine bodyPost_ret (results_single rfl (.cell (w.heap.size + 1) 110 #[.int .i64 0, .int .i64 0, .int .i64 0, .bool false] (0, 0) _ rfl (blk_put (blk_put (blk_put (blk_put G5.out 0 _ rfl) 1 _ rfl) 2 _ rfl) 3 _ rfl) Try.underlying110 rfl (by kernel_rfl) .nil)) rfl ⟨rfl, below_set (below_set (below_set (below_set HB6.out (by omega)) (by omega)) (by omega)) (by omega)⟩))
                  | true =>
                    by_cases e1 : z.lo = y.k
                    · have d1 : (z.lo != y.k) = false := bne_f e1
                      rw [decide_eq_true e1] at hbad
                      by_cases hk0 : k = 0
                      · have p1 : (0 < (k : Int)) = False := eq_false (by omega)
                        have p2 : decide (0 < (k : Int)) = false := decide_eq_false (by omega)
                        have p3 : decide (0 < k) = false := decide_eq_false (by omega)
                        have p4 : (0 < k) = False := eq_false (by omega)
                        have p5 : ((k : Int) == 0) = true := beq_iff_eq.mpr (by omega)
                        have p6 : (k == 0) = true := beq_iff_eq.mpr hk0
                        rw [decide_eq_true hk0] at ha hbad hstep
                        rw [hbad, if_neg (by simp), hstep] at ha
                        have HA := Aside0.mk (show belowL (belowO m' h) ⟨z.lo, z.hi, t1, false⟩ false (x.n.it.drop (k + 1)) = some r from ha)
                        clear ha hbad hstep e1 hk0
                        (go_wp2; go_quiet (fail); obtain ⟨W5, hW5⟩ : ∃ W5, W5 = wc.drewN nq := ⟨_, rfl⟩; have HB6 := Aside0.mk (show Below w.heap.size w W5 by rw [hW5]; exact pw_below_drewN HB5.out nq); have Y0 := Aside0.mk (show W5.heap[w.heap.size]? = some (.cells #[.slice (some ad) h.c.length c, .int .i64 h.keep] 24) by rw [hW5]; exact blk_drewN X0.out nq); have Y1 := Aside0.mk (show W5.heap[w.heap.size + 1]? = some (.cells #[.int .i64 0, .int .i64 0, .int .i64 0, .bool false] 110) by rw [hW5]; exact blk_drewN X1.out nq); have Y2 := Aside0.mk (show W5.heap[w.heap.size + 1 + 1]? = some (.cells #[.bool false, .slice (some ad2) x.n.it.length cb] 77) by rw [hW5]; exact blk_drewN X2.out nq); have Y3 := Aside0.mk (show W5.heap[S]? = some (.cells #[.int .i64 out.lo, .int .i64 out.hi, .int .i64 out.high, .bool false] 110) by rw [hW5]; exact blk_drewN X3.out nq); have Y4 := Aside0.mk (show W5.heap[XN]? = some (.cells #[.int .i64 z.lo, .int .i64 z.hi, .int .i64 z.high, .bool true] 110) by rw [hW5]; exact blk_drewN HXN.out nq); rw [← hW5]; clear u0 u1 u2 u3 v1 v2 v3 v4; have s5 := (blk_cell Y3.out 0).trans (show _ = some (Value.int .i64 out.lo) from rfl); have s6 := (blk_cell Y3.out 1).trans (show _ = some (Value.int .i64 out.hi) from rfl); have s7 := (blk_cell Y3.out 2).trans (show _ = some (Value.int .i64 out.high) from rfl); have f5 := blk_frozen Y3.out 0; have f6 := blk_frozen Y3.out 1; have f7 := blk_frozen Y3.out 2; have u5 := (blk_cell Y4.out 0).trans (show _ = some (Value.int .i64 z.lo) from rfl); have u6 := (blk_cell Y4.out 1).trans (show _ = some (Value.int .i64 z.hi) from rfl); have u7 := (blk_cell Y4.out 2).trans (show _ = some (Value.int .i64 z.high) from rfl); have l1 : (S = XN) = False := eq_false (by have := HSX.out; omega); have l2 : (XN = S) = False := eq_false (by have := HSX.out; omega); clear hW5; go_wp2)
                        go_roundg g1
                        case measure => omega
                        case rel => exact ⟨k + 1, ⟨z.lo, z.hi, t1, false⟩, by rw [HW.out], by have := HKK.out; omega, ⟨by rw [show decide (k + 1 = 0) = false by simp]; exact HA.out⟩, ⟨blk_far (blk_far (blk_far Y0.out (by have := HSS.out; show w.heap.size ≠ S; omega) _) (by have := HSS.out; show w.heap.size ≠ S; omega) _) (by have := HSS.out; show w.heap.size ≠ S; omega) _, blk_far (blk_far (blk_far Y1.out (by have := HSS.out; show w.heap.size + 1 ≠ S; omega) _) (by have := HSS.out; show w.heap.size + 1 ≠ S; omega) _) (by have := HSS.out; show w.heap.size + 1 ≠ S; omega) _, blk_far (blk_far (blk_far Y2.out (by have := HSS.out; show w.heap.size + 1 + 1 ≠ S; omega) _) (by have := HSS.out; show w.heap.size + 1 + 1 ≠ S; omega) _) (by have := HSS.out; show w.heap.size + 1 + 1 ≠ S; omega) _, blk_put (blk_put (blk_put Y3.out 0 _ rfl) 2 _ rfl) 1 _ rfl⟩, ⟨below_set (below_set (below_set HB6.out HSS.out.1) HSS.out.1) HSS.out.1⟩⟩
                      · have p1 : (0 < (k : Int)) = True := eq_true (by omega)
                        have p2 : decide (0 < (k : Int)) = true := decide_eq_true (by omega)
                        have p3 : decide (0 < k) = true := decide_eq_true (by omega)
                        have p4 : (0 < k) = True := eq_true (by omega)
                        have p5 : ((k : Int) == 0) = false := beq_eq_false_iff_ne.mpr (by omega)
                        have p6 : (k == 0) = false := beq_eq_false_iff_ne.mpr hk0
                        rw [decide_eq_false hk0] at ha hbad hstep
                        by_cases e2 : z.lo ≤ out.hi
                        · have d2 : decide (z.lo ≤ out.hi) = true := decide_eq_true e2
                          rw [hbad, if_pos (by rw [d2]; rfl)] at ha
                          obtain rfl : zGt = r := by simpa using ha
                          clear ha hbad hstep e1 e2 hk0
                          (go_wp2; go_quiet (fail); obtain ⟨W5, hW5⟩ : ∃ W5, W5 = wc.drewN nq := ⟨_, rfl⟩; have HB6 := Aside0.mk (show Below w.heap.size w W5 by rw [hW5]; exact pw_below_drewN HB5.out nq); have G5 := Aside0.mk (show W5.heap[w.heap.size + 1]? = some (.cells #[.int .i64 0, .int .i64 0, .int .i64 0, .bool false] 110) by rw [hW5]; exact blk_drewN X1.out nq); rw [← hW5]; have g0 := (blk_cell G5.out 0).trans (show _ = some (Value.int .i64 0) from rfl); have g1 := (blk_cell G5.out 1).trans (show _ = some (Value.int .i64 0) from rfl); have g2 := (blk_cell G5.out 2).trans (show _ = some (Value.int .i64 0) from rfl); have g3 := (blk_cell G5.out 3).trans (show _ = some (Value.bool false) from rfl); have f0 := blk_frozen G5.out 0; have f1 := blk_frozen G5.out 1; have f2 := blk_frozen G5.out 2; have f3 := blk_frozen G5.out 3; clear hW5; go_wp2; (refine bodyPost_ret (results_single rfl (.cell (w.heap.size + 1) 110 #[.int .i64 0, .int .i64 0, .int .i64 0, .bool false] (0, 0) _ rfl (blk_put (blk_put (blk_put (blk_put G5.out 0 _ rfl) 1 _ rfl) 2 _ rfl) 3 _ rfl) Try.underlying110 rfl (by kernel_rfl) .nil)) rfl ⟨rfl, below_set (below_set (below_set (below_set HB6.out (by omega)) (by omega)) (by omega)) (by omega)⟩))
                        · have d2 : decide (z.lo ≤ out.hi) = false := decide_eq_false e2
                          by_cases e3 : out.high = t1
                          · have d3 : (out.high != t1) = false := bne_f e3
                            rw [hbad, if_neg (by rw [d2, decide_eq_true e3]; decide), hstep] at ha
                            have HA := Aside0.mk (show belowL (belowO m' h) ⟨out.lo, z.hi, out.high, false⟩ false (x.n.it.drop (k + 1)) = some r from ha)
                            clear ha hbad hstep e1 e2 e3 hk0
                            (go_wp2; go_quiet (fail); obtain ⟨W5, hW5⟩ : ∃ W5, W5 = wc.drewN nq := ⟨_, rfl⟩; have HB6 := Aside0.mk (show Below w.heap.size w W5 by rw [hW5]; exact pw_below_drewN HB5.out nq); have Y0 := Aside0.mk (show W5.heap[w.heap.size]? = some (.cells #[.slice (some ad) h.c.length c, .int .i64 h.keep] 24) by rw [hW5]; exact blk_drewN X0.out nq); have Y1 := Aside0.mk (show W5.heap[w.heap.size + 1]? = some (.cells #[.int .i64 0, .int .i64 0, .int .i64 0, .bool false] 110) by rw [hW5]; exact blk_drewN X1.out nq); have Y2 := Aside0.mk (show W5.heap[w.heap.size + 1 + 1]? = some (.cells #[.bool false, .slice (some ad2) x.n.it.length cb] 77) by rw [hW5]; exact blk_drewN X2.out nq); have Y3 := Aside0.mk (show W5.heap[S]? = some (.cells #[.int .i64 out.lo, .int .i64 out.hi, .int .i64 out.high, .bool false] 110) by rw [hW5]; exact blk_drewN X3.out nq); have Y4 := Aside0.mk (show W5.heap[XN]? = some (.cells #[.int .i64 z.lo, .int .i64 z.hi, .int .i64 z.high, .bool true] 110) by rw [hW5]; exact blk_drewN HXN.out nq); rw [← hW5]; clear u0 u1 u2 u3 v1 v2 v3 v4; have s5 := (blk_cell Y3.out 0).trans (show _ = some (Value.int .i64 out.lo) from rfl); have s6 := (blk_cell Y3.out 1).trans (show _ = some (Value.int .i64 out.hi) from rfl); have s7 := (blk_cell Y3.out 2).trans (show _ = some (Value.int .i64 out.high) from rfl); have f5 := blk_frozen Y3.out 0; have f6 := blk_frozen Y3.out 1; have f7 := blk_frozen Y3.out 2; have u5 := (blk_cell Y4.out 0).trans (show _ = some (Value.int .i64 z.lo) from rfl); have u6 := (blk_cell Y4.out 1).trans (show _ = some (Value.int .i64 z.hi) from rfl); have u7 := (blk_cell Y4.out 2).trans (show _ = some (Value.int .i64 z.high) from rfl); have l1 : (S = XN) = False := eq_false (by have := HSX.out; omega); have l2 : (XN = S) = False := eq_false (by have := HSX.out; omega); clear hW5; go_wp2)
                            go_roundg g1
                            case measure => omega
                            case rel => exact ⟨k + 1, ⟨out.lo, z.hi, out.high, false⟩, by rw [HW.out], by have := HKK.out; omega, ⟨by rw [show decide (k + 1 = 0) = false by simp]; exact HA.out⟩, ⟨blk_far Y0.out (by have := HSS.out; show w.heap.size ≠ S; omega) _, blk_far Y1.out (by have := HSS.out; show w.heap.size + 1 ≠ S; omega) _, blk_far Y2.out (by have := HSS.out; show w.heap.size + 1 + 1 ≠ S; omega) _, blk_put Y3.out 1 _ rfl⟩, ⟨below_set HB6.out HSS.out.1⟩⟩
                          · have d3 : (out.high != t1) = true := bne_t e3
                            rw [hbad, if_pos (by rw [d2, decide_eq_false e3]; rfl)] at ha
                            obtain rfl : zGt = r := by simpa using ha
                            clear ha hbad hstep e1 e2 e3 hk0
                            (go_wp2; go_quiet (fail); obtain ⟨W5, hW5⟩ : ∃ W5, W5 = wc.drewN nq := ⟨_, rfl⟩; have HB6 := Aside0.mk (show Below w.heap.size w W5 by rw [hW5]; exact pw_below_drewN HB5.out nq); have G5 := Aside0.mk (show W5.heap[w.heap.size + 1]? = some (.cells #[.int .i64 0, .int .i64 0, .int .i64 0, .bool false] 110) by rw [hW5]; exact blk_drewN X1.out nq); rw [← hW5]; have g0 := (blk_cell G5.out 0).trans (show _ = some (Value.int .i64 0) from rfl); have g1 := (blk_cell G5.out 1).trans (show _ = some (Value.int .i64 0) from rfl); have g2 := (blk_cell G5.out 2).trans (show _ = some (Value.int .i64 0) from rfl); have g3 := (blk_cell G5.out 3).trans (show _ = some (Value.bool false) from rfl); have f0 := blk_frozen G5.out 0; have f1 := blk_frozen G5.out 1; have f2 := blk_frozen G5.out 2; have f3 := blk_frozen G5.out 3; clear hW5; go_wp2; (refine bodyPost_ret (results_single rfl (.cell (w.heap.size + 1) 110 #[.int .i64 0, .int .i64 0, .int .i64 0, .bool false] (0, 0) _ rfl (blk_put (blk_put (blk_put (blk_put G5.out 0 _ rfl) 1 _ rfl) 2 _ rfl) 3 _ rfl) Try.underlying110 rfl (by kernel_rfl) .nil)) rfl ⟨rfl, below_set (below_set (below_set (below_set HB6.out (by omega)) (by omega)) (by omega)) (by omega)⟩))
                    · have d1 : (z.lo != y.k) = true := bne_t e1
                      rw [decide_eq_false e1] at hbad
                      rw [hbad, if_pos (by rfl)] at ha
                      obtain rfl : zGt = r := by simpa using ha
                      clear ha hbad hstep e1
                      (go_wp2; go_quiet (fail); obtain ⟨W5, hW5⟩ : ∃ W5, W5 = wc.drewN nq := ⟨_, rfl⟩; have HB6 := Aside0.mk (show Below w.heap.size w W5 by rw [hW5]; exact pw_below_drewN HB5.out nq); have G5 := Aside0.mk (show W5.heap[w.heap.size + 1]? = some (.cells #[.int .i64 0, .int .i64 0, .int .i64 0, .bool false] 110) by rw [hW5]; exact blk_drewN X1.out nq); rw [← hW5]; have g0 := (blk_cell G5.out 0).trans (show _ = some (Value.int .i64 0) from rfl); have g1 := (blk_cell G5.out 1).trans (show _ = some (Value.int .i64 0) from rfl); have g2 := (blk_cell G5.out 2).trans (show _ = some (Value.int .i64 0) from rfl); have g3 := (blk_cell G5.out 3).trans (show _ = some (Value.bool false) from rfl); have f0 := blk_frozen G5.out 0; have f1 := blk_frozen G5.out 1; have f2 := blk_frozen G5.out 2; have f3 := blk_frozen G5.out 3; clear hW5; go_wp2; (refine bodyPost_ret (results_single rfl (.cell (w.heap.size + 1) 110 #[.int .i64 0, .int .i64 0, .int .i64 0, .bool false] (0, 0) _ rfl (blk_put (blk_put (blk_put (blk_put G5.out 0 _ rfl) 1 _ rfl) 2 _ rfl) 3 _ rfl) Try.underlying110 rfl (by kernel_rfl) .nil)) rfl ⟨rfl, below_set (below_set (below_set (below_set HB6.out (by omega)) (by omega)) (by omega)) (by omega)⟩))
            · have r1 : decide (k < x.n.it.length) = false := decide_eq_false hlt
              have r2 : (k < x.n.it.length) = False := eq_false hlt
              have hr : (⟨out.lo, out.hi, out.high, true⟩ : Gt) = r := by
                have := HACC.out
                rw [List.drop_eq_nil_of_le (by omega), belowL] at this
                simpa using this
              subst hr
              have s8 := (blk_cell HX.out.2.2.2 3).trans (show _ = some (Value.bool false) from rfl)
              have f8 := blk_frozen HX.out.2.2.2 3
              obtain ⟨W5, hW5⟩ : ∃ W5, W5 = wr.setCell ⟨S, 3, none⟩ (.bool true) := ⟨_, rfl⟩
              have K1 := Aside0.mk (show W5.heap[w.heap.size + 1]? = some (.cells #[.int .i64 0, .int .i64 0, .int .i64 0, .bool false] 110) by rw [hW5]; exact blk_far HX.out.2.1 (by have := HSS.out; show w.heap.size + 1 ≠ S; omega) _)
              have K3 := Aside0.mk (show W5.heap[S]? = some (.cells #[.int .i64 out.lo, .int .i64 out.hi, .int .i64 out.high, .bool true] 110) by rw [hW5]; exact blk_put HX.out.2.2.2 3 _ rfl)
              have HB5 := Aside0.mk (show Below w.heap.size w W5 by rw [hW5]; exact below_set HBW.out HSS.out.1)
              have HW5 := Aside0.mk hW5
              clear hlt hk hW5
              go_upto_region 20 with (fail)
              rw [← HW5.out]
              clear s8 f8
              have s5 := (blk_cell K3.out 0).trans (show _ = some (Value.int .i64 out.lo) from rfl)
              have s6 := (blk_cell K3.out 1).trans (show _ = some (Value.int .i64 out.hi) from rfl)
              have s7 := (blk_cell K3.out 2).trans (show _ = some (Value.int .i64 out.high) from rfl)
              have s8 := (blk_cell K3.out 3).trans (show _ = some (Value.bool true) from rfl)
              have g0 := (blk_cell K1.out 0).trans (show _ = some (Value.int .i64 0) from rfl)
              have g1 := (blk_cell K1.out 1).trans (show _ = some (Value.int .i64 0) from rfl)
              have g2 := (blk_cell K1.out 2).trans (show _ = some (Value.int .i64 0) from rfl)
              have g3 := (blk_cell K1.out 3).trans (show _ = some (Value.bool false) from rfl)
              have h0 := blk_frozen K1.out 0
              have h1 := blk_frozen K1.out 1
              have h2 := blk_frozen K1.out 2
              have h3 := blk_frozen K1.out 3
              go_wp2
              (refine bodyPost_ret (results_single rfl (.cell (w.heap.size + 1) 110 #[.int .i64 out.lo, .int .i64 out.hi, .int .i64 out.high, .bool true] (0, 0) _ rfl (blk_put (blk_put (blk_put (blk_put K1.out 0 _ rfl) 1 _ rfl) 2 _ rfl) 3 _ rfl) Try.underlying110 rfl (by kernel_rfl) .nil)) rfl ⟨rfl, below_set (below_set (below_set (below_set HB5.out (by omega)) (by omega)) (by omega)) (by omega)⟩)
end Go.Proofs.Ytopkoganfnabgaa.H
