import Derived.Test.YtopkoganfnabgaaG4
import Derived.Test.YtopkoganfnabgaaG1
namespace Go.Proofs.Ytopkoganfnabgaa.H
open Go.RowKit Go.Proofs.YtopkoganfnabgaaW.PrintWords Go.Proofs.YtopkoganfnabgaaW.PrintLast Go.Proofs.YtopkoganfnabgaaW.PrintMore
attribute [local go_sem] max2_int min2_int max_two min_two max_three min_three max_four min_four
set_option linter.unusedVariables false
set_option linter.unusedSimpArgs false
theorem below_le {B B' : Nat} {w W : World} (h : Below B w W) (hB : B' ≤ B) : Below B' w W := ⟨h.os, h.tape, h.output, h.size, fun k hk => h.block k (by omega)⟩
set_option maxHeartbeats 8000000 in
set_option maxRecDepth 100000 in
/-- The reference's Lay. -/
theorem refLay_walk (A D Br : Option Addr) (c d cbr : Nat) (h g : Hp) (lf : Bool) (held : List Int) (rows : List (List It)) (ts : List Tr) (l : List It) (w : World) (hr : kCl.C w A h.c.length h.c) (hcc : h.c.length ≤ c) (hd : (Kd.int .i64).C w D held.length held) (hsl : kSl.C w Br rows.length ts) (hrc : RowsC w ts rows) (hr2 : rows.length ≤ 2) (e : layO h lf held rows = some (g, l)) :
    Calls Try.prog 77 #[.agg #[.slice A h.c.length c, .int .i64 h.keep], .bool lf, .slice Br rows.length cbr, .slice D held.length d] w fun e w' => ∃ B' cb' M cm, e = .returned (.tuple #[.agg #[.slice B' g.c.length cb', .int .i64 g.keep], .slice M l.length cm]) ∧ g.c.length ≤ cb' ∧ kCl.C w' B' g.c.length g.c ∧ l.length ≤ cm ∧ kIt.C w' M l.length l ∧ Below w.heap.size w w' := by
  obtain ⟨W1, hW1⟩ : ∃ W1, W1 = (w.alloc (.cells #[.slice A h.c.length c, .int .i64 h.keep] 24)).alloc (.cells #[.slice none 0 0, .int .i64 0] 24) := ⟨_, rfl⟩
  have HBW1 := Aside0.mk (show Below w.heap.size w W1 by rw [hW1]; exact below_alloc (below_alloc (Below.refl _ _) _) _)
  have HXB1 := Aside0.mk (show W1.heap[w.heap.size]? = some (.cells #[.slice A h.c.length c, .int .i64 h.keep] 24 (0, 0)) by rw [hW1]; exact blk_alloc (blk_new w _) _)
  have HRES1 := Aside0.mk (show W1.heap[w.heap.size + 1]? = some (.cells #[.slice none 0 0, .int .i64 0] 24 (0, 0)) by rw [hW1]; exact blk2 w _ _)
  have HR := Aside0.mk (And.intro hr (And.intro hcc hd))
  have HSL := Aside0.mk hsl
  have HRC := Aside0.mk hrc
  have c0 := (blk_cell HXB1.out 0).trans (show _ = some (Value.slice A h.c.length c) from rfl)
  have c1 := (blk_cell HXB1.out 1).trans (show _ = some (Value.int .i64 h.keep) from rfl)
  have hW1' := Aside0.mk hW1
  have hlay := e
  clear hW1 hr hcc hd hsl hrc e
  go_enter Try.func77, Try.ntmps77
  go_upto_region 1 with (fail)
  rw [← hW1'.out]
  rcases rows with _ | ⟨s1, rest⟩
  · unfold layO at hlay
    simp only [Option.some.injEq, Prod.mk.injEq] at hlay
    obtain ⟨rfl, rfl⟩ := hlay
    have e0 := (blk_cell HRES1.out 0).trans (show _ = some (Value.slice none 0 0) from rfl)
    have e1 := (blk_cell HRES1.out 1).trans (show _ = some (Value.int .i64 0) from rfl)
    have f0 := blk_frozen HRES1.out 0
    have f1 := blk_frozen HRES1.out 1
    clear hr2
    go_wp2
    refine wp_loop_rounds 1 ?_
    rw [rounds_succ]; go_wp2
    refine bodyPost_ret (results_ct rfl _ _ (w.heap.size + 1) 24 #[.slice A h.c.length c, .int .i64 h.keep] (0, 0) _ rfl (hb_store HRES1.out) Try.underlying24 rfl (by kernel_rfl)) rfl ?_
    exact ⟨A, c, none, 0, rfl, HR.out.2.1, cl_store (Kd.C_below HR.out.1 HBW1.out) HRES1.out, Nat.le_refl _, Kd.C_nil _ _, below_set (below_set HBW1.out (by omega)) (by omega)⟩
  rcases s1 with _ | ⟨y1, s1⟩
  · unfold layO at hlay; cases hlay
  obtain ⟨g1, p1, er1, l3, hal1, hlay2, rfl⟩ := layO_inv hlay
  rcases ts with _ | ⟨⟨B1, n1, cb1⟩, ts⟩
  · exact HRC.out.elim
  obtain ⟨⟨rfl, hcb1, hrow1⟩, hrc2⟩ := HRC.out
  have HRC2 := Aside0.mk hrc2
  obtain ⟨sa, tt, hsa, htt, hs0⟩ := at_sl HSL.out 0 (by simp)
  subst hsa
  obtain rfl : (B1, (y1 :: s1).length, cb1) = tt := by simpa using htt
  have hal1' := fun (W : World) (hb : Below W1.heap.size W1 W) => refAlloc_walk A B1 D c cb1 d h g1 ⟨lf, y1 :: s1⟩ held p1 er1 w W HR.out.1 (below_step HBW1.out hb) HR.out.2.1 hrow1 hcb1 (Kd.C_below HR.out.2.2 (below_step HBW1.out hb)) hal1
  have HROW1 := Aside0.mk (show kIt.C w B1 (y1 :: s1).length (y1 :: s1) ∧ 0 < (y1 :: s1).length ∧ itAt (y1 :: s1) 0 = y1 from ⟨hrow1, by simp, rfl⟩)
  obtain ⟨rl1, hrl1⟩ : ∃ rl1, rl1 = (y1 :: s1).length := ⟨_, rfl⟩
  have hs0' : w.cell? sa = some (.slice B1 rl1 cb1) := by
    have e0 : sa.add 0 = sa := by simp [Addr.add]
    rw [e0] at hs0
    rw [hrl1]
    exact hs0
  have HAL1 := Aside0.mk (show ∀ (W : World), Below W1.heap.size W1 W → Calls Try.prog 47 #[.agg #[.slice A h.c.length c, .int .i64 h.keep], .agg #[.bool lf, .slice B1 rl1 cb1], .slice D held.length d] W (fun e w' => ∃ B' cb', e = .returned (.tuple #[.agg #[.slice B' g1.c.length cb', .int .i64 g1.keep], .int .i64 p1, .int .i64 er1]) ∧ g1.c.length ≤ cb' ∧ Lv w W w' B' g1.c ∧ Below W.heap.size W w') by rw [hrl1]; exact hal1')
  have HS1 := Aside0.mk hs0'
  have s1c := bcell HBW1.out hs0'
  have HWS1 := Aside0.mk (show w.heap.size ≤ W1.heap.size from HBW1.out.size)
  have q10 : (0 < rl1) = True := eq_true (by rw [hrl1]; simp)
  have q11 : ((0 : Int) < (rl1 : Int)) = True := eq_true (by have : 0 < rl1 := (by rw [hrl1]; simp); omega)
  have HL2 := Aside0.mk hlay2
  have HR2 := Aside0.mk hr2
  rcases rest with _ | ⟨s2, rest⟩
  · unfold layO at hlay2
    simp only [Option.some.injEq, Prod.mk.injEq] at hlay2
    obtain ⟨rfl, rfl⟩ := hlay2
    clear hr2 hlay hal1 hrow1 hrc2 htt hs0 hrl1 hcb1 hs0' hal1'
    go_wp2
    refine wp_loop_rounds 2 ?_
    rw [rounds_succ]
    go_wp2
    go_cut [12, 13, 14] from 21 to 33 (fun v12 v13 v14 wx => ∃ (XN : Nat) (A9 : Option Addr) (c9 : Nat), v12 = .pointer (some ⟨XN, 0, none⟩) ∧ v13 = .int .i64 p1 ∧ Aside0 (wx.heap[XN]? = some (.cells #[.slice A9 g1.c.length c9, .int .i64 g1.keep] 24 (0, 0))) ∧ Aside0 (g1.c.length ≤ c9 ∧ Lv w W1 wx A9 g1.c) ∧ Aside0 (Below W1.heap.size W1 wx))
    case first =>
      go_region_held3 (fun w' => w'.cell? ⟨w.heap.size, 0, none⟩ = some (.slice A h.c.length c) ∧ w'.cell? ⟨w.heap.size, 1, none⟩ = some (.int .i64 h.keep) ∧ w'.cell? sa = some (.slice B1 rl1 cb1)) (first | exact ⟨c0, c1, s1c⟩ | exact (fun (hb : Below W1.heap.size W1 _) => ⟨bcell hb c0, bcell hb c1, bcell hb s1c⟩) (by repeat (first | (with_reducible exact Below.refl _ _) | (with_reducible refine below_alloc ?_ _) | (with_reducible refine below_drew1 ?_) | (with_reducible refine pw_below_drewN ?_ _) | (with_reducible exact HB2.out) | (with_reducible refine below_set ?_ (Nat.le_refl _))))) (first | (go_at_call 47; (with_reducible refine (HAL1.out _ (by repeat (first | (with_reducible exact Below.refl _ _) | (with_reducible refine below_alloc ?_ _) | (with_reducible refine below_drew1 ?_) | (with_reducible refine pw_below_drewN ?_ _) | fail))).mono ?_); rintro e w2 ⟨A9, c9, rfl, hc9, hl9, hb9⟩; have HB2 := Aside0.mk (show Below W1.heap.size W1 w2 from below_step (by repeat (first | (with_reducible exact Below.refl _ _) | (with_reducible refine below_alloc ?_ _) | (with_reducible refine below_drew1 ?_) | (with_reducible refine pw_below_drewN ?_ _) | fail)) hb9); have HL9 := Aside0.mk (And.intro hc9 hl9); (first | (have qx := blk_below (blk_drew (blk_new W1 (.cells #[.slice none 0 0, .int .i64 0] 24))) hb9; have QX := Aside0.mk qx; have qx0 := (blk_cell qx 0).trans (show _ = some (Value.slice none 0 0) from rfl); have qx1 := (blk_cell qx 1).trans (show _ = some (Value.int .i64 0) from rfl); have qf0 := blk_frozen qx 0; have qf1 := blk_frozen qx 1; clear qx) | skip); clear hc9 hl9 hb9) | fail)
      · go_wp2
        go_meet
        case rel => exact ⟨w2.heap.size, A9, c9, rfl, rfl, ⟨blk_new _ _⟩, ⟨HL9.out.1, Lv_below (Lv_mono HL9.out.2 (by simp)) (below_alloc (Below.refl _ _) _)⟩, ⟨below_alloc HB2.out _⟩⟩
      · go_wp2
        go_meet
        case rel => exact ⟨W1.heap.size, A9, c9, rfl, rfl, ⟨hb_store QX.out⟩, ⟨HL9.out.1, Lv_mono (Lv_set (Lv_set HL9.out.2 HWS1.out (by simp) _) HWS1.out (by simp) _) (by simp)⟩, ⟨below_set (below_set HB2.out (Nat.le_refl _)) (Nat.le_refl _)⟩⟩
    case rest =>
      obtain ⟨XN1, A19, c19, rfl, rfl, HXN1, HLV1, HBX1⟩ := hcut
      obtain ⟨w1x, hw1x⟩ : ∃ w1x, w1x = wc := ⟨_, rfl⟩
      rw [← hw1x] at HXN1 HLV1 HBX1 ⊢
      clear hw1x
      have HXB1x := Aside0.mk (blk_below HXB1.out HBX1.out)
      have HRES1x := Aside0.mk (blk_below HRES1.out HBX1.out)
      have x0 := (blk_cell HXN1.out 0).trans (show _ = some (Value.slice A19 g1.c.length c19) from rfl)
      have x1 := (blk_cell HXN1.out 1).trans (show _ = some (Value.int .i64 g1.keep) from rfl)
      have k0 := (blk_cell HXB1x.out 0).trans (show _ = some (Value.slice A h.c.length c) from rfl)
      have k1 := (blk_cell HXB1x.out 1).trans (show _ = some (Value.int .i64 h.keep) from rfl)
      have f0 := blk_frozen HXB1x.out 0
      have f1 := blk_frozen HXB1x.out 1
      obtain ⟨V1, hV1⟩ : ∃ V1, V1 = ((w1x.setCell ⟨w.heap.size, 0, none⟩ (.slice A19 g1.c.length c19)).setCell ⟨w.heap.size, 1, none⟩ (.int .i64 g1.keep)) := ⟨_, rfl⟩
      have HVB1 := Aside0.mk (show Below w.heap.size w V1 by rw [hV1]; exact below_set (below_set (below_step HBW1.out HBX1.out) (Nat.le_refl _)) (Nat.le_refl _))
      have HVX1 := Aside0.mk (show V1.heap[w.heap.size]? = some (.cells #[.slice A19 g1.c.length c19, .int .i64 g1.keep] 24 (0, 0)) by rw [hV1]; exact hb_store HXB1x.out)
      have HVR1 := Aside0.mk (show V1.heap[w.heap.size + 1]? = some (.cells #[.slice none 0 0, .int .i64 0] 24 (0, 0)) by
        have hne2 : w.heap.size + 1 ≠ w.heap.size := by omega
        rw [hV1]; exact blk_far (blk_far HRES1x.out hne2 _) hne2 _)
      have hkv1 : KeepBut w1x V1 w.heap.size none := by rw [hV1]; exact ((KeepBut.refl _ _ _).set_ 0 _).set_ 1 _
      have HKV1 := Aside0.mk hkv1
      have HVL1 := Aside0.mk (show g1.c.length ≤ c19 ∧ Lv w W1 V1 A19 g1.c from ⟨HLV1.out.1, Lv_hb HLV1.out.2 (Hb_of HXB1x.out) hkv1⟩)
      have hV1' := Aside0.mk hV1
      have y0 := bcell HVB1.out HS1.out
      obtain ⟨ib1, hib1, it1, _⟩ := at_it0 (Kd.C_below HROW1.out.1 HVB1.out) HROW1.out.2.1
      rw [HROW1.out.2.2] at it1
      clear c0 c1 s1c hV1 hkv1
      go_upto_region 7 with (fail)
      rw [← hV1'.out]
      clear x0 x1 k0 k1 f0 f1
      subst hib1
      go_wp2_with (first | (((with_reducible refine gate_builtin (b := .append) (xs := #[.tmp 35, .tmp 45]) rfl ?_); at_builtin; refine Kd.R_append kIt (w0 := V1) V1.heap.size rfl (.tmp 35) (.tmp 45) 27 26 (.agg #[.int .i64 0, .int .i64 0]) 16 rfl Try.underlying27 info_it rfl (by decide) (by decide) _ [] ⟨y1.k, p1⟩ [.int .i64 y1.k, .int .i64 p1] (fun k => V1.heap.size ≤ k) (fun _ => False) rfl rfl (itM _ _ _ ⟨y1.k, p1⟩) (fun _ h => h.elim) (fun k h => Nat.le_trans (Nat.le_refl _) h) (Kd.R_nil _ _ _ _ _) (Below.refl _ _) ((Nat.le_refl _)) (by simp) ?_; intro v1o w1o ho hb hg hat; have HO1 := Aside0.mk (show Kd.R kIt 26 w1o V1.heap.size (fun k => V1.heap.size ≤ k) v1o [⟨y1.k, p1⟩] from ho); have HG1 := Aside0.mk hg; have HBO1 := Aside0.mk hb; clear ho hb hg hat)) | fail)
      have b0 := blk_below HVX1.out HBO1.out
      have b1 := blk_below HVR1.out HBO1.out
      have u0 := (blk_cell b0 0).trans (show _ = some (Value.slice A19 g1.c.length c19) from rfl)
      have u1 := (blk_cell b0 1).trans (show _ = some (Value.int .i64 g1.keep) from rfl)
      have e0 := (blk_cell b1 0).trans (show _ = some (Value.slice none 0 0) from rfl)
      have e1 := (blk_cell b1 1).trans (show _ = some (Value.int .i64 0) from rfl)
      have f0 := blk_frozen b1 0
      have f1 := blk_frozen b1 1
      have HB1 := Aside0.mk b1
      clear b0 b1
      rw [rounds_succ]; go_wp2
      obtain ⟨M, cm, rfl⟩ := Kd.R_slice HO1.out
      refine bodyPost_ret (results_ct rfl _ _ (w.heap.size + 1) 24 #[.slice A19 g1.c.length c19, .int .i64 g1.keep] (0, 0) _ rfl (hb_store HB1.out) Try.underlying24 rfl (by kernel_rfl)) rfl ?_
      have h9 := Kd.R_reads' (Kd.R_set (Kd.R_set HO1.out HB1.out (by decide) 0 (.slice A19 g1.c.length c19)) (blk_put HB1.out 0 _ rfl) (by decide) 1 (.int .i64 g1.keep))
      exact ⟨A19, c19, M, cm, rfl, HVL1.out.1, cl_store (Kd.C_below HVL1.out.2.now HBO1.out) HB1.out, h9.2.1, h9.2.2, below_set (below_set (below_step HVB1.out HBO1.out) (by omega)) (by omega)⟩
  rcases s2 with _ | ⟨y2, s2⟩
  · unfold layO at hlay2; cases hlay2
  obtain ⟨g2, p2, er2, l4, hal2, hlay3, rfl⟩ := layO_inv hlay2
  rcases rest with _ | ⟨s3, rest⟩
  · unfold layO at hlay3
    simp only [Option.some.injEq, Prod.mk.injEq] at hlay3
    obtain ⟨rfl, rfl⟩ := hlay3
    rcases ts with _ | ⟨⟨B2, n2, cb2⟩, ts⟩
    · exact HRC2.out.elim
    obtain ⟨⟨rfl, hcb2, hrow2⟩, _⟩ := HRC2.out
    obtain ⟨sa2, tt2, hsa2, htt2, hs2⟩ := at_sl HSL.out 1 (by simp)
    cases hsa2
    obtain rfl : (B2, (y2 :: s2).length, cb2) = tt2 := by simpa using htt2
    rw [show sa.add 1 = ⟨sa.block, sa.off + 1, none⟩ by unfold Addr.add; simp] at hs2
    have HROW2 := Aside0.mk (show kIt.C w B2 (y2 :: s2).length (y2 :: s2) ∧ 0 < (y2 :: s2).length ∧ itAt (y2 :: s2) 0 = y2 from ⟨hrow2, by simp, rfl⟩)
    have HRW2 := Aside0.mk (And.intro hrow2 (And.intro hcb2 hal2))
    obtain ⟨rl2, hrl2⟩ : ∃ rl2, rl2 = (y2 :: s2).length := ⟨_, rfl⟩
    have HRL2 := Aside0.mk hrl2
    have HS2 := Aside0.mk (show w.cell? ⟨sa.block, sa.off + 1, none⟩ = some (.slice B2 rl2 cb2) by rw [hrl2]; exact hs2)
    have q20 : (0 < rl2) = True := eq_true (by rw [hrl2]; simp)
    have q21 : ((0 : Int) < (rl2 : Int)) = True := eq_true (by have : 0 < rl2 := (by rw [hrl2]; simp); omega)
    clear hr2 hlay hal1 hrow1 hrc2 htt hs0 hrl1 hcb1 hs0' hal1' hlay2 hal2 hcb2 hrow2 htt2 hs2 hrl2
    go_wp2
    refine wp_loop_rounds 3 ?_
    rw [rounds_succ]
    go_wp2
    go_cut [12, 13, 14] from 21 to 33 (fun v12 v13 v14 wx => ∃ (XN : Nat) (A9 : Option Addr) (c9 : Nat), v12 = .pointer (some ⟨XN, 0, none⟩) ∧ v13 = .int .i64 p1 ∧ Aside0 (wx.heap[XN]? = some (.cells #[.slice A9 g1.c.length c9, .int .i64 g1.keep] 24 (0, 0))) ∧ Aside0 (g1.c.length ≤ c9 ∧ Lv w W1 wx A9 g1.c) ∧ Aside0 (Below W1.heap.size W1 wx))
    case first =>
      go_region_held3 (fun w' => w'.cell? ⟨w.heap.size, 0, none⟩ = some (.slice A h.c.length c) ∧ w'.cell? ⟨w.heap.size, 1, none⟩ = some (.int .i64 h.keep) ∧ w'.cell? sa = some (.slice B1 rl1 cb1)) (first | exact ⟨c0, c1, s1c⟩ | exact (fun (hb : Below W1.heap.size W1 _) => ⟨bcell hb c0, bcell hb c1, bcell hb s1c⟩) (by repeat (first | (with_reducible exact Below.refl _ _) | (with_reducible refine below_alloc ?_ _) | (with_reducible refine below_drew1 ?_) | (with_reducible refine pw_below_drewN ?_ _) | (with_reducible exact HB2.out) | (with_reducible refine below_set ?_ (Nat.le_refl _))))) (first | (go_at_call 47; (with_reducible refine (HAL1.out _ (by repeat (first | (with_reducible exact Below.refl _ _) | (with_reducible refine below_alloc ?_ _) | (with_reducible refine below_drew1 ?_) | (with_reducible refine pw_below_drewN ?_ _) | fail))).mono ?_); rintro e w2 ⟨A9, c9, rfl, hc9, hl9, hb9⟩; have HB2 := Aside0.mk (show Below W1.heap.size W1 w2 from below_step (by repeat (first | (with_reducible exact Below.refl _ _) | (with_reducible refine below_alloc ?_ _) | (with_reducible refine below_drew1 ?_) | (with_reducible refine pw_below_drewN ?_ _) | fail)) hb9); have HL9 := Aside0.mk (And.intro hc9 hl9); (first | (have qx := blk_below (blk_drew (blk_new W1 (.cells #[.slice none 0 0, .int .i64 0] 24))) hb9; have QX := Aside0.mk qx; have qx0 := (blk_cell qx 0).trans (show _ = some (Value.slice none 0 0) from rfl); have qx1 := (blk_cell qx 1).trans (show _ = some (Value.int .i64 0) from rfl); have qf0 := blk_frozen qx 0; have qf1 := blk_frozen qx 1; clear qx) | skip); clear hc9 hl9 hb9) | fail)
      · go_wp2
        go_meet
        case rel => exact ⟨w2.heap.size, A9, c9, rfl, rfl, ⟨blk_new _ _⟩, ⟨HL9.out.1, Lv_below (Lv_mono HL9.out.2 (by simp)) (below_alloc (Below.refl _ _) _)⟩, ⟨below_alloc HB2.out _⟩⟩
      · go_wp2
        go_meet
        case rel => exact ⟨W1.heap.size, A9, c9, rfl, rfl, ⟨hb_store QX.out⟩, ⟨HL9.out.1, Lv_mono (Lv_set (Lv_set HL9.out.2 HWS1.out (by simp) _) HWS1.out (by simp) _) (by simp)⟩, ⟨below_set (below_set HB2.out (Nat.le_refl _)) (Nat.le_refl _)⟩⟩
    case rest =>
      obtain ⟨XN1, A19, c19, rfl, rfl, HXN1, HLV1, HBX1⟩ := hcut
      obtain ⟨w1x, hw1x⟩ : ∃ w1x, w1x = wc := ⟨_, rfl⟩
      rw [← hw1x] at HXN1 HLV1 HBX1 ⊢
      clear hw1x
      have HXB1x := Aside0.mk (blk_below HXB1.out HBX1.out)
      have HRES1x := Aside0.mk (blk_below HRES1.out HBX1.out)
      have x0 := (blk_cell HXN1.out 0).trans (show _ = some (Value.slice A19 g1.c.length c19) from rfl)
      have x1 := (blk_cell HXN1.out 1).trans (show _ = some (Value.int .i64 g1.keep) from rfl)
      have k0 := (blk_cell HXB1x.out 0).trans (show _ = some (Value.slice A h.c.length c) from rfl)
      have k1 := (blk_cell HXB1x.out 1).trans (show _ = some (Value.int .i64 h.keep) from rfl)
      have f0 := blk_frozen HXB1x.out 0
      have f1 := blk_frozen HXB1x.out 1
      obtain ⟨V1, hV1⟩ : ∃ V1, V1 = ((w1x.setCell ⟨w.heap.size, 0, none⟩ (.slice A19 g1.c.length c19)).setCell ⟨w.heap.size, 1, none⟩ (.int .i64 g1.keep)) := ⟨_, rfl⟩
      have HVB1 := Aside0.mk (show Below w.heap.size w V1 by rw [hV1]; exact below_set (below_set (below_step HBW1.out HBX1.out) (Nat.le_refl _)) (Nat.le_refl _))
      have HVX1 := Aside0.mk (show V1.heap[w.heap.size]? = some (.cells #[.slice A19 g1.c.length c19, .int .i64 g1.keep] 24 (0, 0)) by rw [hV1]; exact hb_store HXB1x.out)
      have HVR1 := Aside0.mk (show V1.heap[w.heap.size + 1]? = some (.cells #[.slice none 0 0, .int .i64 0] 24 (0, 0)) by
        have hne2 : w.heap.size + 1 ≠ w.heap.size := by omega
        rw [hV1]; exact blk_far (blk_far HRES1x.out hne2 _) hne2 _)
      have hkv1 : KeepBut w1x V1 w.heap.size none := by rw [hV1]; exact ((KeepBut.refl _ _ _).set_ 0 _).set_ 1 _
      have HKV1 := Aside0.mk hkv1
      have HVL1 := Aside0.mk (show g1.c.length ≤ c19 ∧ Lv w W1 V1 A19 g1.c from ⟨HLV1.out.1, Lv_hb HLV1.out.2 (Hb_of HXB1x.out) hkv1⟩)
      have hV1' := Aside0.mk hV1
      have y0 := bcell HVB1.out HS1.out
      obtain ⟨ib1, hib1, it1, _⟩ := at_it0 (Kd.C_below HROW1.out.1 HVB1.out) HROW1.out.2.1
      rw [HROW1.out.2.2] at it1
      clear c0 c1 s1c hV1 hkv1
      go_upto_region 7 with (fail)
      rw [← hV1'.out]
      clear x0 x1 k0 k1 f0 f1
      subst hib1
      go_wp2_with (first | (((with_reducible refine gate_builtin (b := .append) (xs := #[.tmp 35, .tmp 45]) rfl ?_); at_builtin; refine Kd.R_append kIt (w0 := V1) V1.heap.size rfl (.tmp 35) (.tmp 45) 27 26 (.agg #[.int .i64 0, .int .i64 0]) 16 rfl Try.underlying27 info_it rfl (by decide) (by decide) _ [] ⟨y1.k, p1⟩ [.int .i64 y1.k, .int .i64 p1] (fun k => V1.heap.size ≤ k) (fun _ => False) rfl rfl (itM _ _ _ ⟨y1.k, p1⟩) (fun _ h => h.elim) (fun k h => Nat.le_trans (Nat.le_refl _) h) (Kd.R_nil _ _ _ _ _) (Below.refl _ _) ((Nat.le_refl _)) (by simp) ?_; intro v1o w1o ho hb hg hat; have HO1 := Aside0.mk (show Kd.R kIt 26 w1o V1.heap.size (fun k => V1.heap.size ≤ k) v1o [⟨y1.k, p1⟩] from ho); have HG1 := Aside0.mk hg; have HBO1 := Aside0.mk hb; clear ho hb hg hat)) | fail)
      have HXB2 := Aside0.mk (blk_below HVX1.out HBO1.out)
      have HRES2 := Aside0.mk (blk_below HVR1.out HBO1.out)
      have HBW2 := Aside0.mk (below_step HVB1.out HBO1.out)
      have c0 := (blk_cell HXB2.out 0).trans (show _ = some (Value.slice A19 g1.c.length c19) from rfl)
      have c1 := (blk_cell HXB2.out 1).trans (show _ = some (Value.int .i64 g1.keep) from rfl)
      have s2c := bcell HBW2.out HS2.out
      have HWS2 := Aside0.mk (show V1.heap.size ≤ w1o.heap.size from HBO1.out.size)
      have HAL2 := Aside0.mk (show ∀ (W : World), Below w1o.heap.size w1o W → Calls Try.prog 47 #[.agg #[.slice A19 g1.c.length c19, .int .i64 g1.keep], .agg #[.bool lf, .slice B2 rl2 cb2], .slice D held.length d] W (fun e w' => ∃ B' cb', e = .returned (.tuple #[.agg #[.slice B' g2.c.length cb', .int .i64 g2.keep], .int .i64 p2, .int .i64 er2]) ∧ g2.c.length ≤ cb' ∧ Lv V1 W w' B' g2.c ∧ Below W.heap.size W w') by
        rw [HRL2.out]
        exact fun W hb => refAlloc_walk A19 B2 D c19 cb2 d g1 g2 ⟨lf, y2 :: s2⟩ held p2 er2 V1 W HVL1.out.2.now (below_step HBO1.out hb) HVL1.out.1 (Kd.C_below HRW2.out.1 HVB1.out) HRW2.out.2.1 (Kd.C_below HR.out.2.2 (below_step HBW2.out hb)) HRW2.out.2.2)
      clear it1 y0
      rw [rounds_succ]
      go_wp2
      go_cut [12, 13, 14] from 21 to 33 (fun v12 v13 v14 wx => ∃ (XN : Nat) (A9 : Option Addr) (c9 : Nat), v12 = .pointer (some ⟨XN, 0, none⟩) ∧ v13 = .int .i64 p2 ∧ Aside0 (wx.heap[XN]? = some (.cells #[.slice A9 g2.c.length c9, .int .i64 g2.keep] 24 (0, 0))) ∧ Aside0 (g2.c.length ≤ c9 ∧ Lv V1 w1o wx A9 g2.c) ∧ Aside0 (Below w1o.heap.size w1o wx))
      case first =>
        go_region_held3 (fun w' => w'.cell? ⟨w.heap.size, 0, none⟩ = some (.slice A19 g1.c.length c19) ∧ w'.cell? ⟨w.heap.size, 1, none⟩ = some (.int .i64 g1.keep) ∧ w'.cell? ⟨sa.block, sa.off + 1, none⟩ = some (.slice B2 rl2 cb2)) (first | exact ⟨c0, c1, s2c⟩ | exact (fun (hb : Below w1o.heap.size w1o _) => ⟨bcell hb c0, bcell hb c1, bcell hb s2c⟩) (by repeat (first | (with_reducible exact Below.refl _ _) | (with_reducible refine below_alloc ?_ _) | (with_reducible refine below_drew1 ?_) | (with_reducible refine pw_below_drewN ?_ _) | (with_reducible exact HB2.out) | (with_reducible refine below_set ?_ (Nat.le_refl _))))) (first | (go_at_call 47; (with_reducible refine (HAL2.out _ (by repeat (first | (with_reducible exact Below.refl _ _) | (with_reducible refine below_alloc ?_ _) | (with_reducible refine below_drew1 ?_) | (with_reducible refine pw_below_drewN ?_ _) | fail))).mono ?_); rintro e w2 ⟨A9, c9, rfl, hc9, hl9, hb9⟩; have HB2 := Aside0.mk (show Below w1o.heap.size w1o w2 from below_step (by repeat (first | (with_reducible exact Below.refl _ _) | (with_reducible refine below_alloc ?_ _) | (with_reducible refine below_drew1 ?_) | (with_reducible refine pw_below_drewN ?_ _) | fail)) hb9); have HL9 := Aside0.mk (And.intro hc9 hl9); (first | (have qx := blk_below (blk_drew (blk_new w1o (.cells #[.slice none 0 0, .int .i64 0] 24))) hb9; have QX := Aside0.mk qx; have qx0 := (blk_cell qx 0).trans (show _ = some (Value.slice none 0 0) from rfl); have qx1 := (blk_cell qx 1).trans (show _ = some (Value.int .i64 0) from rfl); have qf0 := blk_frozen qx 0; have qf1 := blk_frozen qx 1; clear qx) | skip); clear hc9 hl9 hb9) | fail)
        · go_wp2
          go_meet
          case rel => exact ⟨w2.heap.size, A9, c9, rfl, rfl, ⟨blk_new _ _⟩, ⟨HL9.out.1, Lv_below (Lv_mono HL9.out.2 (by simp)) (below_alloc (Below.refl _ _) _)⟩, ⟨below_alloc HB2.out _⟩⟩
        · go_wp2
          go_meet
          case rel => exact ⟨w1o.heap.size, A9, c9, rfl, rfl, ⟨hb_store QX.out⟩, ⟨HL9.out.1, Lv_mono (Lv_set (Lv_set HL9.out.2 HWS2.out (by simp) _) HWS2.out (by simp) _) (by simp)⟩, ⟨below_set (below_set HB2.out (Nat.le_refl _)) (Nat.le_refl _)⟩⟩
      case rest =>
        obtain ⟨XN2, A29, c29, rfl, rfl, HXN2, HLV2, HBX2⟩ := hcut
        obtain ⟨w2x, hw2x⟩ : ∃ w2x, w2x = wc := ⟨_, rfl⟩
        rw [← hw2x] at HXN2 HLV2 HBX2 ⊢
        clear hw2x
        have HXB2x := Aside0.mk (blk_below HXB2.out HBX2.out)
        have HRES2x := Aside0.mk (blk_below HRES2.out HBX2.out)
        have x0 := (blk_cell HXN2.out 0).trans (show _ = some (Value.slice A29 g2.c.length c29) from rfl)
        have x1 := (blk_cell HXN2.out 1).trans (show _ = some (Value.int .i64 g2.keep) from rfl)
        have k0 := (blk_cell HXB2x.out 0).trans (show _ = some (Value.slice A19 g1.c.length c19) from rfl)
        have k1 := (blk_cell HXB2x.out 1).trans (show _ = some (Value.int .i64 g1.keep) from rfl)
        have f0 := blk_frozen HXB2x.out 0
        have f1 := blk_frozen HXB2x.out 1
        obtain ⟨V2, hV2⟩ : ∃ V2, V2 = ((w2x.setCell ⟨w.heap.size, 0, none⟩ (.slice A29 g2.c.length c29)).setCell ⟨w.heap.size, 1, none⟩ (.int .i64 g2.keep)) := ⟨_, rfl⟩
        have HVB2 := Aside0.mk (show Below w.heap.size w V2 by rw [hV2]; exact below_set (below_set (below_step HBW2.out HBX2.out) (Nat.le_refl _)) (Nat.le_refl _))
        have HVX2 := Aside0.mk (show V2.heap[w.heap.size]? = some (.cells #[.slice A29 g2.c.length c29, .int .i64 g2.keep] 24 (0, 0)) by rw [hV2]; exact hb_store HXB2x.out)
        have HVR2 := Aside0.mk (show V2.heap[w.heap.size + 1]? = some (.cells #[.slice none 0 0, .int .i64 0] 24 (0, 0)) by
          have hne2 : w.heap.size + 1 ≠ w.heap.size := by omega
          rw [hV2]; exact blk_far (blk_far HRES2x.out hne2 _) hne2 _)
        have hkv2 : KeepBut w2x V2 w.heap.size none := by rw [hV2]; exact ((KeepBut.refl _ _ _).set_ 0 _).set_ 1 _
        have HKV2 := Aside0.mk hkv2
        have HVL2 := Aside0.mk (show g2.c.length ≤ c29 ∧ Lv V1 w1o V2 A29 g2.c from ⟨HLV2.out.1, Lv_hb HLV2.out.2 (Hb_of HXB2x.out) hkv2⟩)
        have hV2' := Aside0.mk hV2
        have y0 := bcell HVB2.out HS2.out
        obtain ⟨ib2, hib2, it2, _⟩ := at_it0 (Kd.C_below HROW2.out.1 HVB2.out) HROW2.out.2.1
        rw [HROW2.out.2.2] at it2
        clear c0 c1 s2c hV2 hkv2
        go_upto_region 7 with (fail)
        rw [← hV2'.out]
        clear x0 x1 k0 k1 f0 f1
        subst hib2
        have HSZ := Aside0.mk (show V1.heap.size ≤ V2.heap.size from Nat.le_trans HBO1.out.size (Nat.le_trans HBX2.out.size HKV2.out.1))
        have HWV := Aside0.mk (show w.heap.size < V1.heap.size from blk_lt HVX1.out)
        have HOV := Aside0.mk (Kd.R_kept (Kd.R_below HO1.out HBX2.out) (S := fun k => k = w.heap.size) ⟨HKV2.out.1, fun i hi hn => HKV2.out.2 i hi hn (by simp)⟩ (fun k hk e => by have := HWV.out; omega))
        go_wp2_with (first | (((with_reducible refine gate_builtin (b := .append) (xs := #[.tmp 35, .tmp 45]) rfl ?_); at_builtin; refine Kd.R_append kIt (w0 := V2) V1.heap.size rfl (.tmp 35) (.tmp 45) 27 26 (.agg #[.int .i64 0, .int .i64 0]) 16 rfl Try.underlying27 info_it rfl (by decide) (by decide) _ [⟨y1.k, p1⟩] ⟨y2.k, p2⟩ [.int .i64 y2.k, .int .i64 p2] (fun k => V1.heap.size ≤ k) (fun _ => False) rfl rfl (itM _ _ _ ⟨y2.k, p2⟩) (fun _ h => h.elim) (fun k h => Nat.le_trans HSZ.out h) (HOV.out) (Below.refl _ _) (HSZ.out) (by simp) ?_; intro v2o w2o ho hb hg hat; have HO2 := Aside0.mk (show Kd.R kIt 26 w2o V1.heap.size (fun k => V1.heap.size ≤ k) v2o [⟨y1.k, p1⟩, ⟨y2.k, p2⟩] from ho); have HG2 := Aside0.mk hg; have HBO2 := Aside0.mk hb; clear ho hb hg hat)) | fail)
        have b0 := (HBO2.out.block _ HWV.out).trans HVX2.out
        have b1 := (HBO2.out.block _ (blk_lt HVR1.out)).trans HVR2.out
        have u0 := (blk_cell b0 0).trans (show _ = some (Value.slice A29 g2.c.length c29) from rfl)
        have u1 := (blk_cell b0 1).trans (show _ = some (Value.int .i64 g2.keep) from rfl)
        have e0 := (blk_cell b1 0).trans (show _ = some (Value.slice none 0 0) from rfl)
        have e1 := (blk_cell b1 1).trans (show _ = some (Value.int .i64 0) from rfl)
        have f0 := blk_frozen b1 0
        have f1 := blk_frozen b1 1
        have HB1 := Aside0.mk b1
        clear b0 b1
        rw [rounds_succ]; go_wp2
        obtain ⟨M, cm, rfl⟩ := Kd.R_slice HO2.out
        refine bodyPost_ret (results_ct rfl _ _ (w.heap.size + 1) 24 #[.slice A29 g2.c.length c29, .int .i64 g2.keep] (0, 0) _ rfl (hb_store HB1.out) Try.underlying24 rfl (by kernel_rfl)) rfl ?_
        have h9 := Kd.R_reads' (Kd.R_set (Kd.R_set HO2.out HB1.out (by decide) 0 (.slice A29 g2.c.length c29)) (blk_put HB1.out 0 _ rfl) (by decide) 1 (.int .i64 g2.keep))
        have hcl : kCl.C w2o A29 g2.c.length g2.c := HVL2.out.2 w2o ⟨HG2.out.size, fun i hi hn => HG2.out.block i hi (fun e => hn ⟨Kd.R_base HO1.out i e.symm, Kd.R_lt HO1.out i e.symm⟩)⟩
        have hbw : Below w.heap.size w w2o := HVB2.out.trans (below_le HBO2.out (Nat.le_of_lt HWV.out))
        exact ⟨A29, c29, M, cm, rfl, HVL2.out.1, cl_store hcl HB1.out, h9.2.1, h9.2.2, below_set (below_set hbw (by omega)) (by omega)⟩
  · simp at hr2
end Go.Proofs.Ytopkoganfnabgaa.H
namespace Go.Proofs.Ytopkoganfnabgaa.H
open Go.RowKit Go.Proofs.YtopkoganfnabgaaW.PrintWords Go.Proofs.YtopkoganfnabgaaW.PrintLast Go.Proofs.YtopkoganfnabgaaW.PrintMore
attribute [local go_sem] max2_int min2_int max_two min_two max_three min_three max_four min_four
set_option linter.unusedVariables false
set_option linter.unusedSimpArgs false
set_option maxHeartbeats 8000000 in
set_option maxRecDepth 100000 in
/-- The reference's anew. -/
theorem refAnew_walk : ∀ (f : Nat) (A : Option Addr) (c : Nat) (h h' : Hp) (p : Int) (x : It) (made : List It) (w : World), kCl.C w A h.c.length h.c → h.c.length ≤ c → anewO f h p x = some (h', made) →
    Calls Try.prog 48 #[.agg #[.slice A h.c.length c, .int .i64 h.keep], .int .i64 p, .agg #[.int .i64 x.k, .int .i64 x.v]] w fun e w' => ∃ B' cb' M cm, e = .returned (.tuple #[.agg #[.slice B' h'.c.length cb', .int .i64 h'.keep], .slice M made.length cm]) ∧ h'.c.length ≤ cb' ∧ kCl.C w' B' h'.c.length h'.c ∧ made.length ≤ cm ∧ kIt.C w' M made.length made ∧ Below w.heap.size w w' := by
  intro f
  induction f with
  | zero => intro A c h h' p x made w _ _ e; simp [anewO] at e
  | succ f ih =>
    intro A c h h' p x made w hr hcc e
    obtain ⟨hin, i, is, h1, more, gone, held, l1, rows, hat, hT, hF, hwith, hsplit, hlay⟩ := anewO_inv e
    obtain ⟨q, rfl, hq⟩ := inB_nat hin
    have hcl : clAt h (q : Int) = h.c.getD q zCl := by unfold clAt; rw [Int.toNat_natCast]
    rw [hcl] at hat hT hF hwith hlay
    obtain ⟨ad, B, cb, hade, _, _, x2, x3, hcb, hB⟩ := at_cl hr q hq
    obtain ⟨n, hn⟩ : ∃ n, n = (h.c.getD q zCl).n := ⟨_, rfl⟩
    rw [← hn] at hat hT hF hwith hlay x2 x3 hcb hB
    obtain ⟨lf, hlf⟩ : ∃ lf, lf = n.leaf := ⟨_, rfl⟩
    obtain ⟨l, hll⟩ : ∃ l, l = n.it := ⟨_, rfl⟩
    rw [← hlf, ← hll] at hat
    rw [← hlf] at hT hF hlay x2
    rw [← hll] at hF hwith hcb hB x3
    obtain ⟨W1, hW1⟩ : ∃ W1, W1 = (((w.alloc (.cells #[.slice A h.c.length c, .int .i64 h.keep] 24)).alloc (.cells #[.int .i64 x.k, .int .i64 x.v] 26)).alloc (.cells #[.slice none 0 0, .int .i64 0] 24)).alloc (.cells #[.bool lf, .slice B l.length cb] 77) := ⟨_, rfl⟩
    have HB0 := Aside0.mk (show Below w.heap.size w W1 by rw [hW1]; exact below_alloc (below_alloc (below_alloc (below_alloc (Below.refl _ _) _) _) _) _)
    have HH1 := Aside0.mk (show W1.heap[w.heap.size]? = some (.cells #[.slice A h.c.length c, .int .i64 h.keep] 24) by rw [hW1]; exact blk_alloc (blk_alloc (blk_alloc (blk_new w _) _) _) _)
    have HX1 := Aside0.mk (show W1.heap[w.heap.size + 1]? = some (.cells #[.int .i64 x.k, .int .i64 x.v] 26) by rw [hW1]; exact blk_alloc (blk_alloc (blk2 w _ _) _) _)
    have HRES := Aside0.mk (show W1.heap[w.heap.size + 1 + 1]? = some (.cells #[.slice none 0 0, .int .i64 0] 24) by rw [hW1]; exact blk_alloc (blk3 w _ _ _) _)
    have HN1 := Aside0.mk (show W1.heap[w.heap.size + 1 + 1 + 1]? = some (.cells #[.bool lf, .slice B l.length cb] 77) by rw [hW1]; exact blk4 w _ _ _ _)
    have HR := Aside0.mk (And.intro (Kd.C_below hr HB0.out) hcc)
    have HROW := Aside0.mk (And.intro (Kd.C_below hB HB0.out) hcb)
    have HAT := Aside0.mk (fun (W : World) (hb : Below W1.heap.size W1 W) => refAt_walk lf B cb l x.k i is W (Kd.C_below HROW.out.1 hb) hat)
    have HSPL := Aside0.mk hsplit
    have HWL := Aside0.mk (And.intro hwith hlay)
    have HT := Aside0.mk hT
    have HF := Aside0.mk hF
    have HIH := Aside0.mk ih
    have HNE := Aside0.mk (show w.heap.size ≠ w.heap.size + 1 + 1 ∧ w.heap.size + 1 + 1 + 1 ≠ w.heap.size + 1 + 1 ∧ w.heap.size + 1 ≠ w.heap.size + 1 + 1 by omega)
    have r1 : (q < h.c.length) = True := eq_true hq
    have hW1' := Aside0.mk hW1
    have hx2 : ∀ (o1 o2 o3 : Obj), (((w.alloc o1).alloc o2).alloc o3).cell? ⟨(ad.add (q * 4)).block, (ad.add (q * 4)).off + 2, none⟩ = some (.bool lf) := fun o1 o2 o3 => al1 (al1 (al1 x2 o1) o2) o3
    have hx3 : ∀ (o1 o2 o3 : Obj), (((w.alloc o1).alloc o2).alloc o3).cell? ⟨(ad.add (q * 4)).block, (ad.add (q * 4)).off + 2 + 1, none⟩ = some (.slice B l.length cb) := fun o1 o2 o3 => al1 (al1 (al1 x3 o1) o2) o3
    have z2 := hx2 (.cells #[.slice A h.c.length c, .int .i64 h.keep] 24) (.cells #[.int .i64 x.k, .int .i64 x.v] 26) (.cells #[.slice none 0 0, .int .i64 0] 24)
    have z3 := hx3 (.cells #[.slice A h.c.length c, .int .i64 h.keep] 24) (.cells #[.int .i64 x.k, .int .i64 x.v] 26) (.cells #[.slice none 0 0, .int .i64 0] 24)
    subst hade
    have c0 := (blk_cell HH1.out 0).trans (show _ = some (Value.slice (some ad) h.c.length c) from rfl)
    have c1 := (blk_cell HH1.out 1).trans (show _ = some (Value.int .i64 h.keep) from rfl)
    have c2 := (blk_cell HN1.out 0).trans (show _ = some (Value.bool lf) from rfl)
    have c3 := (blk_cell HN1.out 1).trans (show _ = some (Value.slice B l.length cb) from rfl)
    have c4 := (blk_cell HX1.out 0).trans (show _ = some (Value.int .i64 x.k) from rfl)
    have c5 := (blk_cell HX1.out 1).trans (show _ = some (Value.int .i64 x.v) from rfl)
    clear hin hcl hB hn hlf hll hat hT hF hwith hsplit hlay hW1 hr hcc e ih hcb hq x2 x3 hx2 hx3
    go_enter Try.func48, Try.ntmps48
    go_upto_region 2 with (fail)
    rw [← hW1'.out]
    clear z2 z3
    go_upto_region 3 with (first | (go_at_call 76; (with_reducible refine (HAT.out _ (by repeat (first | (with_reducible exact Below.refl _ _) | (with_reducible refine below_alloc ?_ _) | (with_reducible refine below_drew1 ?_) | (with_reducible refine pw_below_drewN ?_ _) | (with_reducible exact Below.refl _ _)))).mono ?_); rintro e w2 ⟨rfl, hb2⟩; have HB2 := Aside0.mk (show Below W1.heap.size W1 w2 from below_step (by repeat (first | (with_reducible exact Below.refl _ _) | (with_reducible refine below_alloc ?_ _) | (with_reducible refine below_drew1 ?_) | (with_reducible refine pw_below_drewN ?_ _) | (with_reducible exact Below.refl _ _))) hb2); clear hb2) | fail)
    have d0 := bcell HB2.out c0
    have d1 := bcell HB2.out c1
    have d5 := bcell HB2.out c2
    have d2 := bcell HB2.out c3
    have d3 := bcell HB2.out c4
    have d4 := bcell HB2.out c5
    clear c0 c1 c2 c3 c4 c5 r1
    cases lf with
    | true =>
      obtain ⟨t1, t2, t3, t4⟩ := HT.out rfl
      cases is with
      | true =>
        rw [t1, t2, show gone = 1 from t3, t4] at HWL
        have HWI := Aside0.mk (fun (W : World) (M : Option Addr) (hb : Below w2.heap.size w2 W) (hM : kIt.C W M 1 [x]) => show Calls Try.prog 79 #[.slice B l.length cb, .int .i64 (i : Int), .int .i64 1, .slice M 1 1] W (fun e w' => ∃ B cb, e = .returned (.slice B l1.length cb) ∧ l1.length ≤ cb ∧ kIt.C w' B l1.length l1 ∧ Below W.heap.size W w') from refWith_walk B M cb 1 i 1 l [x] l1 W (Kd.C_below HROW.out.1 (below_step HB2.out hb)) HROW.out.2 hM HWL.out.1)
        have HLY := Aside0.mk HWL.out.2
        have HLA := Aside0.mk (fun (Bs : Option Addr) (cbs : Nat) (ts : List Tr) (W : World) (hb : Below W1.heap.size W1 W) (hsl : kSl.C W Bs rows.length ts) (hrc : RowsC W ts rows) => show Calls Try.prog 77 #[.agg #[.slice (some ad) h.c.length c, .int .i64 h.keep], .bool true, .slice Bs rows.length cbs, .slice none 0 0] W (fun e w' => ∃ B' cb' M cm, e = .returned (.tuple #[.agg #[.slice B' h'.c.length cb', .int .i64 h'.keep], .slice M made.length cm]) ∧ h'.c.length ≤ cb' ∧ kCl.C w' B' h'.c.length h'.c ∧ made.length ≤ cm ∧ kIt.C w' M made.length made ∧ Below W.heap.size W w') from refLay_walk (some ad) none Bs c 0 cbs h h' true [] rows ts made W (Kd.C_below HR.out.1 hb) HR.out.2 (Kd.C_nil _ _) hsl hrc (splitO_len HSPL.out) (t1 ▸ HLY.out))
        clear t1 t2 t3 t4
        go_upto_region 7 with (fail)
        go_region_held3 (fun w' => w'.cell? ⟨w.heap.size, 0, none⟩ = some (.slice (some ad) h.c.length c) ∧ w'.cell? ⟨w.heap.size, 1, none⟩ = some (.int .i64 h.keep) ∧ w'.cell? ⟨w.heap.size + 1 + 1 + 1, 1, none⟩ = some (.slice B l.length cb) ∧ w'.cell? ⟨w.heap.size + 1, 0, none⟩ = some (.int .i64 x.k) ∧ w'.cell? ⟨w.heap.size + 1, 1, none⟩ = some (.int .i64 x.v)) (first | exact ⟨d0, d1, d2, d3, d4⟩ | exact ⟨(cell_far HNE.out.1 _).trans ((cell_far HNE.out.1 _).trans (bcell HB5.out d0)), (cell_far HNE.out.1 _).trans ((cell_far HNE.out.1 _).trans (bcell HB5.out d1)), (cell_far HNE.out.2.1 _).trans ((cell_far HNE.out.2.1 _).trans (bcell HB5.out d2)), (cell_far HNE.out.2.2 _).trans ((cell_far HNE.out.2.2 _).trans (bcell HB5.out d3)), (cell_far HNE.out.2.2 _).trans ((cell_far HNE.out.2.2 _).trans (bcell HB5.out d4))⟩ | exact (fun (hb : Below w2.heap.size w2 _) => ⟨bcell hb d0, bcell hb d1, bcell hb d2, bcell hb d3, bcell hb d4⟩) (by repeat (first | (with_reducible exact Below.refl _ _) | (with_reducible refine below_alloc ?_ _) | (with_reducible refine below_drew1 ?_) | (with_reducible refine pw_below_drewN ?_ _) | (with_reducible exact HB5.out) | (with_reducible exact HB4.out) | (with_reducible exact HB3.out)))) (first | (go_at_call 79; (with_reducible refine (HWI.out _ _ (by repeat (first | (with_reducible exact Below.refl _ _) | (with_reducible refine below_alloc ?_ _) | (with_reducible refine below_drew1 ?_) | (with_reducible refine pw_below_drewN ?_ _) | (with_reducible exact Below.refl _ _))) (by first | with_unfolding_all exact one_it _ x | exact HMO.out _ (by repeat (first | (with_reducible exact Below.refl _ _) | (with_reducible refine below_alloc ?_ _) | (with_reducible refine below_drew1 ?_) | (with_reducible refine pw_below_drewN ?_ _) | (with_reducible exact Below.refl _ _))))).mono ?_); rintro e w3 ⟨Bw, cbw, rfl, hcw, hrw, hb3⟩; have HB3 := Aside0.mk (show Below w2.heap.size w2 w3 from below_step (by repeat (first | (with_reducible exact Below.refl _ _) | (with_reducible refine below_alloc ?_ _) | (with_reducible refine below_drew1 ?_) | (with_reducible refine pw_below_drewN ?_ _) | fail)) hb3); have HRW := Aside0.mk (And.intro hcw hrw); clear hcw hrw hb3) | (go_at_call 78; (with_reducible refine (refSplit_walk Bw cbw l1 rows w3 HRW.out.2 HRW.out.1 HSPL.out).mono ?_); rintro e w4 ⟨Bs, cbs, ts, rfl, hsl, hrc, hb4⟩; have HB4 := Aside0.mk (below_step HB3.out hb4); have HSC := Aside0.mk (And.intro hsl hrc); clear hsl hrc hb4) | (go_at_call 77; (with_reducible refine (HLA.out Bs cbs ts w4 (below_step HB2.out HB4.out) HSC.out.1 HSC.out.2).mono ?_); rintro e w5 ⟨B5, cb5, M5, cm5, rfl, hc5, hk5, hm5, hi5, hb5⟩; have HB5 := Aside0.mk (below_step HB4.out hb5); have HC5 := Aside0.mk (And.intro hc5 hk5); have HM5 := Aside0.mk (And.intro hm5 hi5); have HBR := Aside0.mk (blk_below HRES.out (below_step HB2.out HB5.out)); have e0 := (blk_cell HBR.out 0).trans (show _ = some (Value.slice none 0 0) from rfl); have e1 := (blk_cell HBR.out 1).trans (show _ = some (Value.int .i64 0) from rfl); have f0 := blk_frozen HBR.out 0; have f1 := blk_frozen HBR.out 1; clear hc5 hk5 hm5 hi5 hb5) | fail)
        all_goals
          go_wp2
          refine bodyPost_ret (results_ct rfl _ _ (w.heap.size + 1 + 1) 24 #[.slice B5 h'.c.length cb5, .int .i64 h'.keep] (0, 0) _ rfl (hb_store HBR.out) Try.underlying24 rfl (by kernel_rfl)) rfl ?_
          exact ⟨B5, cb5, M5, cm5, rfl, HC5.out.1, cl_store HC5.out.2 HBR.out, HM5.out.1, it_set (it_set HM5.out.2 (Hb_of HBR.out) 0 _) (Hb_of (blk_put HBR.out 0 _ rfl)) 1 _, below_set (below_set (below_step HB0.out (below_step HB2.out HB5.out)) (by omega)) (by omega)⟩
      | false =>
        rw [t1, t2, show gone = 0 from t3, t4] at HWL
        have HWI := Aside0.mk (fun (W : World) (M : Option Addr) (hb : Below w2.heap.size w2 W) (hM : kIt.C W M 1 [x]) => show Calls Try.prog 79 #[.slice B l.length cb, .int .i64 (i : Int), .int .i64 0, .slice M 1 1] W (fun e w' => ∃ B cb, e = .returned (.slice B l1.length cb) ∧ l1.length ≤ cb ∧ kIt.C w' B l1.length l1 ∧ Below W.heap.size W w') from refWith_walk B M cb 1 i 0 l [x] l1 W (Kd.C_below HROW.out.1 (below_step HB2.out hb)) HROW.out.2 hM HWL.out.1)
        have HLY := Aside0.mk HWL.out.2
        have HLA := Aside0.mk (fun (Bs : Option Addr) (cbs : Nat) (ts : List Tr) (W : World) (hb : Below W1.heap.size W1 W) (hsl : kSl.C W Bs rows.length ts) (hrc : RowsC W ts rows) => show Calls Try.prog 77 #[.agg #[.slice (some ad) h.c.length c, .int .i64 h.keep], .bool true, .slice Bs rows.length cbs, .slice none 0 0] W (fun e w' => ∃ B' cb' M cm, e = .returned (.tuple #[.agg #[.slice B' h'.c.length cb', .int .i64 h'.keep], .slice M made.length cm]) ∧ h'.c.length ≤ cb' ∧ kCl.C w' B' h'.c.length h'.c ∧ made.length ≤ cm ∧ kIt.C w' M made.length made ∧ Below W.heap.size W w') from refLay_walk (some ad) none Bs c 0 cbs h h' true [] rows ts made W (Kd.C_below HR.out.1 hb) HR.out.2 (Kd.C_nil _ _) hsl hrc (splitO_len HSPL.out) (t1 ▸ HLY.out))
        clear t1 t2 t3 t4
        go_upto_region 7 with (fail)
        go_region_held3 (fun w' => w'.cell? ⟨w.heap.size, 0, none⟩ = some (.slice (some ad) h.c.length c) ∧ w'.cell? ⟨w.heap.size, 1, none⟩ = some (.int .i64 h.keep) ∧ w'.cell? ⟨w.heap.size + 1 + 1 + 1, 1, none⟩ = some (.slice B l.length cb) ∧ w'.cell? ⟨w.heap.size + 1, 0, none⟩ = some (.int .i64 x.k) ∧ w'.cell? ⟨w.heap.size + 1, 1, none⟩ = some (.int .i64 x.v)) (first | exact ⟨d0, d1, d2, d3, d4⟩ | exact ⟨(cell_far HNE.out.1 _).trans ((cell_far HNE.out.1 _).trans (bcell HB5.out d0)), (cell_far HNE.out.1 _).trans ((cell_far HNE.out.1 _).trans (bcell HB5.out d1)), (cell_far HNE.out.2.1 _).trans ((cell_far HNE.out.2.1 _).trans (bcell HB5.out d2)), (cell_far HNE.out.2.2 _).trans ((cell_far HNE.out.2.2 _).trans (bcell HB5.out d3)), (cell_far HNE.out.2.2 _).trans ((cell_far HNE.out.2.2 _).trans (bcell HB5.out d4))⟩ | exact (fun (hb : Below w2.heap.size w2 _) => ⟨bcell hb d0, bcell hb d1, bcell hb d2, bcell hb d3, bcell hb d4⟩) (by repeat (first | (with_reducible exact Below.refl _ _) | (with_reducible refine below_alloc ?_ _) | (with_reducible refine below_drew1 ?_) | (with_reducible refine pw_below_drewN ?_ _) | (with_reducible exact HB5.out) | (with_reducible exact HB4.out) | (with_reducible exact HB3.out)))) (first | (go_at_call 79; (with_reducible refine (HWI.out _ _ (by repeat (first | (with_reducible exact Below.refl _ _) | (with_reducible refine below_alloc ?_ _) | (with_reducible refine below_drew1 ?_) | (with_reducible refine pw_below_drewN ?_ _) | (with_reducible exact Below.refl _ _))) (by first | with_unfolding_all exact one_it _ x | exact HMO.out _ (by repeat (first | (with_reducible exact Below.refl _ _) | (with_reducible refine below_alloc ?_ _) | (with_reducible refine below_drew1 ?_) | (with_reducible refine pw_below_drewN ?_ _) | (with_reducible exact Below.refl _ _))))).mono ?_); rintro e w3 ⟨Bw, cbw, rfl, hcw, hrw, hb3⟩; have HB3 := Aside0.mk (show Below w2.heap.size w2 w3 from below_step (by repeat (first | (with_reducible exact Below.refl _ _) | (with_reducible refine below_alloc ?_ _) | (with_reducible refine below_drew1 ?_) | (with_reducible refine pw_below_drewN ?_ _) | fail)) hb3); have HRW := Aside0.mk (And.intro hcw hrw); clear hcw hrw hb3) | (go_at_call 78; (with_reducible refine (refSplit_walk Bw cbw l1 rows w3 HRW.out.2 HRW.out.1 HSPL.out).mono ?_); rintro e w4 ⟨Bs, cbs, ts, rfl, hsl, hrc, hb4⟩; have HB4 := Aside0.mk (below_step HB3.out hb4); have HSC := Aside0.mk (And.intro hsl hrc); clear hsl hrc hb4) | (go_at_call 77; (with_reducible refine (HLA.out Bs cbs ts w4 (below_step HB2.out HB4.out) HSC.out.1 HSC.out.2).mono ?_); rintro e w5 ⟨B5, cb5, M5, cm5, rfl, hc5, hk5, hm5, hi5, hb5⟩; have HB5 := Aside0.mk (below_step HB4.out hb5); have HC5 := Aside0.mk (And.intro hc5 hk5); have HM5 := Aside0.mk (And.intro hm5 hi5); have HBR := Aside0.mk (blk_below HRES.out (below_step HB2.out HB5.out)); have e0 := (blk_cell HBR.out 0).trans (show _ = some (Value.slice none 0 0) from rfl); have e1 := (blk_cell HBR.out 1).trans (show _ = some (Value.int .i64 0) from rfl); have f0 := blk_frozen HBR.out 0; have f1 := blk_frozen HBR.out 1; clear hc5 hk5 hm5 hi5 hb5) | fail)
        all_goals
          go_wp2
          refine bodyPost_ret (results_ct rfl _ _ (w.heap.size + 1 + 1) 24 #[.slice B5 h'.c.length cb5, .int .i64 h'.keep] (0, 0) _ rfl (hb_store HBR.out) Try.underlying24 rfl (by kernel_rfl)) rfl ?_
          exact ⟨B5, cb5, M5, cm5, rfl, HC5.out.1, cl_store HC5.out.2 HBR.out, HM5.out.1, it_set (it_set HM5.out.2 (Hb_of HBR.out) 0 _) (Hb_of (blk_put HBR.out 0 _ rfl)) 1 _, below_set (below_set (below_step HB0.out (below_step HB2.out HB5.out)) (by omega)) (by omega)⟩
    | false =>
      obtain ⟨t1, t2, t3, t4⟩ := HF.out rfl
      rw [t3, t4] at HWL
      obtain ⟨bd, hbd, _, z1⟩ := at_it (Kd.C_below HROW.out.1 HB2.out) i t1
      subst hbd
      obtain ⟨v, hv⟩ : ∃ v, v = (itAt l i).v := ⟨_, rfl⟩
      rw [← hv] at t2 z1
      have q1 : (i < l.length) = True := eq_true t1
      have HRE := Aside0.mk (fun (W : World) (hb : Below w2.heap.size w2 W) => HIH.out (some ad) c h h1 v x more W (Kd.C_below HR.out.1 (below_step HB2.out hb)) HR.out.2 t2)
      have HMM := Aside0.mk (withO_len HWL.out.1)
      clear t1 t2 t3 t4 hv
      go_upto_region 8 with (fail)
      go_cut [12, 13] from 42 to 53 (fun v12 v13 wx => ∃ (XN : Nat) (A9 : Option Addr) (c9 : Nat) (M : Option Addr) (cm : Nat), v12 = .pointer (some ⟨XN, 0, none⟩) ∧ v13 = .slice M more.length cm ∧ Aside0 (wx.heap[XN]? = some (.cells #[.slice A9 h1.c.length c9, .int .i64 h1.keep] 24 (0, 0)) ∧ w2.heap.size ≤ XN) ∧ Aside0 (h1.c.length ≤ c9 ∧ kCl.C wx A9 h1.c.length h1.c) ∧ Aside0 (kIt.C wx M more.length more) ∧ Aside0 (Below w2.heap.size w2 wx))
      case first =>
        go_region_held3 (fun w' => w'.cell? ⟨w.heap.size, 0, none⟩ = some (.slice (some ad) h.c.length c) ∧ w'.cell? ⟨w.heap.size, 1, none⟩ = some (.int .i64 h.keep) ∧ w'.cell? ⟨w.heap.size + 1 + 1 + 1, 1, none⟩ = some (.slice (some bd) l.length cb) ∧ w'.cell? ⟨(bd.add (i * 2)).block, (bd.add (i * 2)).off + 1, none⟩ = some (.int .i64 v) ∧ w'.cell? ⟨w.heap.size + 1, 0, none⟩ = some (.int .i64 x.k) ∧ w'.cell? ⟨w.heap.size + 1, 1, none⟩ = some (.int .i64 x.v)) (first | exact ⟨d0, d1, d2, z1, d3, d4⟩ | exact (fun (hb : Below w2.heap.size w2 _) => ⟨bcell hb d0, bcell hb d1, bcell hb d2, bcell hb z1, bcell hb d3, bcell hb d4⟩) (by repeat (first | (with_reducible exact Below.refl _ _) | (with_reducible refine below_alloc ?_ _) | (with_reducible refine below_drew1 ?_) | (with_reducible refine pw_below_drewN ?_ _) | (with_reducible exact HB3.out) | (with_reducible refine below_set ?_ (Nat.le_refl _))))) (first | (go_at_call 48; (with_reducible refine (HRE.out _ (by repeat (first | (with_reducible exact Below.refl _ _) | (with_reducible refine below_alloc ?_ _) | (with_reducible refine below_drew1 ?_) | (with_reducible refine pw_below_drewN ?_ _) | fail))).mono ?_); rintro e w3 ⟨A9, c9, M, cm, rfl, hc9, hk9, hm9, hi9, hb9⟩; have HB3 := Aside0.mk (show Below w2.heap.size w2 w3 from below_step (by repeat (first | (with_reducible exact Below.refl _ _) | (with_reducible refine below_alloc ?_ _) | (with_reducible refine below_drew1 ?_) | (with_reducible refine pw_below_drewN ?_ _) | fail)) hb9); have HK9 := Aside0.mk (And.intro hc9 hk9); have HM9 := Aside0.mk (And.intro hm9 hi9); (first | (have qx := blk_below (blk_drew (blk_new w2 (.cells #[.slice none 0 0, .int .i64 0] 24))) hb9; have QX := Aside0.mk qx; have qx0 := (blk_cell qx 0).trans (show _ = some (Value.slice none 0 0) from rfl); have qx1 := (blk_cell qx 1).trans (show _ = some (Value.int .i64 0) from rfl); have qf0 := blk_frozen qx 0; have qf1 := blk_frozen qx 1; clear qx) | skip); clear hc9 hk9 hm9 hi9 hb9) | fail)
        · go_wp2
          go_meet
          case rel => exact ⟨w3.heap.size, A9, c9, M, cm, rfl, rfl, ⟨blk_new _ _, HB3.out.size⟩, ⟨HK9.out.1, Kd.C_alloc HK9.out.2 _⟩, ⟨Kd.C_alloc HM9.out.2 _⟩, ⟨below_alloc HB3.out _⟩⟩
        · go_wp2
          go_meet
          case rel => exact ⟨w2.heap.size, A9, c9, M, cm, rfl, rfl, ⟨hb_store QX.out, Nat.le_refl _⟩, ⟨HK9.out.1, cl_store HK9.out.2 QX.out⟩, ⟨it_set (it_set HM9.out.2 (Hb_of QX.out) 0 _) (Hb_of (blk_put QX.out 0 _ rfl)) 1 _⟩, ⟨below_set (below_set HB3.out (Nat.le_refl _)) (Nat.le_refl _)⟩⟩
      case rest =>
        obtain ⟨XN, A9, c9, M, cm, rfl, rfl, HXN0, HK9, HM9, HBX⟩ := hcut
        obtain ⟨wd, hwd⟩ : ∃ wd, wd = wc := ⟨_, rfl⟩
        rw [← hwd] at HXN0 HK9 HM9 HBX ⊢
        clear hwd d0 d1 d3 d4 d5 z1
        have k0 := (blk_cell HXN0.out.1 0).trans (show _ = some (Value.slice A9 h1.c.length c9) from rfl)
        have k1 := (blk_cell HXN0.out.1 1).trans (show _ = some (Value.int .i64 h1.keep) from rfl)
        have k2 := bcell HBX.out d2
        have HXN := Aside0.mk (And.intro HXN0.out.1 (show XN ≠ w.heap.size + 1 + 1 by have h1 := blk_lt HRES.out; have h2 := HB2.out.size; have h3 := HXN0.out.2; omega))
        have HRESd := Aside0.mk (blk_below HRES.out (below_step HB2.out HBX.out))
        have HROWd := Aside0.mk (Kd.C_below HROW.out.1 (below_step HB2.out HBX.out))
        have HWI := Aside0.mk (fun (W : World) (hb : Below wd.heap.size wd W) => show Calls Try.prog 79 #[.slice (some bd) l.length cb, .int .i64 (i : Int), .int .i64 1, .slice M more.length cm] W (fun e w' => ∃ B cb, e = .returned (.slice B l1.length cb) ∧ l1.length ≤ cb ∧ kIt.C w' B l1.length l1 ∧ Below W.heap.size W w') from refWith_walk (some bd) M cb cm i 1 l more l1 W (Kd.C_below HROWd.out hb) HROW.out.2 (Kd.C_below HM9.out hb) HWL.out.1)
        have HVV := Aside0.mk (fun (W : World) (hb : Below wd.heap.size wd W) => refV_walk M cm more W (Kd.C_below HM9.out hb) HMM.out)
        have HLA := Aside0.mk (fun (Bs : Option Addr) (cbs : Nat) (ts : List Tr) (D : Option Addr) (d : Nat) (W : World) (hb : Below wd.heap.size wd W) (hsl : kSl.C W Bs rows.length ts) (hrc : RowsC W ts rows) (hd : (Kd.int .i64).C W D (vL more).length (vL more)) => refLay_walk A9 D Bs c9 d cbs h1 h' false (vL more) rows ts made W (Kd.C_below HK9.out.2 hb) HK9.out.1 hd hsl hrc (splitO_len HSPL.out) HWL.out.2)
        clear d2
        go_upto_region 9 with (fail)
        go_region_held3 (fun w' => w'.cell? ⟨XN, 0, none⟩ = some (.slice A9 h1.c.length c9) ∧ w'.cell? ⟨XN, 1, none⟩ = some (.int .i64 h1.keep) ∧ w'.cell? ⟨w.heap.size + 1 + 1 + 1, 1, none⟩ = some (.slice (some bd) l.length cb)) (first | exact ⟨k0, k1, k2⟩ | exact ⟨(cell_far HXN.out.2 _).trans ((cell_far HXN.out.2 _).trans (bcell HB5.out k0)), (cell_far HXN.out.2 _).trans ((cell_far HXN.out.2 _).trans (bcell HB5.out k1)), (cell_far HNE.out.2.1 _).trans ((cell_far HNE.out.2.1 _).trans (bcell HB5.out k2))⟩ | exact (fun (hb : Below wd.heap.size wd _) => ⟨bcell hb k0, bcell hb k1, bcell hb k2⟩) (by repeat (first | (with_reducible exact Below.refl _ _) | (with_reducible refine below_alloc ?_ _) | (with_reducible refine below_drew1 ?_) | (with_reducible refine pw_below_drewN ?_ _) | (with_reducible exact HB5.out) | (with_reducible exact HB6.out) | (with_reducible exact HB4.out) | (with_reducible exact HB3.out)))) (first | (go_at_call 79; (with_reducible refine (HWI.out _ (by repeat (first | (with_reducible exact Below.refl _ _) | (with_reducible refine below_alloc ?_ _) | (with_reducible refine below_drew1 ?_) | (with_reducible refine pw_below_drewN ?_ _) | (with_reducible exact Below.refl _ _)))).mono ?_); rintro e w3 ⟨Bw, cbw, rfl, hcw, hrw, hb3⟩; have HB3 := Aside0.mk (show Below wd.heap.size wd w3 from below_step (by repeat (first | (with_reducible exact Below.refl _ _) | (with_reducible refine below_alloc ?_ _) | (with_reducible refine below_drew1 ?_) | (with_reducible refine pw_below_drewN ?_ _) | fail)) hb3); have HRW := Aside0.mk (And.intro hcw hrw); clear hcw hrw hb3) | (go_at_call 78; (with_reducible refine (refSplit_walk Bw cbw l1 rows w3 HRW.out.2 HRW.out.1 HSPL.out).mono ?_); rintro e w4 ⟨Bs, cbs, ts, rfl, hsl, hrc, hb4⟩; have HB4 := Aside0.mk (below_step HB3.out hb4); have HSC := Aside0.mk (And.intro hsl hrc); clear hsl hrc hb4) | (go_at_call 52; (with_reducible refine (HVV.out w4 HB4.out).mono ?_); rintro e w6 ⟨D, d, rfl, hd, hb6⟩; have HD := Aside0.mk (hd _ (Kept.refl _ _)); have HB6 := Aside0.mk (below_step HB4.out hb6); have HSC6 := Aside0.mk (And.intro (Kd.C_below HSC.out.1 hb6) (RowsC_below hb6 HSC.out.2)); clear hd hb6) | (go_at_call 77; (with_reducible refine (HLA.out Bs cbs ts D d w6 HB6.out HSC6.out.1 HSC6.out.2 HD.out).mono ?_); rintro e w5 ⟨B5, cb5, M5, cm5, rfl, hc5, hk5, hm5, hi5, hb5⟩; have HB5 := Aside0.mk (below_step HB6.out hb5); have HC5 := Aside0.mk (And.intro hc5 hk5); have HM5 := Aside0.mk (And.intro hm5 hi5); have HBR := Aside0.mk (blk_below HRESd.out HB5.out); have e0 := (blk_cell HBR.out 0).trans (show _ = some (Value.slice none 0 0) from rfl); have e1 := (blk_cell HBR.out 1).trans (show _ = some (Value.int .i64 0) from rfl); have f0 := blk_frozen HBR.out 0; have f1 := blk_frozen HBR.out 1; clear hc5 hk5 hm5 hi5 hb5) | fail)
        all_goals
          go_wp2
          refine bodyPost_ret (results_ct rfl _ _ (w.heap.size + 1 + 1) 24 #[.slice B5 h'.c.length cb5, .int .i64 h'.keep] (0, 0) _ rfl (hb_store HBR.out) Try.underlying24 rfl (by kernel_rfl)) rfl ?_
          exact ⟨B5, cb5, M5, cm5, rfl, HC5.out.1, cl_store HC5.out.2 HBR.out, HM5.out.1, it_set (it_set HM5.out.2 (Hb_of HBR.out) 0 _) (Hb_of (blk_put HBR.out 0 _ rfl)) 1 _, below_set (below_set (below_step HB0.out (below_step HB2.out (below_step HBX.out HB5.out))) (by omega)) (by omega)⟩
end Go.Proofs.Ytopkoganfnabgaa.H
namespace Go.Proofs.Ytopkoganfnabgaa.H
open Go.RowKit Go.Proofs.YtopkoganfnabgaaW.PrintWords Go.Proofs.YtopkoganfnabgaaW.PrintLast Go.Proofs.YtopkoganfnabgaaW.PrintMore
attribute [local go_sem] max2_int min2_int max_two min_two max_three min_three max_four min_four
set_option linter.unusedVariables false
set_option linter.unusedSimpArgs false
end Go.Proofs.Ytopkoganfnabgaa.H
namespace Go.Proofs.Ytopkoganfnabgaa.H
open Go.RowKit Go.Proofs.YtopkoganfnabgaaW.PrintWords Go.Proofs.YtopkoganfnabgaaW.PrintLast Go.Proofs.YtopkoganfnabgaaW.PrintMore
attribute [local go_sem] max2_int min2_int max_two min_two max_three min_three max_four min_four
set_option linter.unusedVariables false
set_option linter.unusedSimpArgs false
end Go.Proofs.Ytopkoganfnabgaa.H
namespace Go.Proofs.Ytopkoganfnabgaa.H
open Go.RowKit Go.Proofs.YtopkoganfnabgaaW.PrintWords Go.Proofs.YtopkoganfnabgaaW.PrintLast Go.Proofs.YtopkoganfnabgaaW.PrintMore
attribute [local go_sem] max2_int min2_int max_two min_two max_three min_three max_four min_four
set_option linter.unusedVariables false
set_option linter.unusedSimpArgs false
set_option maxHeartbeats 2000000 in
set_option maxRecDepth 100000 in
theorem high_walk (f : Nat) (A : Option Addr) (c : Nat) (h : Hp) (p : Int) (n : Nat) (w : World) (hf : f ≤ 1000) (hr : kCl.C w A h.c.length h.c) (e : highO f h p = some n) :
    Calls Try.prog 38 #[.agg #[.slice A h.c.length c, .int .i64 h.keep], .int .i64 p] w fun e w' => e = .returned (.int .i64 (n : Nat)) ∧ Below w.heap.size w w' := by
  have hm := Kd.C_max hr
  have hn := highO_le f h p n e
  obtain ⟨W1, hW1⟩ : ∃ W1, W1 = w.alloc (.cells #[.slice A h.c.length c, .int .i64 h.keep] 24) := ⟨_, rfl⟩
  have HB0 := Aside0.mk (show Below w.heap.size w W1 by rw [hW1]; exact below_alloc (Below.refl _ _) _)
  have HBH := Aside0.mk (show W1.heap[w.heap.size]? = some (.cells #[.slice A h.c.length c, .int .i64 h.keep] 24) by rw [hW1]; exact blk_new w _)
  have HR1 := Aside0.mk (Kd.C_below hr HB0.out)
  have hW1' := Aside0.mk hW1
  have HE := Aside0.mk e
  have HN := Aside0.mk (show n ≤ 1000 by omega)
  clear hr hW1 e hn
  go_enter Try.func38, Try.ntmps38
  go_wp2
  rw [← hW1'.out]
  go_loopg [5, 6] f (fun g s5 s6 wr => ∃ (k m : Nat) (q : Int), s5 = .int .i64 k ∧ s6 = .int .i64 q ∧ Aside0 (highO g h q = some m ∧ k + m = n) ∧ Aside0 (Below W1.heap.size W1 wr))
  case atStart => exact ⟨0, n, p, rfl, rfl, ⟨HE.out, by omega⟩, ⟨Below.refl _ _⟩⟩
  case round =>
    obtain ⟨k, m, q, rfl, rfl, HQ, HB⟩ := hrel
    have b0 := (blk_cell (blk_below HBH.out HB.out) 0).trans (show _ = some (Value.slice A h.c.length c) from rfl)
    have HBW := Aside0.mk (below_step HB0.out HB.out)
    obtain ⟨e, hkm⟩ := HQ.out
    cases gk with
    | zero => simp [highO] at e
    | succ g1 =>
    unfold highO at e
    by_cases h0 : q < 0
    · rw [if_pos h0] at e
      obtain rfl : 0 = m := by simpa using e
      have q1 : decide (0 ≤ q) = false := decide_eq_false (by omega)
      have HF := Aside0.mk (show k = n by omega)
      clear h0 e hkm
      go_wp2
      go_ret
      exact ⟨ret_i (by rw [HF.out]), HBW.out⟩
    rw [if_neg h0] at e
    by_cases hin' : inB h q = false
    · rw [hin'] at e; simp at e
    have hin : inB h q = true := by simpa using hin'
    clear hin'
    rw [if_pos hin] at e
    obtain ⟨i, rfl, hi⟩ := inB_nat hin
    rw [clAt_nat] at e
    obtain ⟨ad, B, cb, rfl, x0, x1, x2, x3, _, hB⟩ := at_cl (Kd.C_below HR1.out HB.out) i hi
    obtain ⟨x, hx⟩ : ∃ x, x = h.c.getD i zCl := ⟨_, rfl⟩
    rw [← hx] at x2 x3 hB e
    have q2 : (i < h.c.length) = True := eq_true hi
    have hk1 : wrap64 ((k : Int) + 1) = ((k + 1 : Nat) : Int) := by have := HN.out; unfold wrap64; omega
    have HK1 := Aside0.mk hk1
    obtain ⟨lf, hlf⟩ : ∃ lf, lf = x.n.leaf := ⟨_, rfl⟩
    rw [← hlf] at x2 e
    clear x0 x1 h0 hin hx hi hlf hk1 HQ
    cases lf with
    | true =>
      obtain rfl : 1 = m := by simpa using e
      have HF := Aside0.mk (show k + 1 = n by omega)
      clear e hB hkm
      go_wp2
      go_ret
      exact ⟨ret_i (by rw [HK1.out, HF.out]), by repeat (first | (with_reducible exact Below.refl _ _) | (with_reducible refine below_alloc ?_ _) | (with_reducible refine below_drew1 ?_) | (with_reducible refine pw_below_drewN ?_ _) | (with_reducible exact HBW.out))⟩
    | false =>
      rw [if_neg (by decide)] at e
      cases hit : x.n.it with
      | nil => rw [hit] at e; cases e
      | cons y r =>
        rw [hit] at e
        simp only at e
        cases hq : highO g1 h y.v with
        | none => rw [hq] at e; simp at e
        | some m' =>
          rw [hq] at e
          obtain rfl : m' + 1 = m := by simpa using e
          have hlen : 0 < x.n.it.length := by rw [hit]; simp
          obtain ⟨ad2, rfl, _, z1⟩ := at_it0 hB hlen
          rw [show itAt x.n.it 0 = y by rw [hit]; rfl] at z1
          have z2 := al1 z1
          have r1 : (0 < x.n.it.length) = True := eq_true hlen
          have r2 : ((0 : Int) < (x.n.it.length : Int)) = True := eq_true (by omega)
          have r3 : decide ((0 : Int) < (x.n.it.length : Int)) = true := decide_eq_true (by omega)
          have HQ2 := Aside0.mk (show highO g1 h y.v = some m' ∧ k + 1 + m' = n from ⟨hq, by omega⟩)
          clear e hit hq hlen hB hkm
          go_wp2
          go_roundg g1
          case measure => omega
          case rel => exact ⟨k + 1, m', y.v, by rw [HK1.out], rfl, HQ2, ⟨by repeat (first | (with_reducible exact Below.refl _ _) | (with_reducible refine below_alloc ?_ _) | (with_reducible refine below_drew1 ?_) | (with_reducible refine pw_below_drewN ?_ _) | (with_reducible exact HB.out))⟩⟩
end Go.Proofs.Ytopkoganfnabgaa.H
namespace Go.Proofs.Ytopkoganfnabgaa.H
open Go.RowKit Go.Proofs.YtopkoganfnabgaaW.PrintWords Go.Proofs.YtopkoganfnabgaaW.PrintLast Go.Proofs.YtopkoganfnabgaaW.PrintMore
attribute [local go_sem] max2_int min2_int max_two min_two max_three min_three max_four min_four
set_option linter.unusedVariables false
set_option linter.unusedSimpArgs false
set_option maxHeartbeats 2000000 in
theorem fits_walk (A : Option Addr) (c : Nat) (h : Hp) (n : Int) (deep : Bool) (w : World) (hr : kCl.C w A h.c.length h.c) :
    Calls Try.prog 40 #[.agg #[.slice A h.c.length c, .int .i64 h.keep], .int .i64 n, .bool deep] w fun e w' => e = .returned (.bool (fitsH h n deep)) ∧ Below w.heap.size w w' := by
  obtain ⟨W1, hW1⟩ : ∃ W1, W1 = w.alloc (.cells #[.slice A h.c.length c, .int .i64 h.keep] 24) := ⟨_, rfl⟩
  have HB0 := Aside0.mk (show Below w.heap.size w W1 by rw [hW1]; exact below_alloc (Below.refl _ _) _)
  have HBH := Aside0.mk (show W1.heap[w.heap.size]? = some (.cells #[.slice A h.c.length c, .int .i64 h.keep] 24) by rw [hW1]; exact blk_new w _)
  have HFW := Aside0.mk (fun (W : World) (hb : Below W1.heap.size W1 W) => free_walk A c h W (Kd.C_below (Kd.C_below hr HB0.out) hb))
  have hW1' := Aside0.mk hW1
  obtain ⟨F, hF⟩ : ∃ F, F = freeN h := ⟨_, rfl⟩
  have hfit : fitsH h n deep = if deep then decide (n ≤ (F : Int)) else decide (n ≤ w64 ((F : Int) - h.keep)) := by rw [hF]; rfl
  rw [← hF] at HFW
  rw [hfit]
  have b0 := (blk_cell HBH.out 0).trans (show _ = some (Value.slice A h.c.length c) from rfl)
  have b1 := (blk_cell HBH.out 1).trans (show _ = some (Value.int .i64 h.keep) from rfl)
  clear hr hF hfit hW1
  cases deep with
  | true =>
    go_enter Try.func40, Try.ntmps40
    go_upto_region 1 with (fail)
    rw [← hW1'.out]
    go_wp2_with (first | (go_at_call 69; (with_reducible refine (HFW.out _ (by repeat (first | (with_reducible exact Below.refl _ _) | (with_reducible refine below_alloc ?_ _) | (with_reducible refine below_drew1 ?_) | (with_reducible refine pw_below_drewN ?_ _) | fail))).mono ?_); rintro e w2 ⟨rfl, hb2⟩; have HB2 := Aside0.mk (below_step HB0.out hb2); clear hb2) | fail)
    go_ret
    exact ⟨rfl, HB2.out⟩
  | false =>
    go_enter Try.func40, Try.ntmps40
    go_upto_region 1 with (fail)
    rw [← hW1'.out]
    go_wp2_with (first | (go_at_call 69; (with_reducible refine (HFW.out _ (by repeat (first | (with_reducible exact Below.refl _ _) | (with_reducible refine below_alloc ?_ _) | (with_reducible refine below_drew1 ?_) | (with_reducible refine pw_below_drewN ?_ _) | fail))).mono ?_); rintro e w2 ⟨rfl, hb2⟩; have HB2 := Aside0.mk (below_step HB0.out hb2); have d1 := bcell hb2 b1; clear hb2) | fail)
    go_ret
    exact ⟨ret_b (by rw [w64_eq]), HB2.out⟩
def smallC (c : Cl) : Bool := decide (c.n.it.length ≤ 10) && decide (c.ref ≤ 1000000)
def smallB (h : Hp) (most : Nat) : Bool := decide (h.c.length ≤ most) && h.c.all smallC
def mayB (h : Hp) (most : Nat) : Bool := smallB h most && rightB h
set_option maxHeartbeats 2000000 in
set_option maxRecDepth 100000 in
theorem small_walk (A : Option Addr) (c : Nat) (h : Hp) (most : Nat) (w : World) (hr : kCl.C w A h.c.length h.c) :
    Calls Try.prog 65 #[.agg #[.slice A h.c.length c, .int .i64 h.keep], .int .i64 most] w fun e w' => e = .returned (.bool (smallB h most)) ∧ Below w.heap.size w w' := by
  have hm := Kd.C_max hr
  have hsm : smallB h most = (decide (h.c.length ≤ most) && h.c.all smallC) := rfl
  have HSM := Aside0.mk hsm
  by_cases hle : most < h.c.length
  · have q1 : decide (most < h.c.length) = true := decide_eq_true hle
    have q2 : decide ((most : Int) < (h.c.length : Int)) = true := decide_eq_true (by omega)
    have HF := Aside0.mk (show smallB h most = false by rw [hsm, decide_eq_false (by omega)]; rfl)
    clear hle hsm hr
    go_enter Try.func65, Try.ntmps65
    go_wp2
    go_ret
    exact ⟨ret_b HF.out.symm, by repeat (first | (with_reducible exact Below.refl _ _) | (with_reducible refine below_alloc ?_ _) | (with_reducible refine below_drew1 ?_) | (with_reducible refine pw_below_drewN ?_ _) | fail)⟩
  · have q1 : decide (most < h.c.length) = false := decide_eq_false hle
    have q2 : decide ((most : Int) < (h.c.length : Int)) = false := decide_eq_false (by omega)
    have HLE := Aside0.mk hle
    obtain ⟨W1, hW1⟩ : ∃ W1, W1 = w.alloc (.cells #[.slice A h.c.length c, .int .i64 h.keep] 24) := ⟨_, rfl⟩
    have HB0 := Aside0.mk (show Below w.heap.size w W1 by rw [hW1]; exact below_alloc (Below.refl _ _) _)
    have HBH := Aside0.mk (show W1.heap[w.heap.size]? = some (.cells #[.slice A h.c.length c, .int .i64 h.keep] 24) by rw [hW1]; exact blk_new w _)
    have HR1 := Aside0.mk (Kd.C_below hr HB0.out)
    have hW1' := Aside0.mk hW1
    clear hr hsm hle hW1
    go_enter Try.func65, Try.ntmps65
    go_wp2
    rw [← hW1'.out]
    clear q1 q2
    go_loopg [5] h.c.length (fun g s5 wr => ∃ k : Nat, s5 = .int .i64 k ∧ k + g = h.c.length ∧ Aside0 (∀ i, i < k → smallC (h.c.getD i zCl) = true) ∧ Aside0 (wr = W1))
    case atStart => exact ⟨0, rfl, by omega, ⟨fun i h => by omega⟩, ⟨rfl⟩⟩
    case round =>
      obtain ⟨k, rfl, hk, HO, HB⟩ := hrel
      have hB := HB.out
      subst hB
      have b0 := (blk_cell HBH.out 0).trans (show _ = some (Value.slice A h.c.length c) from rfl)
      by_cases hlt : k < h.c.length
      · obtain ⟨g1, rfl⟩ : ∃ g1, gk = g1 + 1 := ⟨gk - 1, by omega⟩
        have r1 : decide (k < h.c.length) = true := decide_eq_true hlt
        have r2 : (k < h.c.length) = True := eq_true hlt
        obtain ⟨ad, B, cb, rfl, x0, x1, x2, x3, _⟩ := at_cl HR1.out k hlt
        obtain ⟨x, hx⟩ : ∃ x, x = h.c.getD k zCl := ⟨_, rfl⟩
        rw [← hx] at x0 x3
        have hsc : smallC x = (decide (x.n.it.length ≤ 10) && decide (x.ref ≤ 1000000)) := rfl
        have HX := Aside0.mk hx
        have HK := Aside0.mk (And.intro hlt hk)
        have HW := Aside0.mk (show wrap64 ((k : Int) + 1) = ((k + 1 : Nat) : Int) by unfold wrap64; omega)
        clear hx hlt hk
        by_cases e1 : 10 < x.n.it.length
        · have d1 : decide ((10 : Int) < (x.n.it.length : Int)) = true := decide_eq_true (by omega)
          have d2 : decide (10 < x.n.it.length) = true := decide_eq_true e1
          have HF := Aside0.mk (show smallB h most = false by rw [HSM.out, lall_false zCl HK.out.1 (by rw [← HX.out, hsc, decide_eq_false (by omega)]; rfl), Bool.and_false])
          clear e1 hsc
          go_wp2
          go_ret
          exact ⟨ret_b HF.out.symm, HB0.out⟩
        · have d1 : decide ((10 : Int) < (x.n.it.length : Int)) = false := decide_eq_false (by omega)
          have d2 : decide (10 < x.n.it.length) = false := decide_eq_false e1
          by_cases e2 : 1000000 < x.ref
          · have d3 : decide (1000000 < x.ref) = true := decide_eq_true e2
            have HF := Aside0.mk (show smallB h most = false by rw [HSM.out, lall_false zCl HK.out.1 (by rw [← HX.out, hsc, decide_eq_false (show ¬ x.ref ≤ 1000000 by omega), Bool.and_false]), Bool.and_false])
            clear e1 e2 hsc
            go_wp2
            go_ret
            exact ⟨ret_b HF.out.symm, HB0.out⟩
          · have d3 : decide (1000000 < x.ref) = false := decide_eq_false e2
            have HN := Aside0.mk (show smallC x = true by rw [hsc, decide_eq_true (by omega), decide_eq_true (by omega)]; rfl)
            clear e1 e2 hsc
            go_wp2
            go_roundg g1
            case measure => omega
            case rel => exact ⟨k + 1, by rw [HW.out], by have := HK.out; omega, ⟨fun i hi => by rcases Nat.lt_or_ge i k with h | h; exact HO.out i h; obtain rfl : i = k := (by omega); rw [← HX.out]; exact HN.out⟩, ⟨rfl⟩⟩
      · have r1 : decide (k < h.c.length) = false := decide_eq_false hlt
        have r2 : (k < h.c.length) = False := eq_false hlt
        have HF := Aside0.mk (show smallB h most = true by rw [HSM.out, lall_true zCl (fun i hi => HO.out i (by omega)), decide_eq_true (by have := HLE.out; omega)]; rfl)
        clear hlt hk
        go_wp2
        go_ret
        exact ⟨ret_b HF.out.symm, HB0.out⟩
theorem may05_walk (A : Option Addr) (c : Nat) (h : Hp) (most : Nat) (w : World) (hr : kCl.C w A h.c.length h.c) :
    Calls Try.prog 36 #[.agg #[.slice A h.c.length c, .int .i64 h.keep], .int .i64 most] w fun e w' => e = .returned (.bool (mayB h most)) ∧ Below w.heap.size w w' := by
  obtain ⟨W1, hW1⟩ : ∃ W1, W1 = w.alloc (.cells #[.slice A h.c.length c, .int .i64 h.keep] 24) := ⟨_, rfl⟩
  have HB0 := Aside0.mk (show Below w.heap.size w W1 by rw [hW1]; exact below_alloc (Below.refl _ _) _)
  have HBH := Aside0.mk (show W1.heap[w.heap.size]? = some (.cells #[.slice A h.c.length c, .int .i64 h.keep] 24) by rw [hW1]; exact blk_new w _)
  have HSW := Aside0.mk (fun (W : World) (hb : Below W1.heap.size W1 W) => small_walk A c h most W (Kd.C_below (Kd.C_below hr HB0.out) hb))
  have HRW := Aside0.mk (fun (W : World) (hb : Below W1.heap.size W1 W) => right05_walk A c h W (Kd.C_below (Kd.C_below hr HB0.out) hb))
  have hmay : mayB h most = (smallB h most && rightB h) := rfl
  rw [hmay]
  have b0 := (blk_cell HBH.out 0).trans (show _ = some (Value.slice A h.c.length c) from rfl)
  have b1 := (blk_cell HBH.out 1).trans (show _ = some (Value.int .i64 h.keep) from rfl)
  have hW1' := Aside0.mk hW1
  clear hr hmay hW1
  generalize smallB h most = s at HSW ⊢
  cases s with
  | false =>
    go_enter Try.func36, Try.ntmps36
    go_upto_region 1 with (fail)
    rw [← hW1'.out]
    go_wp2_with (first | (go_at_call 65; (with_reducible refine (HSW.out _ (by repeat (first | (with_reducible exact Below.refl _ _) | (with_reducible refine below_alloc ?_ _) | (with_reducible refine below_drew1 ?_) | (with_reducible refine pw_below_drewN ?_ _) | fail))).mono ?_); rintro e w2 ⟨rfl, hb2⟩; have HB2 := Aside0.mk hb2; clear hb2) | fail)
    go_ret
    exact ⟨rfl, below_step HB0.out HB2.out⟩
  | true =>
    go_enter Try.func36, Try.ntmps36
    go_upto_region 1 with (fail)
    rw [← hW1'.out]
    go_wp2_with (first | (go_at_call 65; (with_reducible refine (HSW.out _ (by repeat (first | (with_reducible exact Below.refl _ _) | (with_reducible refine below_alloc ?_ _) | (with_reducible refine below_drew1 ?_) | (with_reducible refine pw_below_drewN ?_ _) | fail))).mono ?_); rintro e w2 ⟨rfl, hb2⟩; have HB2 := Aside0.mk hb2; have d0 := bcell hb2 b0; have d1 := bcell hb2 b1; clear hb2) | (go_at_call 66; (with_reducible refine (HRW.out _ HB2.out).mono ?_); rintro e w3 ⟨rfl, hb3⟩; have HB3 := Aside0.mk (below_step HB2.out hb3); clear hb3) | fail)
    go_ret
    exact ⟨by simp, below_step HB0.out HB3.out⟩
end Go.Proofs.Ytopkoganfnabgaa.H
namespace Go.Proofs.Ytopkoganfnabgaa.H
open Go.RowKit Go.Proofs.YtopkoganfnabgaaW.PrintWords Go.Proofs.YtopkoganfnabgaaW.PrintLast Go.Proofs.YtopkoganfnabgaaW.PrintMore
attribute [local go_sem] max2_int min2_int max_two min_two max_three min_three max_four min_four
set_option linter.unusedVariables false
set_option linter.unusedSimpArgs false
/-- What Put finds. -/
structure PuSt (w W1 : World) (A : Option Addr) (c : Nat) (h : Hp) : Prop where
  b0 : Below w.heap.size w W1
  hh : W1.heap[w.heap.size]? = some (.cells #[.slice A h.c.length c, .int .i64 h.keep] 24 (0, 0))
  hr : W1.heap[w.heap.size + 1]? = some (.cells #[.slice none 0 0, .int .i64 0] 24 (0, 0))
  cl : kCl.C W1 A h.c.length h.c ∧ h.c.length ≤ c
theorem pust (w : World) (A : Option Addr) (c : Nat) (h : Hp) (hr : kCl.C w A h.c.length h.c) (hcc : h.c.length ≤ c) : PuSt w ((w.alloc (.cells #[.slice A h.c.length c, .int .i64 h.keep] 24)).alloc (.cells #[.slice none 0 0, .int .i64 0] 24)) A c h :=
  ⟨below_alloc (below_alloc (Below.refl _ _) _) _, blk_alloc (blk_new w _) _, blk2 w _ _, Kd.C_alloc (Kd.C_alloc hr _) _, hcc⟩
theorem PuSt.step {w W1 W2 : World} {A : Option Addr} {c : Nat} {h : Hp} (s : PuSt w W1 A c h) (hb : Below W1.heap.size W1 W2) : PuSt w W2 A c h := ⟨below_step s.b0 hb, blk_below s.hh hb, blk_below s.hr hb, Kd.C_below s.cl.1 hb, s.cl.2⟩
/-- The result is the given heap. -/
theorem PuSt.same {w W1 : World} {A : Option Addr} {c : Nat} {h : Hp} (s : PuSt w W1 A c h) : kCl.C ((W1.setCell ⟨w.heap.size + 1, 0, none⟩ (.slice A h.c.length c)).setCell ⟨w.heap.size + 1, 1, none⟩ (.int .i64 h.keep)) A h.c.length h.c ∧ Below w.heap.size w ((W1.setCell ⟨w.heap.size + 1, 0, none⟩ (.slice A h.c.length c)).setCell ⟨w.heap.size + 1, 1, none⟩ (.int .i64 h.keep)) :=
  ⟨cl_store s.cl.1 s.hr, below_set (below_set s.b0 (by omega)) (by omega)⟩
end Go.Proofs.Ytopkoganfnabgaa.H
namespace Go.Proofs.Ytopkoganfnabgaa.H
open Go.RowKit Go.Proofs.YtopkoganfnabgaaW.PrintWords Go.Proofs.YtopkoganfnabgaaW.PrintLast Go.Proofs.YtopkoganfnabgaaW.PrintMore
attribute [local go_sem] max2_int min2_int max_two min_two max_three min_three max_four min_four
set_option linter.unusedVariables false
set_option linter.unusedSimpArgs false
set_option maxHeartbeats 4000000 in
set_option maxRecDepth 100000 in
theorem rpArg_walk (A : Option Addr) (c : Nat) (h : Hp) (root key val : Int) (deep : Bool) (w : World) (hr : kCl.C w A h.c.length h.c) (hcc : h.c.length ≤ c) (hbad : (!fitsB key || !fitsB val) = true) :
    Calls Try.prog 14 #[.agg #[.slice A h.c.length c, .int .i64 h.keep], .int .i64 root, .int .i64 key, .int .i64 val, .bool deep] w fun e w' => ∃ B cb, e = .returned (.tuple #[.agg #[.slice B h.c.length cb, .int .i64 h.keep], .int .i64 root, .int .i64 1]) ∧ h.c.length ≤ cb ∧ kCl.C w' B h.c.length h.c ∧ Below w.heap.size w w' := by
  obtain ⟨W1, hW1⟩ : ∃ W1, W1 = (w.alloc (.cells #[.slice A h.c.length c, .int .i64 h.keep] 24)).alloc (.cells #[.slice none 0 0, .int .i64 0] 24) := ⟨_, rfl⟩
  have S1 := Aside0.mk (show PuSt w W1 A c h by rw [hW1]; exact pust w A c h hr hcc)
  have c0 := (blk_cell S1.out.hh 0).trans (show _ = some (Value.slice A h.c.length c) from rfl)
  have c1 := (blk_cell S1.out.hh 1).trans (show _ = some (Value.int .i64 h.keep) from rfl)
  have e0 := (blk_cell S1.out.hr 0).trans (show _ = some (Value.slice none 0 0) from rfl)
  have e1 := (blk_cell S1.out.hr 1).trans (show _ = some (Value.int .i64 0) from rfl)
  have f0 := blk_frozen S1.out.hr 0
  have f1 := blk_frozen S1.out.hr 1
  have hW1' := Aside0.mk hW1
  have HBD := Aside0.mk hbad
  clear hbad
  by_cases k1 : key < 0
  · have d1 : decide (key < 0) = true := decide_eq_true k1
    clear k1
    (clear hr hcc hW1; go_enter Try.func14, Try.ntmps14; go_upto_region 1 with (fail); rw [← hW1'.out]; go_wp2; refine bodyPost_ret (results_ctt rfl _ _ (w.heap.size + 1) 24 #[.slice A h.c.length c, .int .i64 h.keep] (0, 0) _ rfl (hb_store S1.out.hr) Try.underlying24 rfl (by kernel_rfl)) rfl ?_; exact ⟨A, c, rfl, S1.out.cl.2, S1.out.same.1, S1.out.same.2⟩)
  have d1 : decide (key < 0) = false := decide_eq_false k1
  by_cases k2 : 2147483647 < key
  · have d2 : decide (2147483647 < key) = true := decide_eq_true k2
    clear k1 k2
    (clear hr hcc hW1; go_enter Try.func14, Try.ntmps14; go_upto_region 1 with (fail); rw [← hW1'.out]; go_wp2; refine bodyPost_ret (results_ctt rfl _ _ (w.heap.size + 1) 24 #[.slice A h.c.length c, .int .i64 h.keep] (0, 0) _ rfl (hb_store S1.out.hr) Try.underlying24 rfl (by kernel_rfl)) rfl ?_; exact ⟨A, c, rfl, S1.out.cl.2, S1.out.same.1, S1.out.same.2⟩)
  have d2 : decide (2147483647 < key) = false := decide_eq_false k2
  by_cases k3 : val < 0
  · have d3 : decide (val < 0) = true := decide_eq_true k3
    clear k1 k2 k3
    (clear hr hcc hW1; go_enter Try.func14, Try.ntmps14; go_upto_region 1 with (fail); rw [← hW1'.out]; go_wp2; refine bodyPost_ret (results_ctt rfl _ _ (w.heap.size + 1) 24 #[.slice A h.c.length c, .int .i64 h.keep] (0, 0) _ rfl (hb_store S1.out.hr) Try.underlying24 rfl (by kernel_rfl)) rfl ?_; exact ⟨A, c, rfl, S1.out.cl.2, S1.out.same.1, S1.out.same.2⟩)
  have d3 : decide (val < 0) = false := decide_eq_false k3
  by_cases k4 : 2147483647 < val
  · have d4 : decide (2147483647 < val) = true := decide_eq_true k4
    clear k1 k2 k3 k4
    (clear hr hcc hW1; go_enter Try.func14, Try.ntmps14; go_upto_region 1 with (fail); rw [← hW1'.out]; go_wp2; refine bodyPost_ret (results_ctt rfl _ _ (w.heap.size + 1) 24 #[.slice A h.c.length c, .int .i64 h.keep] (0, 0) _ rfl (hb_store S1.out.hr) Try.underlying24 rfl (by kernel_rfl)) rfl ?_; exact ⟨A, c, rfl, S1.out.cl.2, S1.out.same.1, S1.out.same.2⟩)
  · exfalso
    have := HBD.out
    unfold fitsB at this
    rw [decide_eq_true (show 0 ≤ key by omega), decide_eq_true (show key ≤ 2147483647 by omega), decide_eq_true (show 0 ≤ val by omega), decide_eq_true (show val ≤ 2147483647 by omega)] at this
    cases this
end Go.Proofs.Ytopkoganfnabgaa.H
namespace Go.Proofs.Ytopkoganfnabgaa.H
open Go.RowKit Go.Proofs.YtopkoganfnabgaaW.PrintWords Go.Proofs.YtopkoganfnabgaaW.PrintLast Go.Proofs.YtopkoganfnabgaaW.PrintMore
attribute [local go_sem] max2_int min2_int max_two min_two max_three min_three max_four min_four
set_option linter.unusedVariables false
set_option linter.unusedSimpArgs false
theorem allocO_len {h h' : Hp} {n : Nd} {held : List Int} {p er : Int} (e : allocO h n held = some (h', p, er)) : h'.c.length = h.c.length ∧ h.c.length ≤ 2000 := by
  unfold allocO at e
  split at e
  · rename_i hl
    split at e
    · split at e
      · split at e
        · simp only [Option.some.injEq, Prod.mk.injEq] at e
          obtain ⟨rfl, _, _⟩ := e
          refine ⟨?_, hl⟩
          unfold setH
          rw [List.length_set]
          split
          · rfl
          · exact holdL_len held n.it h
        · simp only [Option.some.injEq, Prod.mk.injEq] at e
          obtain ⟨rfl, _, _⟩ := e
          exact ⟨rfl, hl⟩
      · cases e
    · simp only [Option.some.injEq, Prod.mk.injEq] at e
      obtain ⟨rfl, _, _⟩ := e
      exact ⟨rfl, hl⟩
  · cases e
end Go.Proofs.Ytopkoganfnabgaa.H
namespace Go.Proofs.Ytopkoganfnabgaa.H
open Go.RowKit Go.Proofs.YtopkoganfnabgaaW.PrintWords Go.Proofs.YtopkoganfnabgaaW.PrintLast Go.Proofs.YtopkoganfnabgaaW.PrintMore
attribute [local go_sem] max2_int min2_int max_two min_two max_three min_three max_four min_four
set_option linter.unusedVariables false
set_option linter.unusedSimpArgs false
set_option maxHeartbeats 4000000 in
set_option maxRecDepth 100000 in
theorem rpFull_walk (A : Option Addr) (c : Nat) (h : Hp) (root key val : Int) (deep : Bool) (n : Nat) (w : World) (hr : kCl.C w A h.c.length h.c) (hcc : h.c.length ≤ c) (hhi : highO 21 h root = some n) (hk : fitsB key = true) (hv : fitsB val = true) (hbad : (decide (n = 20) || !fitsH h (2 * (n : Int) + 1) deep) = true) :
    Calls Try.prog 14 #[.agg #[.slice A h.c.length c, .int .i64 h.keep], .int .i64 root, .int .i64 key, .int .i64 val, .bool deep] w fun e w' => ∃ B cb, e = .returned (.tuple #[.agg #[.slice B h.c.length cb, .int .i64 h.keep], .int .i64 root, .int .i64 3]) ∧ h.c.length ≤ cb ∧ kCl.C w' B h.c.length h.c ∧ Below w.heap.size w w' := by
  (obtain ⟨W1, hW1⟩ : ∃ W1, W1 = (w.alloc (.cells #[.slice A h.c.length c, .int .i64 h.keep] 24)).alloc (.cells #[.slice none 0 0, .int .i64 0] 24) := ⟨_, rfl⟩; have S1 := Aside0.mk (show PuSt w W1 A c h by (rw [hW1]; exact pust w A c h hr hcc)); have c0 := (blk_cell S1.out.hh 0).trans (show _ = some (Value.slice A h.c.length c) from rfl); have c1 := (blk_cell S1.out.hh 1).trans (show _ = some (Value.int .i64 h.keep) from rfl); have HHI := Aside0.mk (fun (W : World) (hb : Below W1.heap.size W1 W) => refHigh_walk 21 A c h root n W (by decide) (Kd.C_below S1.out.cl.1 hb) hhi); have hW1' := Aside0.mk hW1; have HNN := Aside0.mk (show n ≤ 1000 by have := highO_le 21 h root n hhi; omega); have hkk : 0 ≤ key ∧ key ≤ 2147483647 ∧ 0 ≤ val ∧ val ≤ 2147483647 := (by unfold fitsB at hk hv; simp at hk hv; omega); have d2 : decide (key < 0) = false := decide_eq_false (by omega); have d3 : decide (2147483647 < key) = false := decide_eq_false (by omega); have d4 : decide (val < 0) = false := decide_eq_false (by omega); have d5 : decide (2147483647 < val) = false := decide_eq_false (by omega); have HFT0 := Aside0.mk (fun (W : World) (hb : Below W1.heap.size W1 W) => refFits_walk A c h (2 * (n : Int) + 1) deep W (Kd.C_below S1.out.cl.1 hb)); clear hr hcc hW1 hhi hk hv hkk)
  obtain ⟨ff, hff⟩ : ∃ ff, ff = fitsH h (2 * (n : Int) + 1) deep := ⟨_, rfl⟩
  rw [← hff] at HFT0 hbad
  clear hff
  by_cases h20 : n = 20
  · have q0 : ((n : Int) == 20) = true := beq_iff_eq.mpr (by omega)
    have q1 : (n == 20) = true := beq_iff_eq.mpr h20
    clear hbad h20
    (go_enter Try.func14, Try.ntmps14; go_upto_region 1 with (fail); rw [← hW1'.out]; go_upto_region 4 with (first | (go_at_call 21; (with_reducible refine (HHI.out _ (by repeat (first | (with_reducible exact Below.refl _ _) | (with_reducible refine below_alloc ?_ _) | (with_reducible refine below_drew1 ?_) | (with_reducible refine pw_below_drewN ?_ _) | (with_reducible exact Below.refl _ _)))).mono ?_); rintro e w2 ⟨rfl, hb2⟩; have HB2 := Aside0.mk hb2; have d0 := bcell hb2 c0; have d1 := bcell hb2 c1; clear hb2) | fail); have HFT := Aside0.mk (fun (W : World) (hb : Below w2.heap.size w2 W) => HFT0.out W (below_step HB2.out hb)))
    go_region_held3 (fun w' => w'.cell? ⟨w.heap.size, 0, none⟩ = some (.slice A h.c.length c) ∧ w'.cell? ⟨w.heap.size, 1, none⟩ = some (.int .i64 h.keep)) (first | exact ⟨d0, d1⟩ | exact ⟨bcell HB3.out d0, bcell HB3.out d1⟩ | exact (fun (h : Below w2.heap.size w2 _) => ⟨bcell h d0, bcell h d1⟩) (by repeat (first | (with_reducible exact Below.refl _ _) | (with_reducible refine below_alloc ?_ _) | (with_reducible refine below_drew1 ?_) | (with_reducible refine pw_below_drewN ?_ _) | (with_reducible exact HB3.out)))) (first | (go_at_call 46; (with_reducible refine (refNeed_walk n _ HNN.out).mono ?_); rintro e wn ⟨rfl, rfl⟩) | (go_at_call 45; (with_reducible refine (HFT.out _ (by repeat (first | (with_reducible exact Below.refl _ _) | (with_reducible refine below_alloc ?_ _) | (with_reducible refine below_drew1 ?_) | (with_reducible refine pw_below_drewN ?_ _) | (with_reducible exact Below.refl _ _)))).mono ?_); rintro e w3 ⟨rfl, hb3⟩; have HB3 := Aside0.mk (show Below w2.heap.size w2 w3 from below_step (by repeat (first | (with_reducible exact Below.refl _ _) | (with_reducible refine below_alloc ?_ _) | (with_reducible refine below_drew1 ?_) | (with_reducible refine pw_below_drewN ?_ _) | fail)) hb3); clear hb3) | fail)
    all_goals
      have S2 := Aside0.mk (S1.out.step (below_step HB2.out HB3.out))
      have g0 := (blk_cell S2.out.hh 0).trans (show _ = some (Value.slice A h.c.length c) from rfl)
      have g1 := (blk_cell S2.out.hh 1).trans (show _ = some (Value.int .i64 h.keep) from rfl)
      have e0 := (blk_cell S2.out.hr 0).trans (show _ = some (Value.slice none 0 0) from rfl)
      have e1 := (blk_cell S2.out.hr 1).trans (show _ = some (Value.int .i64 0) from rfl)
      have f0 := blk_frozen S2.out.hr 0
      have f1 := blk_frozen S2.out.hr 1
      clear d0 d1
      go_wp2
      refine bodyPost_ret (results_ctt rfl _ _ (w.heap.size + 1) 24 #[.slice A h.c.length c, .int .i64 h.keep] (0, 0) _ rfl (hb_store S2.out.hr) Try.underlying24 rfl (by kernel_rfl)) rfl ?_
      exact ⟨A, c, rfl, S2.out.cl.2, S2.out.same.1, S2.out.same.2⟩
  · have q0 : ((n : Int) == 20) = false := beq_eq_false_iff_ne.mpr (by omega)
    have q1 : (n == 20) = false := beq_eq_false_iff_ne.mpr h20
    obtain rfl : ff = false := by rw [decide_eq_false h20, Bool.false_or] at hbad; simpa using hbad
    clear hbad h20
    (go_enter Try.func14, Try.ntmps14; go_upto_region 1 with (fail); rw [← hW1'.out]; go_upto_region 4 with (first | (go_at_call 21; (with_reducible refine (HHI.out _ (by repeat (first | (with_reducible exact Below.refl _ _) | (with_reducible refine below_alloc ?_ _) | (with_reducible refine below_drew1 ?_) | (with_reducible refine pw_below_drewN ?_ _) | (with_reducible exact Below.refl _ _)))).mono ?_); rintro e w2 ⟨rfl, hb2⟩; have HB2 := Aside0.mk hb2; have d0 := bcell hb2 c0; have d1 := bcell hb2 c1; clear hb2) | fail); have HFT := Aside0.mk (fun (W : World) (hb : Below w2.heap.size w2 W) => HFT0.out W (below_step HB2.out hb)))
    go_region_held3 (fun w' => w'.cell? ⟨w.heap.size, 0, none⟩ = some (.slice A h.c.length c) ∧ w'.cell? ⟨w.heap.size, 1, none⟩ = some (.int .i64 h.keep)) (first | exact ⟨d0, d1⟩ | exact ⟨bcell HB3.out d0, bcell HB3.out d1⟩ | exact (fun (h : Below w2.heap.size w2 _) => ⟨bcell h d0, bcell h d1⟩) (by repeat (first | (with_reducible exact Below.refl _ _) | (with_reducible refine below_alloc ?_ _) | (with_reducible refine below_drew1 ?_) | (with_reducible refine pw_below_drewN ?_ _) | (with_reducible exact HB3.out)))) (first | (go_at_call 46; (with_reducible refine (refNeed_walk n _ HNN.out).mono ?_); rintro e wn ⟨rfl, rfl⟩) | (go_at_call 45; (with_reducible refine (HFT.out _ (by repeat (first | (with_reducible exact Below.refl _ _) | (with_reducible refine below_alloc ?_ _) | (with_reducible refine below_drew1 ?_) | (with_reducible refine pw_below_drewN ?_ _) | (with_reducible exact Below.refl _ _)))).mono ?_); rintro e w3 ⟨rfl, hb3⟩; have HB3 := Aside0.mk (show Below w2.heap.size w2 w3 from below_step (by repeat (first | (with_reducible exact Below.refl _ _) | (with_reducible refine below_alloc ?_ _) | (with_reducible refine below_drew1 ?_) | (with_reducible refine pw_below_drewN ?_ _) | fail)) hb3); clear hb3) | fail)
    all_goals
      have S2 := Aside0.mk (S1.out.step (below_step HB2.out HB3.out))
      have g0 := (blk_cell S2.out.hh 0).trans (show _ = some (Value.slice A h.c.length c) from rfl)
      have g1 := (blk_cell S2.out.hh 1).trans (show _ = some (Value.int .i64 h.keep) from rfl)
      have e0 := (blk_cell S2.out.hr 0).trans (show _ = some (Value.slice none 0 0) from rfl)
      have e1 := (blk_cell S2.out.hr 1).trans (show _ = some (Value.int .i64 0) from rfl)
      have f0 := blk_frozen S2.out.hr 0
      have f1 := blk_frozen S2.out.hr 1
      clear d0 d1
      go_wp2
      refine bodyPost_ret (results_ctt rfl _ _ (w.heap.size + 1) 24 #[.slice A h.c.length c, .int .i64 h.keep] (0, 0) _ rfl (hb_store S2.out.hr) Try.underlying24 rfl (by kernel_rfl)) rfl ?_
      exact ⟨A, c, rfl, S2.out.cl.2, S2.out.same.1, S2.out.same.2⟩
end Go.Proofs.Ytopkoganfnabgaa.H
namespace Go.Proofs.Ytopkoganfnabgaa.H
open Go.RowKit Go.Proofs.YtopkoganfnabgaaW.PrintWords Go.Proofs.YtopkoganfnabgaaW.PrintLast Go.Proofs.YtopkoganfnabgaaW.PrintMore
attribute [local go_sem] max2_int min2_int max_two min_two max_three min_three max_four min_four
set_option linter.unusedVariables false
set_option linter.unusedSimpArgs false
set_option maxHeartbeats 4000000 in
set_option maxRecDepth 100000 in
theorem rpNew_walk (A : Option Addr) (c : Nat) (h g : Hp) (root key val p : Int) (deep : Bool) (n : Nat) (w : World) (hr : kCl.C w A h.c.length h.c) (hcc : h.c.length ≤ c) (hhi : highO 21 h root = some n) (hk : fitsB key = true) (hv : fitsB val = true) (h20 : ¬ n = 20) (hff : fitsH h (2 * (n : Int) + 1) deep = true) (hro : root < 0)
    (e : allocO h ⟨true, [⟨key, val⟩]⟩ [] = some (g, p, 0)) :
    Calls Try.prog 14 #[.agg #[.slice A h.c.length c, .int .i64 h.keep], .int .i64 root, .int .i64 key, .int .i64 val, .bool deep] w fun e w' => ∃ B cb, e = .returned (.tuple #[.agg #[.slice B g.c.length cb, .int .i64 g.keep], .int .i64 p, .int .i64 0]) ∧ g.c.length ≤ cb ∧ kCl.C w' B g.c.length g.c ∧ Below w.heap.size w w' := by
  (obtain ⟨W1, hW1⟩ : ∃ W1, W1 = (w.alloc (.cells #[.slice A h.c.length c, .int .i64 h.keep] 24)).alloc (.cells #[.slice none 0 0, .int .i64 0] 24) := ⟨_, rfl⟩; have S1 := Aside0.mk (show PuSt w W1 A c h by (rw [hW1]; exact pust w A c h hr hcc)); have c0 := (blk_cell S1.out.hh 0).trans (show _ = some (Value.slice A h.c.length c) from rfl); have c1 := (blk_cell S1.out.hh 1).trans (show _ = some (Value.int .i64 h.keep) from rfl); have HHI := Aside0.mk (fun (W : World) (hb : Below W1.heap.size W1 W) => refHigh_walk 21 A c h root n W (by decide) (Kd.C_below S1.out.cl.1 hb) hhi); have hW1' := Aside0.mk hW1; have HNN := Aside0.mk (show n ≤ 1000 by have := highO_le 21 h root n hhi; omega); have hkk : 0 ≤ key ∧ key ≤ 2147483647 ∧ 0 ≤ val ∧ val ≤ 2147483647 := (by unfold fitsB at hk hv; simp at hk hv; omega); have d2 : decide (key < 0) = false := decide_eq_false (by omega); have d3 : decide (2147483647 < key) = false := decide_eq_false (by omega); have d4 : decide (val < 0) = false := decide_eq_false (by omega); have d5 : decide (2147483647 < val) = false := decide_eq_false (by omega); have HFT0 := Aside0.mk (fun (W : World) (hb : Below W1.heap.size W1 W) => refFits_walk A c h (2 * (n : Int) + 1) deep W (Kd.C_below S1.out.cl.1 hb)); clear hr hcc hW1 hhi hk hv hkk)
  rw [hff] at HFT0
  have q0 : ((n : Int) == 20) = false := beq_eq_false_iff_ne.mpr (by omega)
  have q1 : (n == 20) = false := beq_eq_false_iff_ne.mpr h20
  have HE := Aside0.mk e
  have r1 : decide (root < 0) = true := decide_eq_true hro
  clear e h20 hff hro
  (go_enter Try.func14, Try.ntmps14; go_upto_region 1 with (fail); rw [← hW1'.out]; go_upto_region 4 with (first | (go_at_call 21; (with_reducible refine (HHI.out _ (by repeat (first | (with_reducible exact Below.refl _ _) | (with_reducible refine below_alloc ?_ _) | (with_reducible refine below_drew1 ?_) | (with_reducible refine pw_below_drewN ?_ _) | (with_reducible exact Below.refl _ _)))).mono ?_); rintro e w2 ⟨rfl, hb2⟩; have HB2 := Aside0.mk hb2; have d0 := bcell hb2 c0; have d1 := bcell hb2 c1; clear hb2) | fail); have HFT := Aside0.mk (fun (W : World) (hb : Below w2.heap.size w2 W) => HFT0.out W (below_step HB2.out hb)))
  (go_cut [14] from 43 to 47 (fun v14 wc => v14 = .bool true ∧ Aside0 (Below W1.heap.size W1 wc)))
  case first => (go_region_held3 (fun w' => w'.cell? ⟨w.heap.size, 0, none⟩ = some (.slice A h.c.length c) ∧ w'.cell? ⟨w.heap.size, 1, none⟩ = some (.int .i64 h.keep)) (first | exact ⟨d0, d1⟩ | exact ⟨bcell HB3.out d0, bcell HB3.out d1⟩ | exact (fun (h : Below w2.heap.size w2 _) => ⟨bcell h d0, bcell h d1⟩) (by repeat (first | (with_reducible exact Below.refl _ _) | (with_reducible refine below_alloc ?_ _) | (with_reducible refine below_drew1 ?_) | (with_reducible refine pw_below_drewN ?_ _) | (with_reducible exact HB3.out)))) (first | (go_at_call 46; (with_reducible refine (refNeed_walk n _ HNN.out).mono ?_); rintro e wn ⟨rfl, rfl⟩) | (go_at_call 45; (with_reducible refine (HFT.out _ (by repeat (first | (with_reducible exact Below.refl _ _) | (with_reducible refine below_alloc ?_ _) | (with_reducible refine below_drew1 ?_) | (with_reducible refine pw_below_drewN ?_ _) | (with_reducible exact Below.refl _ _)))).mono ?_); rintro e w3 ⟨rfl, hb3⟩; have HB3 := Aside0.mk (show Below w2.heap.size w2 w3 from below_step (by repeat (first | (with_reducible exact Below.refl _ _) | (with_reducible refine below_alloc ?_ _) | (with_reducible refine below_drew1 ?_) | (with_reducible refine pw_below_drewN ?_ _) | fail)) hb3); clear hb3) | fail); all_goals (go_wp2; go_meet; case rel => exact ⟨rfl, ⟨below_step HB2.out HB3.out⟩⟩))
  case rest =>
    (obtain ⟨rfl, HBc⟩ := hcut; have Sc := Aside0.mk (S1.out.step HBc.out); clear c0 c1 d0 d1; have g0 := (blk_cell Sc.out.hh 0).trans (show _ = some (Value.slice A h.c.length c) from rfl); have g1 := (blk_cell Sc.out.hh 1).trans (show _ = some (Value.int .i64 h.keep) from rfl); obtain ⟨W4, hW4⟩ : ∃ W4, W4 = wc.alloc (.cells #[.int .i64 key, .int .i64 val] 26) := ⟨_, rfl⟩; have hb4 : Below wc.heap.size wc W4 := (by rw [hW4]; exact below_alloc (Below.refl _ _) _); have S4 := Aside0.mk (Sc.out.step hb4); have HIT := Aside0.mk (show W4.heap[wc.heap.size]? = some (.cells #[.int .i64 key, .int .i64 val] 26) by (rw [hW4]; exact blk_new wc _)); have hW4' := Aside0.mk hW4; clear hW4 hb4; go_upto_region 8 with (fail); rw [← hW4'.out]; clear g0 g1; have g0 := (blk_cell S4.out.hh 0).trans (show _ = some (Value.slice A h.c.length c) from rfl); have g1 := (blk_cell S4.out.hh 1).trans (show _ = some (Value.int .i64 h.keep) from rfl); have k0 := (blk_cell HIT.out 0).trans (show _ = some (Value.int .i64 key) from rfl); have k1 := (blk_cell HIT.out 1).trans (show _ = some (Value.int .i64 val) from rfl))
    have hal0 := refAlloc_walk A (some ⟨W4.heap.size, 0, none⟩) none c 1 0 h g ⟨true, [⟨key, val⟩]⟩ [] p 0 (W4.alloc (.cells #[.int .i64 key, .int .i64 val] 26)) (W4.alloc (.cells #[.int .i64 key, .int .i64 val] 26)) (Kd.C_alloc S4.out.cl.1 _) (Below.refl _ _) S4.out.cl.2 (one_it W4 ⟨key, val⟩) (Nat.le_refl _) (Kd.C_nil _ _) HE.out
    simp only [List.length_cons, List.length_nil, Nat.zero_add] at hal0
    have HAL := Aside0.mk hal0
    clear hal0
    go_wp2_with (first | (go_at_call 47; (with_reducible refine HAL.out.mono ?_); rintro e w7 ⟨B7, c7, rfl, hc7, hl7, hb7⟩; have HR7 := Aside0.mk (And.intro hc7 hl7.now); have S7 := Aside0.mk (S4.out.step (below_step (below_alloc (Below.refl _ _) _) hb7)); have e0 := (blk_cell S7.out.hr 0).trans (show _ = some (Value.slice none 0 0) from rfl); have e1 := (blk_cell S7.out.hr 1).trans (show _ = some (Value.int .i64 0) from rfl); have f0 := blk_frozen S7.out.hr 0; have f1 := blk_frozen S7.out.hr 1; clear hc7 hl7 hb7) | fail)
    refine bodyPost_ret (results_ctt rfl _ _ (w.heap.size + 1) 24 #[.slice B7 g.c.length c7, .int .i64 g.keep] (0, 0) _ rfl (hb_store S7.out.hr) Try.underlying24 rfl (by kernel_rfl)) rfl ?_
    exact ⟨B7, c7, rfl, HR7.out.1, cl_store HR7.out.2 S7.out.hr, below_set (below_set S7.out.b0 (by omega)) (by omega)⟩
end Go.Proofs.Ytopkoganfnabgaa.H
namespace Go.Proofs.Ytopkoganfnabgaa.H
open Go.RowKit Go.Proofs.YtopkoganfnabgaaW.PrintWords Go.Proofs.YtopkoganfnabgaaW.PrintLast Go.Proofs.YtopkoganfnabgaaW.PrintMore
attribute [local go_sem] max2_int min2_int max_two min_two max_three min_three max_four min_four
set_option linter.unusedVariables false
set_option linter.unusedSimpArgs false
theorem layO_len {lf : Bool} {held : List Int} : ∀ (rows : List (List It)) (h g : Hp) (l : List It), layO h lf held rows = some (g, l) → g.c.length = h.c.length ∧ l.length = rows.length ∧ (l ≠ [] → h.c.length ≤ 2000)
  | [], h, g, l, e => by
    unfold layO at e
    simp only [Option.some.injEq, Prod.mk.injEq] at e
    obtain ⟨rfl, rfl⟩ := e
    exact ⟨rfl, rfl, fun h => absurd rfl h⟩
  | [] :: _, h, g, l, e => by unfold layO at e; cases e
  | (x :: s) :: rows, h, g, l, e => by
    obtain ⟨g1, p, er, l1, h1, h2, rfl⟩ := layO_inv e
    obtain ⟨e1, e2, e3⟩ := layO_len rows g1 g l1 h2
    obtain ⟨a1, a2⟩ := allocO_len h1
    exact ⟨e1.trans a1, by simp [e2], fun _ => a2⟩
theorem anewO_len {f : Nat} {h g : Hp} {p : Int} {x : It} {made : List It} (e : anewO f h p x = some (g, made)) : made.length ≤ 2 ∧ (made ≠ [] → g.c.length ≤ 2000) := by
  cases f with
  | zero => simp [anewO] at e
  | succ f =>
    obtain ⟨_, i, is, h1, more, gone, held, l1, rows, _, _, _, _, hs, hl⟩ := anewO_inv e
    obtain ⟨e1, e2, e3⟩ := layO_len rows h1 g made hl
    exact ⟨by rw [e2]; exact splitO_len hs, fun hne => by rw [e1]; exact e3 hne⟩
end Go.Proofs.Ytopkoganfnabgaa.H
namespace Go.Proofs.Ytopkoganfnabgaa.H
open Go.RowKit Go.Proofs.YtopkoganfnabgaaW.PrintWords Go.Proofs.YtopkoganfnabgaaW.PrintLast Go.Proofs.YtopkoganfnabgaaW.PrintMore
attribute [local go_sem] max2_int min2_int max_two min_two max_three min_three max_four min_four
set_option linter.unusedVariables false
set_option linter.unusedSimpArgs false
theorem settledO_inv {f : Nat} {g h' : Hp} {q root p er : Int} (hro : ¬ root < 0) (e : settledO f g q root = some (h', p, er)) : ∃ e1, looseH f g root = some (h', e1) ∧ p = q ∧ er = 0 := by
  unfold settledO at e
  rw [if_pos (by omega)] at e
  cases hq : looseH f g root with
  | none => rw [hq] at e; cases e
  | some x =>
    obtain ⟨x1, x2⟩ := x
    rw [hq] at e
    simp only [Option.map_some, Option.some.injEq, Prod.mk.injEq] at e
    exact ⟨x2, by rw [e.1], e.2.1.symm, e.2.2.symm⟩
set_option maxHeartbeats 4000000 in
set_option maxRecDepth 100000 in
theorem rpOne_walk (A : Option Addr) (c : Nat) (h g h' : Hp) (root key val p er : Int) (deep : Bool) (n f : Nat) (y : It) (w : World) (hr : kCl.C w A h.c.length h.c) (hcc : h.c.length ≤ c) (hhi : highO 21 h root = some n) (hk : fitsB key = true) (hv : fitsB val = true) (h20 : ¬ n = 20) (hff : fitsH h (2 * (n : Int) + 1) deep = true) (hro : ¬ root < 0)
    (e : anewO 20 h root ⟨key, val⟩ = some (g, [y])) (es : settledO f g y.v root = some (h', p, er)) :
    Calls Try.prog 14 #[.agg #[.slice A h.c.length c, .int .i64 h.keep], .int .i64 root, .int .i64 key, .int .i64 val, .bool deep] w fun e w' => ∃ B cb, e = .returned (.tuple #[.agg #[.slice B h'.c.length cb, .int .i64 h'.keep], .int .i64 p, .int .i64 er]) ∧ h'.c.length ≤ cb ∧ kCl.C w' B h'.c.length h'.c ∧ Below w.heap.size w w' := by
  obtain ⟨e1, hlo, rfl, rfl⟩ := settledO_inv hro es
  (obtain ⟨W1, hW1⟩ : ∃ W1, W1 = (w.alloc (.cells #[.slice A h.c.length c, .int .i64 h.keep] 24)).alloc (.cells #[.slice none 0 0, .int .i64 0] 24) := ⟨_, rfl⟩; have S1 := Aside0.mk (show PuSt w W1 A c h by (rw [hW1]; exact pust w A c h hr hcc)); have c0 := (blk_cell S1.out.hh 0).trans (show _ = some (Value.slice A h.c.length c) from rfl); have c1 := (blk_cell S1.out.hh 1).trans (show _ = some (Value.int .i64 h.keep) from rfl); have HHI := Aside0.mk (fun (W : World) (hb : Below W1.heap.size W1 W) => refHigh_walk 21 A c h root n W (by decide) (Kd.C_below S1.out.cl.1 hb) hhi); have hW1' := Aside0.mk hW1; have HNN := Aside0.mk (show n ≤ 1000 by have := highO_le 21 h root n hhi; omega); have hkk : 0 ≤ key ∧ key ≤ 2147483647 ∧ 0 ≤ val ∧ val ≤ 2147483647 := (by unfold fitsB at hk hv; simp at hk hv; omega); have d2 : decide (key < 0) = false := decide_eq_false (by omega); have d3 : decide (2147483647 < key) = false := decide_eq_false (by omega); have d4 : decide (val < 0) = false := decide_eq_false (by omega); have d5 : decide (2147483647 < val) = false := decide_eq_false (by omega); have HFT0 := Aside0.mk (fun (W : World) (hb : Below W1.heap.size W1 W) => refFits_walk A c h (2 * (n : Int) + 1) deep W (Kd.C_below S1.out.cl.1 hb)); clear hr hcc hW1 hhi hk hv hkk)
  rw [hff] at HFT0
  have q0 : ((n : Int) == 20) = false := beq_eq_false_iff_ne.mpr (by omega)
  have q1 : (n == 20) = false := beq_eq_false_iff_ne.mpr h20
  obtain ⟨made, hmade⟩ : ∃ made, made = [y] := ⟨_, rfl⟩
  rw [← hmade] at e
  have HE := Aside0.mk e
  have HLO := Aside0.mk hlo
  have HLEN := Aside0.mk (show g.c.length ≤ 1000000 by have := (anewO_len e).2 (by rw [hmade]; simp); omega)
  have HML := Aside0.mk (show 0 < made.length ∧ itAt made 0 = y by rw [hmade]; exact ⟨by simp, rfl⟩)
  have r1 : decide (root < 0) = false := decide_eq_false hro
  have r2 : decide ((1 : Int) < (made.length : Int)) = false := by rw [hmade]; rfl
  have r3 : decide (1 < made.length) = false := by rw [hmade]; rfl
  have r4 : (0 < made.length) = True := eq_true HML.out.1
  have r5 : ((0 : Int) < (made.length : Int)) = True := eq_true (by have := HML.out.1; omega)
  clear e es h20 hff hro hmade hlo
  (go_enter Try.func14, Try.ntmps14; go_upto_region 1 with (fail); rw [← hW1'.out]; go_upto_region 4 with (first | (go_at_call 21; (with_reducible refine (HHI.out _ (by repeat (first | (with_reducible exact Below.refl _ _) | (with_reducible refine below_alloc ?_ _) | (with_reducible refine below_drew1 ?_) | (with_reducible refine pw_below_drewN ?_ _) | (with_reducible exact Below.refl _ _)))).mono ?_); rintro e w2 ⟨rfl, hb2⟩; have HB2 := Aside0.mk hb2; have d0 := bcell hb2 c0; have d1 := bcell hb2 c1; clear hb2) | fail); have HFT := Aside0.mk (fun (W : World) (hb : Below w2.heap.size w2 W) => HFT0.out W (below_step HB2.out hb)))
  (go_cut [14] from 43 to 47 (fun v14 wc => v14 = .bool true ∧ Aside0 (Below W1.heap.size W1 wc)))
  case first => (go_region_held3 (fun w' => w'.cell? ⟨w.heap.size, 0, none⟩ = some (.slice A h.c.length c) ∧ w'.cell? ⟨w.heap.size, 1, none⟩ = some (.int .i64 h.keep)) (first | exact ⟨d0, d1⟩ | exact ⟨bcell HB3.out d0, bcell HB3.out d1⟩ | exact (fun (h : Below w2.heap.size w2 _) => ⟨bcell h d0, bcell h d1⟩) (by repeat (first | (with_reducible exact Below.refl _ _) | (with_reducible refine below_alloc ?_ _) | (with_reducible refine below_drew1 ?_) | (with_reducible refine pw_below_drewN ?_ _) | (with_reducible exact HB3.out)))) (first | (go_at_call 46; (with_reducible refine (refNeed_walk n _ HNN.out).mono ?_); rintro e wn ⟨rfl, rfl⟩) | (go_at_call 45; (with_reducible refine (HFT.out _ (by repeat (first | (with_reducible exact Below.refl _ _) | (with_reducible refine below_alloc ?_ _) | (with_reducible refine below_drew1 ?_) | (with_reducible refine pw_below_drewN ?_ _) | (with_reducible exact Below.refl _ _)))).mono ?_); rintro e w3 ⟨rfl, hb3⟩; have HB3 := Aside0.mk (show Below w2.heap.size w2 w3 from below_step (by repeat (first | (with_reducible exact Below.refl _ _) | (with_reducible refine below_alloc ?_ _) | (with_reducible refine below_drew1 ?_) | (with_reducible refine pw_below_drewN ?_ _) | fail)) hb3); clear hb3) | fail); all_goals (go_wp2; go_meet; case rel => exact ⟨rfl, ⟨below_step HB2.out HB3.out⟩⟩))
  case rest =>
    (obtain ⟨rfl, HBc⟩ := hcut; have Sc := Aside0.mk (S1.out.step HBc.out); clear c0 c1 d0 d1; have g0 := (blk_cell Sc.out.hh 0).trans (show _ = some (Value.slice A h.c.length c) from rfl); have g1 := (blk_cell Sc.out.hh 1).trans (show _ = some (Value.int .i64 h.keep) from rfl); obtain ⟨W4, hW4⟩ : ∃ W4, W4 = wc.alloc (.cells #[.int .i64 key, .int .i64 val] 26) := ⟨_, rfl⟩; have hb4 : Below wc.heap.size wc W4 := (by rw [hW4]; exact below_alloc (Below.refl _ _) _); have S4 := Aside0.mk (Sc.out.step hb4); have HIT := Aside0.mk (show W4.heap[wc.heap.size]? = some (.cells #[.int .i64 key, .int .i64 val] 26) by (rw [hW4]; exact blk_new wc _)); have hW4' := Aside0.mk hW4; clear hW4 hb4; go_upto_region 8 with (fail); rw [← hW4'.out]; clear g0 g1; have g0 := (blk_cell S4.out.hh 0).trans (show _ = some (Value.slice A h.c.length c) from rfl); have g1 := (blk_cell S4.out.hh 1).trans (show _ = some (Value.int .i64 h.keep) from rfl); have k0 := (blk_cell HIT.out 0).trans (show _ = some (Value.int .i64 key) from rfl); have k1 := (blk_cell HIT.out 1).trans (show _ = some (Value.int .i64 val) from rfl))
    have HAN := Aside0.mk (refAnew_walk 20 A c h g root ⟨key, val⟩ made W4 S4.out.cl.1 S4.out.cl.2 HE.out)
    go_upto_region 11 with (first | (go_at_call 48; (with_reducible refine HAN.out.mono ?_); rintro e w6 ⟨A6, c6, M, cm, rfl, hc6, hk6, hm6, hi6, hb6⟩; have HK6 := Aside0.mk (And.intro hc6 hk6); have HM6 := Aside0.mk (And.intro hm6 hi6); have HB6 := Aside0.mk hb6; clear hc6 hk6 hm6 hi6 hb6) | fail)
    obtain ⟨V, hV⟩ : ∃ V, V = w6.alloc (.cells #[.slice A6 g.c.length c6, .int .i64 g.keep] 24) := ⟨_, rfl⟩
    have hbv : Below W4.heap.size W4 V := by rw [hV]; exact below_alloc HB6.out _
    have SV := Aside0.mk (S4.out.step hbv)
    have HXG := Aside0.mk (show V.heap[w6.heap.size]? = some (.cells #[.slice A6 g.c.length c6, .int .i64 g.keep] 24) by rw [hV]; exact blk_new w6 _)
    have HKV := Aside0.mk (show kCl.C V A6 g.c.length g.c by rw [hV]; exact Kd.C_alloc HK6.out.2 _)
    have HMV := Aside0.mk (show kIt.C V M made.length made by rw [hV]; exact Kd.C_alloc HM6.out.2 _)
    obtain ⟨md, hmd, _, z1⟩ := at_it0 HMV.out HML.out.1
    subst hmd
    rw [HML.out.2] at z1
    have hV' := Aside0.mk hV
    clear hV hbv g0 g1 k0 k1
    rw [← hV'.out]
    have x0 := (blk_cell HXG.out 0).trans (show _ = some (Value.slice A6 g.c.length c6) from rfl)
    have x1 := (blk_cell HXG.out 1).trans (show _ = some (Value.int .i64 g.keep) from rfl)
    go_upto_region 17 with (first | (go_at_call 49; (with_reducible refine (refLoose_walk f A6 c6 g h' root e1 V HKV.out HK6.out.1 HLEN.out HLO.out).mono ?_); rintro e w8 ⟨B8, c8, rfl, hc8, hk8, hb8⟩; have HK8 := Aside0.mk (And.intro hc8 hk8); have S8 := Aside0.mk (SV.out.step hb8); clear hc8 hk8 hb8) | fail)
    obtain ⟨V2, hV2⟩ : ∃ V2, V2 = w8.alloc (.cells #[.slice B8 h'.c.length c8, .int .i64 h'.keep] 24) := ⟨_, rfl⟩
    have S9 := Aside0.mk (S8.out.step (show Below w8.heap.size w8 V2 by rw [hV2]; exact below_alloc (Below.refl _ _) _))
    have HX2 := Aside0.mk (show V2.heap[w8.heap.size]? = some (.cells #[.slice B8 h'.c.length c8, .int .i64 h'.keep] 24) by rw [hV2]; exact blk_new w8 _)
    have HK9 := Aside0.mk (show kCl.C V2 B8 h'.c.length h'.c by rw [hV2]; exact Kd.C_alloc HK8.out.2 _)
    rw [← hV2]
    clear hV2 x0 x1 z1
    have y0 := (blk_cell HX2.out 0).trans (show _ = some (Value.slice B8 h'.c.length c8) from rfl)
    have y1 := (blk_cell HX2.out 1).trans (show _ = some (Value.int .i64 h'.keep) from rfl)
    have e0 := (blk_cell S9.out.hr 0).trans (show _ = some (Value.slice none 0 0) from rfl)
    have e1' := (blk_cell S9.out.hr 1).trans (show _ = some (Value.int .i64 0) from rfl)
    have f0 := blk_frozen S9.out.hr 0
    have f1 := blk_frozen S9.out.hr 1
    go_wp2
    refine bodyPost_ret (results_ctt rfl _ _ (w.heap.size + 1) 24 #[.slice B8 h'.c.length c8, .int .i64 h'.keep] (0, 0) _ rfl (hb_store S9.out.hr) Try.underlying24 rfl (by kernel_rfl)) rfl ?_
    exact ⟨B8, c8, rfl, HK8.out.1, cl_store HK9.out S9.out.hr, below_set (below_set S9.out.b0 (by omega)) (by omega)⟩
end Go.Proofs.Ytopkoganfnabgaa.H
