import Derived.Test.YtopkoganfnabgaaG3
import Derived.Test.YtopkoganfnabgaaG1
namespace Go.Proofs.Ytopkoganfnabgaa.H
open Go.RowKit Go.Proofs.YtopkoganfnabgaaW.PrintWords Go.Proofs.YtopkoganfnabgaaW.PrintLast Go.Proofs.YtopkoganfnabgaaW.PrintMore
attribute [local go_sem] max2_int min2_int max_two min_two max_three min_three max_four min_four
set_option linter.unusedVariables false
set_option linter.unusedSimpArgs false
set_option maxHeartbeats 4000000 in
set_option maxRecDepth 100000 in
/-- grow.settled: b is the builder's block. -/
theorem growSettled_walk (f : Nat) (A : Option Addr) (c b : Nat) (h h' : Hp) (k p old q er : Int) (w : World) (hbb : w.heap[b]? = some (.cells #[.slice A h.c.length c, .int .i64 h.keep] 86 (0, 0))) (hr : kCl.C w A h.c.length h.c) (hl : h.c.length ≤ 2000) (hcc : h.c.length ≤ c) (e : settledO f h p old = some (h', q, er)) :
    Calls Try.prog 42 #[.pointer (some ⟨b, 0, none⟩), .agg #[.int .i64 k, .int .i64 p], .int .i64 old] w fun e w' => ∃ B cb, e = .returned (.tuple #[.agg #[.slice B h'.c.length cb, .int .i64 h'.keep], .int .i64 q, .int .i64 er]) ∧ h'.c.length ≤ cb ∧ kCl.C w' B h'.c.length h'.c ∧ KeepBut w w' b none ∧ S3 w w' := by
  obtain ⟨W1, hW1⟩ : ∃ W1, W1 = (w.alloc (.cells #[.int .i64 k, .int .i64 p] 26)).alloc (.cells #[.slice none 0 0, .int .i64 0] 24) := ⟨_, rfl⟩
  have HB0 := Aside0.mk (show Below w.heap.size w W1 by rw [hW1]; exact below_alloc (below_alloc (Below.refl _ _) _) _)
  have HI1 := Aside0.mk (show W1.heap[w.heap.size]? = some (.cells #[.int .i64 k, .int .i64 p] 26) by rw [hW1]; exact blk_alloc (blk_new w _) _)
  have HR1 := Aside0.mk (show W1.heap[w.heap.size + 1]? = some (.cells #[.slice none 0 0, .int .i64 0] 24) by rw [hW1]; exact blk2 w _ _)
  have HBB := Aside0.mk (blk_below hbb HB0.out)
  have HBL := Aside0.mk (blk_lt hbb)
  have HNE := Aside0.mk (show (b ≠ w.heap.size + 1) ∧ (w.heap.size ≠ w.heap.size + 1) by have := HBL.out; omega)
  have HC1 := Aside0.mk (And.intro hcc (Kd.C_below hr HB0.out))
  have hW1' := Aside0.mk hW1
  have c0 := (blk_cell HBB.out 0).trans (show _ = some (Value.slice A h.c.length c) from rfl)
  have c1 := (blk_cell HBB.out 1).trans (show _ = some (Value.int .i64 h.keep) from rfl)
  have n1 := (blk_cell HI1.out 1).trans (show _ = some (Value.int .i64 p) from rfl)
  have c2 := (blk_cell HR1.out 0).trans (show _ = some (Value.slice none 0 0) from rfl)
  have c3 := (blk_cell HR1.out 1).trans (show _ = some (Value.int .i64 0) from rfl)
  have f2 := blk_frozen HR1.out 0
  have f3 := blk_frozen HR1.out 1
  unfold settledO at e
  by_cases ho : 0 ≤ old
  · rw [if_pos ho] at e
    cases hlo : looseH f h old with
    | none => rw [hlo] at e; cases e
    | some g =>
      obtain ⟨g, ge⟩ := g
      rw [hlo] at e
      simp only [Option.map_some, Option.some.injEq, Prod.mk.injEq] at e
      obtain ⟨rfl, rfl, rfl⟩ := e
      have HLO := Aside0.mk (fun (W : World) (hb : Below W1.heap.size W1 W) => heapLoose_walk f A c h g old ge W (Kd.C_below HC1.out.2 hb) hl hcc hlo)
      have r1 : decide (0 ≤ old) = true := decide_eq_true ho
      clear hW1 hbb hr hl hcc hlo ho
      go_enter Try.func42, Try.ntmps42
      go_upto_region 1 with (fail)
      rw [← hW1'.out]
      have f0 := blk_frozen HBB.out 0
      have f1 := blk_frozen HBB.out 1
      go_upto_region 3 with (first | (go_at_call 60; (with_reducible refine (HLO.out _ (by repeat (first | (with_reducible exact Below.refl _ _) | (with_reducible refine below_alloc ?_ _) | (with_reducible refine below_drew1 ?_) | (with_reducible refine pw_below_drewN ?_ _) | (with_reducible exact Below.refl _ _)))).mono ?_); rintro e w2 ⟨B, cb, rfl, hcb, hk2, hb2⟩; have HK2 := Aside0.mk (And.intro hcb hk2); have HB2 := Aside0.mk hb2; have HBB2 := Aside0.mk (blk_below HBB.out hb2); have d0 := bcell hb2 c0; have d1 := bcell hb2 c1; have g0 := blk_frozen HBB2.out 0; have g1 := blk_frozen HBB2.out 1; clear hcb hk2 hb2) | fail)
      obtain ⟨W3, hW3⟩ : ∃ W3, W3 = ((w2.setCell ⟨b, 0, none⟩ (.slice B g.c.length cb)).setCell ⟨b, 1, none⟩ (.int .i64 g.keep)) := ⟨_, rfl⟩
      have HBB3 := Aside0.mk (show W3.heap[b]? = some (.cells #[.slice B g.c.length cb, .int .i64 g.keep] 86) by rw [hW3]; exact hb_store HBB2.out)
      have HI3 := Aside0.mk (show W3.heap[w.heap.size]? = some (.cells #[.int .i64 k, .int .i64 p] 26) by rw [hW3]; exact blk_far (blk_far (blk_below HI1.out HB2.out) (by have := HBL.out; show w.heap.size ≠ b; omega) _) (by have := HBL.out; show w.heap.size ≠ b; omega) _)
      have HR3 := Aside0.mk (show W3.heap[w.heap.size + 1]? = some (.cells #[.slice none 0 0, .int .i64 0] 24) by rw [hW3]; exact blk_far (blk_far (blk_below HR1.out HB2.out) (by have := HBL.out; show w.heap.size + 1 ≠ b; omega) _) (by have := HBL.out; show w.heap.size + 1 ≠ b; omega) _)
      have HC3 := Aside0.mk (show kCl.C W3 B g.c.length g.c by rw [hW3]; exact cl_store HK2.out.2 HBB2.out)
      have HK3 := Aside0.mk (show KeepBut w W3 b none by rw [hW3]; exact keep_trans (KeepBut.of_below (below_step HB0.out HB2.out) b none) (((KeepBut.refl w2 b none).set_ 0 _).set_ 1 _))
      have HS3 := Aside0.mk (show S3 w W3 by rw [hW3]; exact S3.set (S3.set (S3.below (below_step HB0.out HB2.out)) _ _) _ _)
      rw [← hW3]
      have e0 := (blk_cell HBB3.out 0).trans (show _ = some (Value.slice B g.c.length cb) from rfl)
      have e1 := (blk_cell HBB3.out 1).trans (show _ = some (Value.int .i64 g.keep) from rfl)
      have e2 := (blk_cell HI3.out 1).trans (show _ = some (Value.int .i64 p) from rfl)
      have e3 := (blk_cell HR3.out 0).trans (show _ = some (Value.slice none 0 0) from rfl)
      have e4 := (blk_cell HR3.out 1).trans (show _ = some (Value.int .i64 0) from rfl)
      have k0 := blk_frozen HR3.out 0
      have k1 := blk_frozen HR3.out 1
      clear d0 d1 g0 g1 c0 c1 n1 c2 c3 f0 f1 f2 f3 hW3
      go_region_held3 (fun w' => w'.cell? ⟨b, 0, none⟩ = some (.slice B g.c.length cb) ∧ w'.cell? ⟨b, 1, none⟩ = some (.int .i64 g.keep) ∧ w'.cell? ⟨w.heap.size, 1, none⟩ = some (.int .i64 p)) (first | exact ⟨e0, e1, e2⟩ | exact ⟨(cell_far HNE.out.1 _).trans ((cell_far HNE.out.1 _).trans e0), (cell_far HNE.out.1 _).trans ((cell_far HNE.out.1 _).trans e1), (cell_far HNE.out.2 _).trans ((cell_far HNE.out.2 _).trans e2)⟩) (fail)
      all_goals
        go_wp2
        refine bodyPost_ret (results_ctt rfl _ _ (w.heap.size + 1) 24 #[.slice B g.c.length cb, .int .i64 g.keep] (0, 0) _ rfl (hb_store HR3.out) Try.underlying24 rfl (by kernel_rfl)) rfl ?_
        exact ⟨B, cb, rfl, HK2.out.1, cl_store (w := W3) HC3.out HR3.out, keep_far (keep_far HK3.out (by show w.heap.size ≤ w.heap.size + 1; omega) _) (by show w.heap.size ≤ w.heap.size + 1; omega) _, HS3.out⟩
  · rw [if_neg ho] at e
    simp only [Option.some.injEq, Prod.mk.injEq] at e
    obtain ⟨rfl, rfl, rfl⟩ := e
    have r1 : decide (0 ≤ old) = false := decide_eq_false ho
    clear hW1 hbb hr hl hcc ho
    go_enter Try.func42, Try.ntmps42
    go_upto_region 1 with (fail)
    rw [← hW1'.out]
    go_upto_region 3 with (fail)
    go_region_held3 (fun w' => w'.cell? ⟨b, 0, none⟩ = some (.slice A h.c.length c) ∧ w'.cell? ⟨b, 1, none⟩ = some (.int .i64 h.keep) ∧ w'.cell? ⟨w.heap.size, 1, none⟩ = some (.int .i64 p)) (first | exact ⟨c0, c1, n1⟩ | exact ⟨(cell_far HNE.out.1 _).trans ((cell_far HNE.out.1 _).trans c0), (cell_far HNE.out.1 _).trans ((cell_far HNE.out.1 _).trans c1), (cell_far HNE.out.2 _).trans ((cell_far HNE.out.2 _).trans n1)⟩) (fail)
    all_goals
      go_wp2
      refine bodyPost_ret (results_ctt rfl _ _ (w.heap.size + 1) 24 #[.slice A h.c.length c, .int .i64 h.keep] (0, 0) _ rfl (hb_store HR1.out) Try.underlying24 rfl (by kernel_rfl)) rfl ?_
      exact ⟨A, c, rfl, HC1.out.1, cl_store (w := W1) HC1.out.2 HR1.out, keep_far (keep_far (KeepBut.of_below HB0.out b none) (by show w.heap.size ≤ w.heap.size + 1; omega) _) (by show w.heap.size ≤ w.heap.size + 1; omega) _, (S3.below HB0.out : S3 w W1)⟩
end Go.Proofs.Ytopkoganfnabgaa.H
namespace Go.Proofs.Ytopkoganfnabgaa.H
open Go.RowKit Go.Proofs.YtopkoganfnabgaaW.PrintWords Go.Proofs.YtopkoganfnabgaaW.PrintLast Go.Proofs.YtopkoganfnabgaaW.PrintMore
attribute [local go_sem] max2_int min2_int max_two min_two max_three min_three max_four min_four
set_option linter.unusedVariables false
set_option linter.unusedSimpArgs false
set_option maxHeartbeats 4000000 in
set_option maxRecDepth 100000 in
/-- grow.Over. -/
theorem growOver_walk (A B : Option Addr) (c cb : Nat) (h h' : Hp) (l : List It) (p er : Int) (w : World) (hr : kCl.C w A h.c.length h.c) (hcc : h.c.length ≤ c) (hn : kIt.C w B l.length l) (hnb : l.length ≤ cb) (hl : l.length ≤ 1000) (e : overO h l = some (h', p, er)) :
    Calls Try.prog 15 #[.agg #[.slice A h.c.length c, .int .i64 h.keep], .slice B l.length cb] w fun e w' => ∃ B' cb', e = .returned (.tuple #[.agg #[.slice B' h'.c.length cb', .int .i64 h'.keep], .int .i64 p, .int .i64 er]) ∧ h'.c.length ≤ cb' ∧ kCl.C w' B' h'.c.length h'.c ∧ Below w.heap.size w w' := by
  obtain ⟨W1, hW1⟩ : ∃ W1, W1 = (w.alloc (.cells #[.slice A h.c.length c, .int .i64 h.keep] 24)).alloc (.cells #[.slice none 0 0, .int .i64 0] 24) := ⟨_, rfl⟩
  have HB0 := Aside0.mk (show Below w.heap.size w W1 by rw [hW1]; exact below_alloc (below_alloc (Below.refl _ _) _) _)
  have HH1 := Aside0.mk (show W1.heap[w.heap.size]? = some (.cells #[.slice A h.c.length c, .int .i64 h.keep] 24) by rw [hW1]; exact blk_alloc (blk_new w _) _)
  have HR1 := Aside0.mk (show W1.heap[w.heap.size + 1]? = some (.cells #[.slice none 0 0, .int .i64 0] 24) by rw [hW1]; exact blk2 w _ _)
  have c0 := (blk_cell HH1.out 0).trans (show _ = some (Value.slice A h.c.length c) from rfl)
  have c1 := (blk_cell HH1.out 1).trans (show _ = some (Value.int .i64 h.keep) from rfl)
  have HPL := Aside0.mk (fun (W : World) (hb : Below W1.heap.size W1 W) => growPlaces_walk B cb l W (Kd.C_below hn (below_step HB0.out hb)) hl)
  have HAL := Aside0.mk (fun (D : Option Addr) (d : Nat) (W : World) (hb : Below W1.heap.size W1 W) (hd : (Kd.int .i64).C W D (vL l).length (vL l)) => show Calls Try.prog 50 #[.agg #[.slice A h.c.length c, .int .i64 h.keep], .agg #[.bool false, .slice B l.length cb], .slice D (vL l).length d] W (fun e w' => ∃ B' cb', e = .returned (.tuple #[.agg #[.slice B' h'.c.length cb', .int .i64 h'.keep], .int .i64 p, .int .i64 er]) ∧ h'.c.length ≤ cb' ∧ Lv w W w' B' h'.c ∧ Below W.heap.size W w') from heapAlloc_walk A B D c cb d h h' ⟨false, l⟩ (vL l) p er w W hr (below_step HB0.out hb) hcc hn hnb hd e)
  have hW1' := Aside0.mk hW1
  have HNE := Aside0.mk (show w.heap.size ≠ w.heap.size + 1 by omega)
  clear hW1 hr hcc hn hnb hl e
  go_enter Try.func15, Try.ntmps15
  go_upto_region 1 with (fail)
  rw [← hW1'.out]
  go_region_held3 (fun w' => w'.cell? ⟨w.heap.size, 0, none⟩ = some (.slice A h.c.length c) ∧ w'.cell? ⟨w.heap.size, 1, none⟩ = some (.int .i64 h.keep)) (first | exact ⟨c0, c1⟩ | exact ⟨bcell HB3.out c0, bcell HB3.out c1⟩ | exact ⟨(cell_far HNE.out _).trans ((cell_far HNE.out _).trans (bcell HB3.out c0)), (cell_far HNE.out _).trans ((cell_far HNE.out _).trans (bcell HB3.out c1))⟩ | exact (fun (h : Below W1.heap.size W1 _) => ⟨bcell h c0, bcell h c1⟩) (by repeat (first | (with_reducible exact Below.refl _ _) | (with_reducible refine below_alloc ?_ _) | (with_reducible refine below_drew1 ?_) | (with_reducible refine pw_below_drewN ?_ _) | (with_reducible exact HB2.out)))) (first | (go_at_call 51; (with_reducible refine (HPL.out _ (by repeat (first | (with_reducible exact Below.refl _ _) | (with_reducible refine below_alloc ?_ _) | (with_reducible refine below_drew1 ?_) | (with_reducible refine pw_below_drewN ?_ _) | (with_reducible exact Below.refl _ _)))).mono ?_); rintro e w2 ⟨D, d, rfl, hd, hb2⟩; have HD := Aside0.mk hd; have HB2 := Aside0.mk (show Below W1.heap.size W1 w2 from below_step (by repeat (first | (with_reducible exact Below.refl _ _) | (with_reducible refine below_alloc ?_ _) | (with_reducible refine below_drew1 ?_) | (with_reducible refine pw_below_drewN ?_ _) | (with_reducible exact Below.refl _ _))) hb2); clear hd hb2) | (go_at_call 50; (with_reducible refine (HAL.out D d _ (by repeat (first | (with_reducible exact Below.refl _ _) | (with_reducible refine below_alloc ?_ _) | (with_reducible refine below_drew1 ?_) | (with_reducible refine pw_below_drewN ?_ _) | (with_reducible exact HB2.out))) (HD.out _ (by first | exact Kept.refl _ _ | exact Kept.of_below (below_drew (Below.refl _ _)) _))).mono ?_); rintro e w3 ⟨A', c', rfl, hc', hs', hb3⟩; have HB3 := Aside0.mk (show Below W1.heap.size W1 w3 from below_step (by repeat (first | (with_reducible exact Below.refl _ _) | (with_reducible refine below_alloc ?_ _) | (with_reducible refine below_drew1 ?_) | (with_reducible refine pw_below_drewN ?_ _) | (with_reducible exact HB2.out))) hb3); have HS := Aside0.mk (And.intro hc' hs'.now); have HBR := Aside0.mk (blk_below HR1.out HB3.out); have e0 := (blk_cell HBR.out 0).trans (show _ = some (Value.slice none 0 0) from rfl); have e1 := (blk_cell HBR.out 1).trans (show _ = some (Value.int .i64 0) from rfl); have f0 := blk_frozen HBR.out 0; have f1 := blk_frozen HBR.out 1; clear hc' hs' hb3) | fail)
  all_goals
    go_wp2
    refine bodyPost_ret (results_ctt rfl _ _ (w.heap.size + 1) 24 #[.slice A' h'.c.length c', .int .i64 h'.keep] (0, 0) _ rfl (hb_store HBR.out) Try.underlying24 rfl (by kernel_rfl)) rfl ?_
    exact ⟨A', c', rfl, HS.out.1, cl_store HS.out.2 HBR.out, below_set (below_set (below_step HB0.out HB3.out) (by omega)) (by omega)⟩
end Go.Proofs.Ytopkoganfnabgaa.H
namespace Go.Proofs.Ytopkoganfnabgaa.H
open Go.RowKit Go.Proofs.YtopkoganfnabgaaW.PrintWords Go.Proofs.YtopkoganfnabgaaW.PrintLast Go.Proofs.YtopkoganfnabgaaW.PrintMore
attribute [local go_sem] max2_int min2_int max_two min_two max_three min_three max_four min_four
set_option linter.unusedVariables false
set_option linter.unusedSimpArgs false
set_option maxHeartbeats 2000000 in
set_option maxRecDepth 100000 in
theorem high_walk (f : Nat) (A : Option Addr) (c : Nat) (h : Hp) (p : Int) (n : Nat) (w : World) (hf : f ≤ 1000) (hr : kCl.C w A h.c.length h.c) (e : highO f h p = some n) :
    Calls Try.prog 38 #[.agg #[.slice A h.c.length c, .int .i64 h.keep], .int .i64 p] w fun e w' => e = .returned (.int .i64 (n : Nat)) ∧ Below w.heap.size w w' := by
  have hm := Kd.C_max hr
  have hn := highO_le f h p n e
  obtain ⟨W1, hW1⟩ : ∃ W1, W1 = w.alloc (.cells #[.slice A h.c.length c, .int .i64 h.keep] 24) := ⟨_, rfl⟩
  have HB0 := Aside0.mk (show Below w.heap.size w W1 by rw [hW1]; exact below_alloc (Below.refl _ _) _)
  have HBH := Aside0.mk (show W1.heap[w.heap.size]? = some (.cells #[.slice A h.c.length c, .int .i64 h.keep] 24) by rw [hW1]; exact blk_new w _)
  have HR1 := Aside0.mk (Kd.C_below hr HB0.out)
  have hW1' := Aside0.mk hW1
  have HE := Aside0.mk e
  have HN := Aside0.mk (show n ≤ 1000 by omega)
  clear hr hW1 e hn
  go_enter Try.func38, Try.ntmps38
  go_wp2
  rw [← hW1'.out]
  go_loopg [5, 6] f (fun g s5 s6 wr => ∃ (k m : Nat) (q : Int), s5 = .int .i64 k ∧ s6 = .int .i64 q ∧ Aside0 (highO g h q = some m ∧ k + m = n) ∧ Aside0 (Below W1.heap.size W1 wr))
  case atStart => exact ⟨0, n, p, rfl, rfl, ⟨HE.out, by omega⟩, ⟨Below.refl _ _⟩⟩
  case round =>
    obtain ⟨k, m, q, rfl, rfl, HQ, HB⟩ := hrel
    have b0 := (blk_cell (blk_below HBH.out HB.out) 0).trans (show _ = some (Value.slice A h.c.length c) from rfl)
    have HBW := Aside0.mk (below_step HB0.out HB.out)
    obtain ⟨e, hkm⟩ := HQ.out
    cases gk with
    | zero => simp [highO] at e
    | succ g1 =>
    unfold highO at e
    by_cases h0 : q < 0
    · rw [if_pos h0] at e
      obtain rfl : 0 = m := by simpa using e
      have q1 : decide (0 ≤ q) = false := decide_eq_false (by omega)
      have HF := Aside0.mk (show k = n by omega)
      clear h0 e hkm
      go_wp2
      go_ret
      exact ⟨ret_i (by rw [HF.out]), HBW.out⟩
    rw [if_neg h0] at e
    by_cases hin' : inB h q = false
    · rw [hin'] at e; simp at e
    have hin : inB h q = true := by simpa using hin'
    clear hin'
    rw [if_pos hin] at e
    obtain ⟨i, rfl, hi⟩ := inB_nat hin
    rw [clAt_nat] at e
    obtain ⟨ad, B, cb, rfl, x0, x1, x2, x3, _, hB⟩ := at_cl (Kd.C_below HR1.out HB.out) i hi
    obtain ⟨x, hx⟩ : ∃ x, x = h.c.getD i zCl := ⟨_, rfl⟩
    rw [← hx] at x2 x3 hB e
    have q2 : (i < h.c.length) = True := eq_true hi
    have hk1 : wrap64 ((k : Int) + 1) = ((k + 1 : Nat) : Int) := by have := HN.out; unfold wrap64; omega
    have HK1 := Aside0.mk hk1
    obtain ⟨lf, hlf⟩ : ∃ lf, lf = x.n.leaf := ⟨_, rfl⟩
    rw [← hlf] at x2 e
    clear x0 x1 h0 hin hx hi hlf hk1 HQ
    cases lf with
    | true =>
      obtain rfl : 1 = m := by simpa using e
      have HF := Aside0.mk (show k + 1 = n by omega)
      clear e hB hkm
      go_wp2
      go_ret
      exact ⟨ret_i (by rw [HK1.out, HF.out]), by repeat (first | (with_reducible exact Below.refl _ _) | (with_reducible refine below_alloc ?_ _) | (with_reducible refine below_drew1 ?_) | (with_reducible refine pw_below_drewN ?_ _) | (with_reducible exact HBW.out))⟩
    | false =>
      rw [if_neg (by decide)] at e
      cases hit : x.n.it with
      | nil => rw [hit] at e; cases e
      | cons y r =>
        rw [hit] at e
        simp only at e
        cases hq : highO g1 h y.v with
        | none => rw [hq] at e; simp at e
        | some m' =>
          rw [hq] at e
          obtain rfl : m' + 1 = m := by simpa using e
          have hlen : 0 < x.n.it.length := by rw [hit]; simp
          obtain ⟨ad2, rfl, _, z1⟩ := at_it0 hB hlen
          rw [show itAt x.n.it 0 = y by rw [hit]; rfl] at z1
          have z2 := al1 z1
          have r1 : (0 < x.n.it.length) = True := eq_true hlen
          have r2 : ((0 : Int) < (x.n.it.length : Int)) = True := eq_true (by omega)
          have r3 : decide ((0 : Int) < (x.n.it.length : Int)) = true := decide_eq_true (by omega)
          have HQ2 := Aside0.mk (show highO g1 h y.v = some m' ∧ k + 1 + m' = n from ⟨hq, by omega⟩)
          clear e hit hq hlen hB hkm
          go_wp2
          go_roundg g1
          case measure => omega
          case rel => exact ⟨k + 1, m', y.v, by rw [HK1.out], rfl, HQ2, ⟨by repeat (first | (with_reducible exact Below.refl _ _) | (with_reducible refine below_alloc ?_ _) | (with_reducible refine below_drew1 ?_) | (with_reducible refine pw_below_drewN ?_ _) | (with_reducible exact HB.out))⟩⟩
end Go.Proofs.Ytopkoganfnabgaa.H
namespace Go.Proofs.Ytopkoganfnabgaa.H
open Go.RowKit Go.Proofs.YtopkoganfnabgaaW.PrintWords Go.Proofs.YtopkoganfnabgaaW.PrintLast Go.Proofs.YtopkoganfnabgaaW.PrintMore
attribute [local go_sem] max2_int min2_int max_two min_two max_three min_three max_four min_four
set_option linter.unusedVariables false
set_option linter.unusedSimpArgs false
set_option maxHeartbeats 2000000 in
theorem fits_walk (A : Option Addr) (c : Nat) (h : Hp) (n : Int) (deep : Bool) (w : World) (hr : kCl.C w A h.c.length h.c) :
    Calls Try.prog 40 #[.agg #[.slice A h.c.length c, .int .i64 h.keep], .int .i64 n, .bool deep] w fun e w' => e = .returned (.bool (fitsH h n deep)) ∧ Below w.heap.size w w' := by
  obtain ⟨W1, hW1⟩ : ∃ W1, W1 = w.alloc (.cells #[.slice A h.c.length c, .int .i64 h.keep] 24) := ⟨_, rfl⟩
  have HB0 := Aside0.mk (show Below w.heap.size w W1 by rw [hW1]; exact below_alloc (Below.refl _ _) _)
  have HBH := Aside0.mk (show W1.heap[w.heap.size]? = some (.cells #[.slice A h.c.length c, .int .i64 h.keep] 24) by rw [hW1]; exact blk_new w _)
  have HFW := Aside0.mk (fun (W : World) (hb : Below W1.heap.size W1 W) => free_walk A c h W (Kd.C_below (Kd.C_below hr HB0.out) hb))
  have hW1' := Aside0.mk hW1
  obtain ⟨F, hF⟩ : ∃ F, F = freeN h := ⟨_, rfl⟩
  have hfit : fitsH h n deep = if deep then decide (n ≤ (F : Int)) else decide (n ≤ w64 ((F : Int) - h.keep)) := by rw [hF]; rfl
  rw [← hF] at HFW
  rw [hfit]
  have b0 := (blk_cell HBH.out 0).trans (show _ = some (Value.slice A h.c.length c) from rfl)
  have b1 := (blk_cell HBH.out 1).trans (show _ = some (Value.int .i64 h.keep) from rfl)
  clear hr hF hfit hW1
  cases deep with
  | true =>
    go_enter Try.func40, Try.ntmps40
    go_upto_region 1 with (fail)
    rw [← hW1'.out]
    go_wp2_with (first | (go_at_call 69; (with_reducible refine (HFW.out _ (by repeat (first | (with_reducible exact Below.refl _ _) | (with_reducible refine below_alloc ?_ _) | (with_reducible refine below_drew1 ?_) | (with_reducible refine pw_below_drewN ?_ _) | fail))).mono ?_); rintro e w2 ⟨rfl, hb2⟩; have HB2 := Aside0.mk (below_step HB0.out hb2); clear hb2) | fail)
    go_ret
    exact ⟨rfl, HB2.out⟩
  | false =>
    go_enter Try.func40, Try.ntmps40
    go_upto_region 1 with (fail)
    rw [← hW1'.out]
    go_wp2_with (first | (go_at_call 69; (with_reducible refine (HFW.out _ (by repeat (first | (with_reducible exact Below.refl _ _) | (with_reducible refine below_alloc ?_ _) | (with_reducible refine below_drew1 ?_) | (with_reducible refine pw_below_drewN ?_ _) | fail))).mono ?_); rintro e w2 ⟨rfl, hb2⟩; have HB2 := Aside0.mk (below_step HB0.out hb2); have d1 := bcell hb2 b1; clear hb2) | fail)
    go_ret
    exact ⟨ret_b (by rw [w64_eq]), HB2.out⟩
def smallC (c : Cl) : Bool := decide (c.n.it.length ≤ 10) && decide (c.ref ≤ 1000000)
def smallB (h : Hp) (most : Nat) : Bool := decide (h.c.length ≤ most) && h.c.all smallC
def mayB (h : Hp) (most : Nat) : Bool := smallB h most && rightB h
set_option maxHeartbeats 2000000 in
set_option maxRecDepth 100000 in
theorem small_walk (A : Option Addr) (c : Nat) (h : Hp) (most : Nat) (w : World) (hr : kCl.C w A h.c.length h.c) :
    Calls Try.prog 65 #[.agg #[.slice A h.c.length c, .int .i64 h.keep], .int .i64 most] w fun e w' => e = .returned (.bool (smallB h most)) ∧ Below w.heap.size w w' := by
  have hm := Kd.C_max hr
  have hsm : smallB h most = (decide (h.c.length ≤ most) && h.c.all smallC) := rfl
  have HSM := Aside0.mk hsm
  by_cases hle : most < h.c.length
  · have q1 : decide (most < h.c.length) = true := decide_eq_true hle
    have q2 : decide ((most : Int) < (h.c.length : Int)) = true := decide_eq_true (by omega)
    have HF := Aside0.mk (show smallB h most = false by rw [hsm, decide_eq_false (by omega)]; rfl)
    clear hle hsm hr
    go_enter Try.func65, Try.ntmps65
    go_wp2
    go_ret
    exact ⟨ret_b HF.out.symm, by repeat (first | (with_reducible exact Below.refl _ _) | (with_reducible refine below_alloc ?_ _) | (with_reducible refine below_drew1 ?_) | (with_reducible refine pw_below_drewN ?_ _) | fail)⟩
  · have q1 : decide (most < h.c.length) = false := decide_eq_false hle
    have q2 : decide ((most : Int) < (h.c.length : Int)) = false := decide_eq_false (by omega)
    have HLE := Aside0.mk hle
    obtain ⟨W1, hW1⟩ : ∃ W1, W1 = w.alloc (.cells #[.slice A h.c.length c, .int .i64 h.keep] 24) := ⟨_, rfl⟩
    have HB0 := Aside0.mk (show Below w.heap.size w W1 by rw [hW1]; exact below_alloc (Below.refl _ _) _)
    have HBH := Aside0.mk (show W1.heap[w.heap.size]? = some (.cells #[.slice A h.c.length c, .int .i64 h.keep] 24) by rw [hW1]; exact blk_new w _)
    have HR1 := Aside0.mk (Kd.C_below hr HB0.out)
    have hW1' := Aside0.mk hW1
    clear hr hsm hle hW1
    go_enter Try.func65, Try.ntmps65
    go_wp2
    rw [← hW1'.out]
    clear q1 q2
    go_loopg [5] h.c.length (fun g s5 wr => ∃ k : Nat, s5 = .int .i64 k ∧ k + g = h.c.length ∧ Aside0 (∀ i, i < k → smallC (h.c.getD i zCl) = true) ∧ Aside0 (wr = W1))
    case atStart => exact ⟨0, rfl, by omega, ⟨fun i h => by omega⟩, ⟨rfl⟩⟩
    case round =>
      obtain ⟨k, rfl, hk, HO, HB⟩ := hrel
      have hB := HB.out
      subst hB
      have b0 := (blk_cell HBH.out 0).trans (show _ = some (Value.slice A h.c.length c) from rfl)
      by_cases hlt : k < h.c.length
      · obtain ⟨g1, rfl⟩ : ∃ g1, gk = g1 + 1 := ⟨gk - 1, by omega⟩
        have r1 : decide (k < h.c.length) = true := decide_eq_true hlt
        have r2 : (k < h.c.length) = True := eq_true hlt
        obtain ⟨ad, B, cb, rfl, x0, x1, x2, x3, _⟩ := at_cl HR1.out k hlt
        obtain ⟨x, hx⟩ : ∃ x, x = h.c.getD k zCl := ⟨_, rfl⟩
        rw [← hx] at x0 x3
        have hsc : smallC x = (decide (x.n.it.length ≤ 10) && decide (x.ref ≤ 1000000)) := rfl
        have HX := Aside0.mk hx
        have HK := Aside0.mk (And.intro hlt hk)
        have HW := Aside0.mk (show wrap64 ((k : Int) + 1) = ((k + 1 : Nat) : Int) by unfold wrap64; omega)
        clear hx hlt hk
        by_cases e1 : 10 < x.n.it.length
        · have d1 : decide ((10 : Int) < (x.n.it.length : Int)) = true := decide_eq_true (by omega)
          have d2 : decide (10 < x.n.it.length) = true := decide_eq_true e1
          have HF := Aside0.mk (show smallB h most = false by rw [HSM.out, lall_false zCl HK.out.1 (by rw [← HX.out, hsc, decide_eq_false (by omega)]; rfl), Bool.and_false])
          clear e1 hsc
          go_wp2
          go_ret
          exact ⟨ret_b HF.out.symm, HB0.out⟩
        · have d1 : decide ((10 : Int) < (x.n.it.length : Int)) = false := decide_eq_false (by omega)
          have d2 : decide (10 < x.n.it.length) = false := decide_eq_false e1
          by_cases e2 : 1000000 < x.ref
          · have d3 : decide (1000000 < x.ref) = true := decide_eq_true e2
            have HF := Aside0.mk (show smallB h most = false by rw [HSM.out, lall_false zCl HK.out.1 (by rw [← HX.out, hsc, decide_eq_false (show ¬ x.ref ≤ 1000000 by omega), Bool.and_false]), Bool.and_false])
            clear e1 e2 hsc
            go_wp2
            go_ret
            exact ⟨ret_b HF.out.symm, HB0.out⟩
          · have d3 : decide (1000000 < x.ref) = false := decide_eq_false e2
            have HN := Aside0.mk (show smallC x = true by rw [hsc, decide_eq_true (by omega), decide_eq_true (by omega)]; rfl)
            clear e1 e2 hsc
            go_wp2
            go_roundg g1
            case measure => omega
            case rel => exact ⟨k + 1, by rw [HW.out], by have := HK.out; omega, ⟨fun i hi => by rcases Nat.lt_or_ge i k with h | h; exact HO.out i h; obtain rfl : i = k := (by omega); rw [← HX.out]; exact HN.out⟩, ⟨rfl⟩⟩
      · have r1 : decide (k < h.c.length) = false := decide_eq_false hlt
        have r2 : (k < h.c.length) = False := eq_false hlt
        have HF := Aside0.mk (show smallB h most = true by rw [HSM.out, lall_true zCl (fun i hi => HO.out i (by omega)), decide_eq_true (by have := HLE.out; omega)]; rfl)
        clear hlt hk
        go_wp2
        go_ret
        exact ⟨ret_b HF.out.symm, HB0.out⟩
theorem may05_walk (A : Option Addr) (c : Nat) (h : Hp) (most : Nat) (w : World) (hr : kCl.C w A h.c.length h.c) :
    Calls Try.prog 36 #[.agg #[.slice A h.c.length c, .int .i64 h.keep], .int .i64 most] w fun e w' => e = .returned (.bool (mayB h most)) ∧ Below w.heap.size w w' := by
  obtain ⟨W1, hW1⟩ : ∃ W1, W1 = w.alloc (.cells #[.slice A h.c.length c, .int .i64 h.keep] 24) := ⟨_, rfl⟩
  have HB0 := Aside0.mk (show Below w.heap.size w W1 by rw [hW1]; exact below_alloc (Below.refl _ _) _)
  have HBH := Aside0.mk (show W1.heap[w.heap.size]? = some (.cells #[.slice A h.c.length c, .int .i64 h.keep] 24) by rw [hW1]; exact blk_new w _)
  have HSW := Aside0.mk (fun (W : World) (hb : Below W1.heap.size W1 W) => small_walk A c h most W (Kd.C_below (Kd.C_below hr HB0.out) hb))
  have HRW := Aside0.mk (fun (W : World) (hb : Below W1.heap.size W1 W) => right05_walk A c h W (Kd.C_below (Kd.C_below hr HB0.out) hb))
  have hmay : mayB h most = (smallB h most && rightB h) := rfl
  rw [hmay]
  have b0 := (blk_cell HBH.out 0).trans (show _ = some (Value.slice A h.c.length c) from rfl)
  have b1 := (blk_cell HBH.out 1).trans (show _ = some (Value.int .i64 h.keep) from rfl)
  have hW1' := Aside0.mk hW1
  clear hr hmay hW1
  generalize smallB h most = s at HSW ⊢
  cases s with
  | false =>
    go_enter Try.func36, Try.ntmps36
    go_upto_region 1 with (fail)
    rw [← hW1'.out]
    go_wp2_with (first | (go_at_call 65; (with_reducible refine (HSW.out _ (by repeat (first | (with_reducible exact Below.refl _ _) | (with_reducible refine below_alloc ?_ _) | (with_reducible refine below_drew1 ?_) | (with_reducible refine pw_below_drewN ?_ _) | fail))).mono ?_); rintro e w2 ⟨rfl, hb2⟩; have HB2 := Aside0.mk hb2; clear hb2) | fail)
    go_ret
    exact ⟨rfl, below_step HB0.out HB2.out⟩
  | true =>
    go_enter Try.func36, Try.ntmps36
    go_upto_region 1 with (fail)
    rw [← hW1'.out]
    go_wp2_with (first | (go_at_call 65; (with_reducible refine (HSW.out _ (by repeat (first | (with_reducible exact Below.refl _ _) | (with_reducible refine below_alloc ?_ _) | (with_reducible refine below_drew1 ?_) | (with_reducible refine pw_below_drewN ?_ _) | fail))).mono ?_); rintro e w2 ⟨rfl, hb2⟩; have HB2 := Aside0.mk hb2; have d0 := bcell hb2 b0; have d1 := bcell hb2 b1; clear hb2) | (go_at_call 66; (with_reducible refine (HRW.out _ HB2.out).mono ?_); rintro e w3 ⟨rfl, hb3⟩; have HB3 := Aside0.mk (below_step HB2.out hb3); clear hb3) | fail)
    go_ret
    exact ⟨by simp, below_step HB0.out HB3.out⟩
end Go.Proofs.Ytopkoganfnabgaa.H
namespace Go.Proofs.Ytopkoganfnabgaa.H
open Go.RowKit Go.Proofs.YtopkoganfnabgaaW.PrintWords Go.Proofs.YtopkoganfnabgaaW.PrintLast Go.Proofs.YtopkoganfnabgaaW.PrintMore
attribute [local go_sem] max2_int min2_int max_two min_two max_three min_three max_four min_four
set_option linter.unusedVariables false
set_option linter.unusedSimpArgs false
/-- What Put finds. -/
structure PuSt (w W1 : World) (A : Option Addr) (c : Nat) (h : Hp) : Prop where
  b0 : Below w.heap.size w W1
  hh : W1.heap[w.heap.size]? = some (.cells #[.slice A h.c.length c, .int .i64 h.keep] 24 (0, 0))
  hr : W1.heap[w.heap.size + 1]? = some (.cells #[.slice none 0 0, .int .i64 0] 24 (0, 0))
  cl : kCl.C W1 A h.c.length h.c ∧ h.c.length ≤ c
theorem pust (w : World) (A : Option Addr) (c : Nat) (h : Hp) (hr : kCl.C w A h.c.length h.c) (hcc : h.c.length ≤ c) : PuSt w ((w.alloc (.cells #[.slice A h.c.length c, .int .i64 h.keep] 24)).alloc (.cells #[.slice none 0 0, .int .i64 0] 24)) A c h :=
  ⟨below_alloc (below_alloc (Below.refl _ _) _) _, blk_alloc (blk_new w _) _, blk2 w _ _, Kd.C_alloc (Kd.C_alloc hr _) _, hcc⟩
theorem PuSt.step {w W1 W2 : World} {A : Option Addr} {c : Nat} {h : Hp} (s : PuSt w W1 A c h) (hb : Below W1.heap.size W1 W2) : PuSt w W2 A c h := ⟨below_step s.b0 hb, blk_below s.hh hb, blk_below s.hr hb, Kd.C_below s.cl.1 hb, s.cl.2⟩
/-- The result is the given heap. -/
theorem PuSt.same {w W1 : World} {A : Option Addr} {c : Nat} {h : Hp} (s : PuSt w W1 A c h) : kCl.C ((W1.setCell ⟨w.heap.size + 1, 0, none⟩ (.slice A h.c.length c)).setCell ⟨w.heap.size + 1, 1, none⟩ (.int .i64 h.keep)) A h.c.length h.c ∧ Below w.heap.size w ((W1.setCell ⟨w.heap.size + 1, 0, none⟩ (.slice A h.c.length c)).setCell ⟨w.heap.size + 1, 1, none⟩ (.int .i64 h.keep)) :=
  ⟨cl_store s.cl.1 s.hr, below_set (below_set s.b0 (by omega)) (by omega)⟩
set_option maxHeartbeats 4000000 in
set_option maxRecDepth 100000 in
theorem putArg_walk (A : Option Addr) (c : Nat) (h : Hp) (root key val : Int) (deep : Bool) (n : Nat) (w : World) (hr : kCl.C w A h.c.length h.c) (hcc : h.c.length ≤ c) (hhi : highO 21 h root = some n) (hbad : (!fitsB key || !fitsB val) = true) :
    Calls Try.prog 13 #[.agg #[.slice A h.c.length c, .int .i64 h.keep], .int .i64 root, .int .i64 key, .int .i64 val, .bool deep] w fun e w' => ∃ B cb, e = .returned (.tuple #[.agg #[.slice B h.c.length cb, .int .i64 h.keep], .int .i64 root, .int .i64 1]) ∧ h.c.length ≤ cb ∧ kCl.C w' B h.c.length h.c ∧ Below w.heap.size w w' := by
  (obtain ⟨W1, hW1⟩ : ∃ W1, W1 = (w.alloc (.cells #[.slice A h.c.length c, .int .i64 h.keep] 24)).alloc (.cells #[.slice none 0 0, .int .i64 0] 24) := ⟨_, rfl⟩; have S1 := Aside0.mk (show PuSt w W1 A c h by (rw [hW1]; exact pust w A c h hr hcc)); have c0 := (blk_cell S1.out.hh 0).trans (show _ = some (Value.slice A h.c.length c) from rfl); have c1 := (blk_cell S1.out.hh 1).trans (show _ = some (Value.int .i64 h.keep) from rfl); have HHI := Aside0.mk (fun (W : World) (hb : Below W1.heap.size W1 W) => high_walk 21 A c h root n W (by decide) (Kd.C_below S1.out.cl.1 hb) hhi); have hW1' := Aside0.mk hW1; have HN := Aside0.mk (show n ≤ 1000 by have := highO_le 21 h root n hhi; omega); clear hr hcc hW1 hhi)
  have HFK := Aside0.mk (fun W => growFits_walk key W)
  have HFV := Aside0.mk (fun W => growFits_walk val W)
  obtain ⟨k1, hk1⟩ : ∃ k1, k1 = fitsB key := ⟨_, rfl⟩
  obtain ⟨k2, hk2⟩ : ∃ k2, k2 = fitsB val := ⟨_, rfl⟩
  rw [← hk1] at HFK hbad
  rw [← hk2] at HFV hbad
  clear hk1 hk2
  cases k1 with
  | false =>
    clear hbad
    go_enter Try.func13, Try.ntmps13
    go_upto_region 1 with (fail)
    rw [← hW1'.out]
    go_upto_region 3 with (first | (go_at_call 38; (with_reducible refine (HHI.out _ (by repeat (first | (with_reducible exact Below.refl _ _) | (with_reducible refine below_alloc ?_ _) | (with_reducible refine below_drew1 ?_) | (with_reducible refine pw_below_drewN ?_ _) | (with_reducible exact Below.refl _ _)))).mono ?_); rintro e w2 ⟨rfl, hb2⟩; have HB2 := Aside0.mk hb2; have d0 := bcell hb2 c0; have d1 := bcell hb2 c1; clear hb2) | (go_at_call 39; (with_reducible refine (HFK.out _).mono ?_); rintro e wk ⟨rfl, rfl⟩) | fail)
    have S2 := Aside0.mk (S1.out.step HB2.out)
    have e0 := (blk_cell S2.out.hr 0).trans (show _ = some (Value.slice none 0 0) from rfl)
    have e1 := (blk_cell S2.out.hr 1).trans (show _ = some (Value.int .i64 0) from rfl)
    have f0 := blk_frozen S2.out.hr 0
    have f1 := blk_frozen S2.out.hr 1
    go_wp2
    refine bodyPost_ret (results_ctt rfl _ _ (w.heap.size + 1) 24 #[.slice A h.c.length c, .int .i64 h.keep] (0, 0) _ rfl (hb_store S2.out.hr) Try.underlying24 rfl (by kernel_rfl)) rfl ?_
    exact ⟨A, c, rfl, S2.out.cl.2, S2.out.same.1, S2.out.same.2⟩
  | true =>
    obtain rfl : k2 = false := by simpa using hbad
    clear hbad
    go_enter Try.func13, Try.ntmps13
    go_upto_region 1 with (fail)
    rw [← hW1'.out]
    go_upto_region 3 with (first | (go_at_call 38; (with_reducible refine (HHI.out _ (by repeat (first | (with_reducible exact Below.refl _ _) | (with_reducible refine below_alloc ?_ _) | (with_reducible refine below_drew1 ?_) | (with_reducible refine pw_below_drewN ?_ _) | (with_reducible exact Below.refl _ _)))).mono ?_); rintro e w2 ⟨rfl, hb2⟩; have HB2 := Aside0.mk hb2; have d0 := bcell hb2 c0; have d1 := bcell hb2 c1; clear hb2) | (go_at_call 39; (with_reducible refine (HFK.out _).mono ?_); rintro e wk ⟨rfl, rfl⟩) | (go_at_call 39; (with_reducible refine (HFV.out _).mono ?_); rintro e wv ⟨rfl, rfl⟩) | fail)
    have S2 := Aside0.mk (S1.out.step HB2.out)
    have e0 := (blk_cell S2.out.hr 0).trans (show _ = some (Value.slice none 0 0) from rfl)
    have e1 := (blk_cell S2.out.hr 1).trans (show _ = some (Value.int .i64 0) from rfl)
    have f0 := blk_frozen S2.out.hr 0
    have f1 := blk_frozen S2.out.hr 1
    go_wp2
    refine bodyPost_ret (results_ctt rfl _ _ (w.heap.size + 1) 24 #[.slice A h.c.length c, .int .i64 h.keep] (0, 0) _ rfl (hb_store S2.out.hr) Try.underlying24 rfl (by kernel_rfl)) rfl ?_
    exact ⟨A, c, rfl, S2.out.cl.2, S2.out.same.1, S2.out.same.2⟩
set_option maxHeartbeats 4000000 in
set_option maxRecDepth 100000 in
theorem putFull_walk (A : Option Addr) (c : Nat) (h : Hp) (root key val : Int) (deep : Bool) (n : Nat) (w : World) (hr : kCl.C w A h.c.length h.c) (hcc : h.c.length ≤ c) (hhi : highO 21 h root = some n) (hk : fitsB key = true) (hv : fitsB val = true) (hbad : (decide (n = 20) || !fitsH h (2 * (n : Int) + 1) deep) = true) :
    Calls Try.prog 13 #[.agg #[.slice A h.c.length c, .int .i64 h.keep], .int .i64 root, .int .i64 key, .int .i64 val, .bool deep] w fun e w' => ∃ B cb, e = .returned (.tuple #[.agg #[.slice B h.c.length cb, .int .i64 h.keep], .int .i64 root, .int .i64 3]) ∧ h.c.length ≤ cb ∧ kCl.C w' B h.c.length h.c ∧ Below w.heap.size w w' := by
  (obtain ⟨W1, hW1⟩ : ∃ W1, W1 = (w.alloc (.cells #[.slice A h.c.length c, .int .i64 h.keep] 24)).alloc (.cells #[.slice none 0 0, .int .i64 0] 24) := ⟨_, rfl⟩; have S1 := Aside0.mk (show PuSt w W1 A c h by (rw [hW1]; exact pust w A c h hr hcc)); have c0 := (blk_cell S1.out.hh 0).trans (show _ = some (Value.slice A h.c.length c) from rfl); have c1 := (blk_cell S1.out.hh 1).trans (show _ = some (Value.int .i64 h.keep) from rfl); have HHI := Aside0.mk (fun (W : World) (hb : Below W1.heap.size W1 W) => high_walk 21 A c h root n W (by decide) (Kd.C_below S1.out.cl.1 hb) hhi); have hW1' := Aside0.mk hW1; have HN := Aside0.mk (show n ≤ 1000 by have := highO_le 21 h root n hhi; omega); clear hr hcc hW1 hhi)
  have HFK := Aside0.mk (fun W => growFits_walk key W)
  have HFV := Aside0.mk (fun W => growFits_walk val W)
  rw [hk] at HFK
  rw [hv] at HFV
  clear hk hv
  by_cases h20 : n = 20
  · have q0 : ((n : Int) == 20) = true := beq_iff_eq.mpr (by omega)
    have q1 : (n == 20) = true := beq_iff_eq.mpr h20
    clear hbad h20
    go_enter Try.func13, Try.ntmps13
    go_upto_region 1 with (fail)
    rw [← hW1'.out]
    go_upto_region 4 with (first | (go_at_call 38; (with_reducible refine (HHI.out _ (by repeat (first | (with_reducible exact Below.refl _ _) | (with_reducible refine below_alloc ?_ _) | (with_reducible refine below_drew1 ?_) | (with_reducible refine pw_below_drewN ?_ _) | (with_reducible exact Below.refl _ _)))).mono ?_); rintro e w2 ⟨rfl, hb2⟩; have HB2 := Aside0.mk hb2; have d0 := bcell hb2 c0; have d1 := bcell hb2 c1; clear hb2) | (go_at_call 39; (with_reducible refine (HFK.out _).mono ?_); rintro e wk ⟨rfl, rfl⟩) | (go_at_call 39; (with_reducible refine (HFV.out _).mono ?_); rintro e wv ⟨rfl, rfl⟩) | fail)
    go_quiet (fail)
    obtain ⟨w3, hw3⟩ : ∃ w3, w3 = w2.drewN nq := ⟨_, rfl⟩
    have S2 := Aside0.mk (S1.out.step (show Below W1.heap.size W1 w3 by rw [hw3]; exact pw_below_drewN HB2.out nq))
    rw [← hw3]
    have g0 := (blk_cell S2.out.hh 0).trans (show _ = some (Value.slice A h.c.length c) from rfl)
    have g1 := (blk_cell S2.out.hh 1).trans (show _ = some (Value.int .i64 h.keep) from rfl)
    have e0 := (blk_cell S2.out.hr 0).trans (show _ = some (Value.slice none 0 0) from rfl)
    have e1 := (blk_cell S2.out.hr 1).trans (show _ = some (Value.int .i64 0) from rfl)
    have f0 := blk_frozen S2.out.hr 0
    have f1 := blk_frozen S2.out.hr 1
    clear hw3 d0 d1
    go_wp2
    refine bodyPost_ret (results_ctt rfl _ _ (w.heap.size + 1) 24 #[.slice A h.c.length c, .int .i64 h.keep] (0, 0) _ rfl (hb_store S2.out.hr) Try.underlying24 rfl (by kernel_rfl)) rfl ?_
    exact ⟨A, c, rfl, S2.out.cl.2, S2.out.same.1, S2.out.same.2⟩
  · have q0 : ((n : Int) == 20) = false := beq_eq_false_iff_ne.mpr (by omega)
    have q1 : (n == 20) = false := beq_eq_false_iff_ne.mpr h20
    rw [decide_eq_false h20, Bool.false_or] at hbad
    have hff : fitsH h (2 * (n : Int) + 1) deep = false := by simpa using hbad
    have HFT0 := Aside0.mk (fun (W : World) (hb : Below W1.heap.size W1 W) => fits_walk A c h (2 * (n : Int) + 1) deep W (Kd.C_below S1.out.cl.1 hb))
    rw [hff] at HFT0
    clear hbad h20 hff
    go_enter Try.func13, Try.ntmps13
    go_upto_region 1 with (fail)
    rw [← hW1'.out]
    go_upto_region 4 with (first | (go_at_call 38; (with_reducible refine (HHI.out _ (by repeat (first | (with_reducible exact Below.refl _ _) | (with_reducible refine below_alloc ?_ _) | (with_reducible refine below_drew1 ?_) | (with_reducible refine pw_below_drewN ?_ _) | (with_reducible exact Below.refl _ _)))).mono ?_); rintro e w2 ⟨rfl, hb2⟩; have HB2 := Aside0.mk hb2; have d0 := bcell hb2 c0; have d1 := bcell hb2 c1; clear hb2) | (go_at_call 39; (with_reducible refine (HFK.out _).mono ?_); rintro e wk ⟨rfl, rfl⟩) | (go_at_call 39; (with_reducible refine (HFV.out _).mono ?_); rintro e wv ⟨rfl, rfl⟩) | fail)
    have HFT := Aside0.mk (fun (W : World) (hb : Below w2.heap.size w2 W) => HFT0.out W (below_step HB2.out hb))
    go_region_held3 (fun w' => w'.cell? ⟨w.heap.size, 0, none⟩ = some (.slice A h.c.length c) ∧ w'.cell? ⟨w.heap.size, 1, none⟩ = some (.int .i64 h.keep)) (first | exact ⟨d0, d1⟩ | exact ⟨bcell HB3.out d0, bcell HB3.out d1⟩ | exact (fun (h : Below w2.heap.size w2 _) => ⟨bcell h d0, bcell h d1⟩) (by repeat (first | (with_reducible exact Below.refl _ _) | (with_reducible refine below_alloc ?_ _) | (with_reducible refine below_drew1 ?_) | (with_reducible refine pw_below_drewN ?_ _) | (with_reducible exact HB3.out)))) (first | (go_at_call 41; (with_reducible refine (need_walk n _ HN.out).mono ?_); rintro e wn ⟨rfl, rfl⟩) | (go_at_call 40; (with_reducible refine (HFT.out _ (by repeat (first | (with_reducible exact Below.refl _ _) | (with_reducible refine below_alloc ?_ _) | (with_reducible refine below_drew1 ?_) | (with_reducible refine pw_below_drewN ?_ _) | (with_reducible exact Below.refl _ _)))).mono ?_); rintro e w3 ⟨rfl, hb3⟩; have HB3 := Aside0.mk (show Below w2.heap.size w2 w3 from below_step (by repeat (first | (with_reducible exact Below.refl _ _) | (with_reducible refine below_alloc ?_ _) | (with_reducible refine below_drew1 ?_) | (with_reducible refine pw_below_drewN ?_ _) | fail)) hb3); clear hb3) | fail)
    all_goals
      have S2 := Aside0.mk (S1.out.step (below_step HB2.out HB3.out))
      have g0 := (blk_cell S2.out.hh 0).trans (show _ = some (Value.slice A h.c.length c) from rfl)
      have g1 := (blk_cell S2.out.hh 1).trans (show _ = some (Value.int .i64 h.keep) from rfl)
      have e0 := (blk_cell S2.out.hr 0).trans (show _ = some (Value.slice none 0 0) from rfl)
      have e1 := (blk_cell S2.out.hr 1).trans (show _ = some (Value.int .i64 0) from rfl)
      have f0 := blk_frozen S2.out.hr 0
      have f1 := blk_frozen S2.out.hr 1
      clear d0 d1
      go_wp2
      refine bodyPost_ret (results_ctt rfl _ _ (w.heap.size + 1) 24 #[.slice A h.c.length c, .int .i64 h.keep] (0, 0) _ rfl (hb_store S2.out.hr) Try.underlying24 rfl (by kernel_rfl)) rfl ?_
      exact ⟨A, c, rfl, S2.out.cl.2, S2.out.same.1, S2.out.same.2⟩
end Go.Proofs.Ytopkoganfnabgaa.H
namespace Go.Proofs.Ytopkoganfnabgaa.H
open Go.RowKit Go.Proofs.YtopkoganfnabgaaW.PrintWords Go.Proofs.YtopkoganfnabgaaW.PrintLast Go.Proofs.YtopkoganfnabgaaW.PrintMore
attribute [local go_sem] max2_int min2_int max_two min_two max_three min_three max_four min_four
set_option linter.unusedVariables false
set_option linter.unusedSimpArgs false
end Go.Proofs.Ytopkoganfnabgaa.H
namespace Go.Proofs.Ytopkoganfnabgaa.H
open Go.RowKit Go.Proofs.YtopkoganfnabgaaW.PrintWords Go.Proofs.YtopkoganfnabgaaW.PrintLast Go.Proofs.YtopkoganfnabgaaW.PrintMore
attribute [local go_sem] max2_int min2_int max_two min_two max_three min_three max_four min_four
set_option linter.unusedVariables false
set_option linter.unusedSimpArgs false
theorem allocO_len {h h' : Hp} {n : Nd} {held : List Int} {p er : Int} (e : allocO h n held = some (h', p, er)) : h'.c.length = h.c.length ∧ h.c.length ≤ 2000 := by
  unfold allocO at e
  split at e
  · rename_i hl
    split at e
    · split at e
      · split at e
        · simp only [Option.some.injEq, Prod.mk.injEq] at e
          obtain ⟨rfl, _, _⟩ := e
          refine ⟨?_, hl⟩
          unfold setH
          rw [List.length_set]
          split
          · rfl
          · exact holdL_len held n.it h
        · simp only [Option.some.injEq, Prod.mk.injEq] at e
          obtain ⟨rfl, _, _⟩ := e
          exact ⟨rfl, hl⟩
      · cases e
    · simp only [Option.some.injEq, Prod.mk.injEq] at e
      obtain ⟨rfl, _, _⟩ := e
      exact ⟨rfl, hl⟩
  · cases e
set_option maxHeartbeats 4000000 in
set_option maxRecDepth 100000 in
theorem putNew_walk (A : Option Addr) (c : Nat) (h g : Hp) (root key val p : Int) (deep : Bool) (n : Nat) (w : World) (hr : kCl.C w A h.c.length h.c) (hcc : h.c.length ≤ c) (hhi : highO 21 h root = some n) (hk : fitsB key = true) (hv : fitsB val = true) (h20 : ¬ n = 20) (hff : fitsH h (2 * (n : Int) + 1) deep = true) (hro : root < 0)
    (e : allocO h ⟨true, [⟨key, val⟩]⟩ [] = some (g, p, 0)) :
    Calls Try.prog 13 #[.agg #[.slice A h.c.length c, .int .i64 h.keep], .int .i64 root, .int .i64 key, .int .i64 val, .bool deep] w fun e w' => ∃ B cb, e = .returned (.tuple #[.agg #[.slice B g.c.length cb, .int .i64 g.keep], .int .i64 p, .int .i64 0]) ∧ g.c.length ≤ cb ∧ kCl.C w' B g.c.length g.c ∧ Below w.heap.size w w' := by
  (obtain ⟨W1, hW1⟩ : ∃ W1, W1 = (w.alloc (.cells #[.slice A h.c.length c, .int .i64 h.keep] 24)).alloc (.cells #[.slice none 0 0, .int .i64 0] 24) := ⟨_, rfl⟩; have S1 := Aside0.mk (show PuSt w W1 A c h by (rw [hW1]; exact pust w A c h hr hcc)); have c0 := (blk_cell S1.out.hh 0).trans (show _ = some (Value.slice A h.c.length c) from rfl); have c1 := (blk_cell S1.out.hh 1).trans (show _ = some (Value.int .i64 h.keep) from rfl); have HHI := Aside0.mk (fun (W : World) (hb : Below W1.heap.size W1 W) => high_walk 21 A c h root n W (by decide) (Kd.C_below S1.out.cl.1 hb) hhi); have hW1' := Aside0.mk hW1; have HN := Aside0.mk (show n ≤ 1000 by have := highO_le 21 h root n hhi; omega); clear hr hcc hW1 hhi; have HFK := Aside0.mk (fun W => growFits_walk key W); have HFV := Aside0.mk (fun W => growFits_walk val W); rw [hk] at HFK; rw [hv] at HFV; have q0 : ((n : Int) == 20) = false := beq_eq_false_iff_ne.mpr (by omega); have q1 : (n == 20) = false := beq_eq_false_iff_ne.mpr h20; have HFT0 := Aside0.mk (fun (W : World) (hb : Below W1.heap.size W1 W) => fits_walk A c h (2 * (n : Int) + 1) deep W (Kd.C_below S1.out.cl.1 hb)); rw [hff] at HFT0; clear hk hv h20 hff)
  have hlen := allocO_len e
  have HE := Aside0.mk e
  have HLEN := Aside0.mk (show g.c.length ≤ 2000 by omega)
  have r1 : decide (root < 0) = true := decide_eq_true hro
  have HST := Aside0.mk (fun (k : Int) => show settledO 0 g p root = some (g, p, 0) by unfold settledO; rw [if_neg (by omega)])
  clear e hlen hro
  (go_enter Try.func13, Try.ntmps13; go_upto_region 1 with (fail); rw [← hW1'.out]; go_upto_region 4 with (first | (go_at_call 38; (with_reducible refine (HHI.out _ (by repeat (first | (with_reducible exact Below.refl _ _) | (with_reducible refine below_alloc ?_ _) | (with_reducible refine below_drew1 ?_) | (with_reducible refine pw_below_drewN ?_ _) | (with_reducible exact Below.refl _ _)))).mono ?_); rintro e w2 ⟨rfl, hb2⟩; have HB2 := Aside0.mk hb2; have d0 := bcell hb2 c0; have d1 := bcell hb2 c1; clear hb2) | (go_at_call 39; (with_reducible refine (HFK.out _).mono ?_); rintro e wk ⟨rfl, rfl⟩) | (go_at_call 39; (with_reducible refine (HFV.out _).mono ?_); rintro e wv ⟨rfl, rfl⟩) | fail); have HFT := Aside0.mk (fun (W : World) (hb : Below w2.heap.size w2 W) => HFT0.out W (below_step HB2.out hb)); go_cut [34] from 35 to 44 (fun v34 wc => v34 = .bool false ∧ Aside0 (Below W1.heap.size W1 wc)))
  case first => (go_region_held3 (fun w' => w'.cell? ⟨w.heap.size, 0, none⟩ = some (.slice A h.c.length c) ∧ w'.cell? ⟨w.heap.size, 1, none⟩ = some (.int .i64 h.keep)) (first | exact ⟨d0, d1⟩ | exact ⟨bcell HB3.out d0, bcell HB3.out d1⟩ | exact (fun (h : Below w2.heap.size w2 _) => ⟨bcell h d0, bcell h d1⟩) (by repeat (first | (with_reducible exact Below.refl _ _) | (with_reducible refine below_alloc ?_ _) | (with_reducible refine below_drew1 ?_) | (with_reducible refine pw_below_drewN ?_ _) | (with_reducible exact HB3.out)))) (first | (go_at_call 41; (with_reducible refine (need_walk n _ HN.out).mono ?_); rintro e wn ⟨rfl, rfl⟩) | (go_at_call 40; (with_reducible refine (HFT.out _ (by repeat (first | (with_reducible exact Below.refl _ _) | (with_reducible refine below_alloc ?_ _) | (with_reducible refine below_drew1 ?_) | (with_reducible refine pw_below_drewN ?_ _) | (with_reducible exact Below.refl _ _)))).mono ?_); rintro e w3 ⟨rfl, hb3⟩; have HB3 := Aside0.mk (show Below w2.heap.size w2 w3 from below_step (by repeat (first | (with_reducible exact Below.refl _ _) | (with_reducible refine below_alloc ?_ _) | (with_reducible refine below_drew1 ?_) | (with_reducible refine pw_below_drewN ?_ _) | fail)) hb3); clear hb3) | fail); all_goals (go_wp2; go_meet; case rel => exact ⟨rfl, ⟨below_step HB2.out HB3.out⟩⟩))
  case rest =>
    (obtain ⟨rfl, HBc⟩ := hcut; have Sc := Aside0.mk (S1.out.step HBc.out); have g0 := (blk_cell Sc.out.hh 0).trans (show _ = some (Value.slice A h.c.length c) from rfl); have g1 := (blk_cell Sc.out.hh 1).trans (show _ = some (Value.int .i64 h.keep) from rfl); clear c0 c1 d0 d1; obtain ⟨W4, hW4⟩ : ∃ W4, W4 = (wc.alloc (.cells #[.slice A h.c.length c, .int .i64 h.keep] 86)).alloc (.cells #[.int .i64 key, .int .i64 val] 26) := ⟨_, rfl⟩; have hb4 : Below wc.heap.size wc W4 := (by rw [hW4]; exact below_alloc (below_alloc (Below.refl _ _) _) _); have S4 := Aside0.mk (Sc.out.step hb4); have HBD := Aside0.mk (show W4.heap[wc.heap.size]? = some (.cells #[.slice A h.c.length c, .int .i64 h.keep] 86) by (rw [hW4]; exact blk_alloc (blk_new wc _) _)); have HIT := Aside0.mk (show W4.heap[wc.heap.size + 1]? = some (.cells #[.int .i64 key, .int .i64 val] 26) by (rw [hW4]; exact blk2 wc _ _)); have hW4' := Aside0.mk hW4; have HWC := Aside0.mk (show w.heap.size + 1 < wc.heap.size from blk_lt Sc.out.hr); clear hW4 hb4; go_upto_region 7 with (fail); rw [← hW4'.out]; have k0 := (blk_cell HIT.out 0).trans (show _ = some (Value.int .i64 key) from rfl); have k1 := (blk_cell HIT.out 1).trans (show _ = some (Value.int .i64 val) from rfl); clear g0 g1)
    have hlay0 := (growLay_walk A (some ⟨W4.heap.size, 0, none⟩) none c 1 0 wc.heap.size h g true ⟨key, val⟩ [] [] p 0 (W4.alloc (.cells #[.int .i64 key, .int .i64 val] 26)) (W4.alloc (.cells #[.int .i64 key, .int .i64 val] 26)) (blk_alloc HBD.out _) (Kd.C_alloc S4.out.cl.1 _) (Below.refl _ _) S4.out.cl.2 (one_it W4 ⟨key, val⟩) (Nat.le_refl _) (Kd.C_nil _ _) HE.out)
    simp only [List.length_cons, List.length_nil, Nat.zero_add] at hlay0
    have HLAY := Aside0.mk hlay0
    clear hlay0
    go_wp2_with (first | (go_at_call 43; (with_reducible refine HLAY.out.mono ?_); rintro e w6 ⟨rfl, ⟨A6, c6, hb6, hc6, hl6⟩, hk6, hs6⟩; have HH6 := Aside0.mk (And.intro hb6 (And.intro hc6 hl6)); have HK6 := Aside0.mk (And.intro hk6 hs6); clear hb6 hc6 hl6 hk6 hs6) | (go_at_call 42; (with_reducible refine (growSettled_walk 0 A6 c6 wc.heap.size g g key p root p 0 w6 HH6.out.1 HH6.out.2.2.now HLEN.out HH6.out.2.1 (HST.out 0)).mono ?_); rintro e w7 ⟨B7, c7, rfl, hc7, hr7, hk7, hs7⟩; have HR7 := Aside0.mk (And.intro hc7 hr7); have HK7 := Aside0.mk (show KeepBut W4 w7 wc.heap.size none ∧ S3 W4 w7 from ⟨keep_trans (keep_al (KeepBut.refl _ _ _) _) (keep_trans HK6.out.1 hk7), S3.trans (S3.below (below_alloc (Below.refl W4.heap.size W4) _)) (S3.trans HK6.out.2 hs7)⟩); have HB7 := Aside0.mk (keep_below S4.out.b0 HK7.out.1 HK7.out.2 (by have := HWC.out; omega)); have HX7 := Aside0.mk (show w7.heap[w.heap.size + 1]? = some (.cells #[.slice none 0 0, .int .i64 0] 24) from (HK7.out.1.2 _ (blk_lt S4.out.hr) (by have := HWC.out; omega) (by simp)).trans S4.out.hr); have e0 := (blk_cell HX7.out 0).trans (show _ = some (Value.slice none 0 0) from rfl); have e1 := (blk_cell HX7.out 1).trans (show _ = some (Value.int .i64 0) from rfl); have f0 := blk_frozen HX7.out 0; have f1 := blk_frozen HX7.out 1; clear hc7 hr7 hk7 hs7) | fail)
    refine bodyPost_ret (results_ctt rfl _ _ (w.heap.size + 1) 24 #[.slice B7 g.c.length c7, .int .i64 g.keep] (0, 0) _ rfl (hb_store HX7.out) Try.underlying24 rfl (by kernel_rfl)) rfl ?_
    exact ⟨B7, c7, rfl, HR7.out.1, cl_store HR7.out.2 HX7.out, below_set (below_set HB7.out (by omega)) (by omega)⟩
end Go.Proofs.Ytopkoganfnabgaa.H
namespace Go.Proofs.Ytopkoganfnabgaa.H
open Go.RowKit Go.Proofs.YtopkoganfnabgaaW.PrintWords Go.Proofs.YtopkoganfnabgaaW.PrintLast Go.Proofs.YtopkoganfnabgaaW.PrintMore
attribute [local go_sem] max2_int min2_int max_two min_two max_three min_three max_four min_four
set_option linter.unusedVariables false
set_option linter.unusedSimpArgs false
end Go.Proofs.Ytopkoganfnabgaa.H
namespace Go.Proofs.Ytopkoganfnabgaa.H
open Go.RowKit Go.Proofs.YtopkoganfnabgaaW.PrintWords Go.Proofs.YtopkoganfnabgaaW.PrintLast Go.Proofs.YtopkoganfnabgaaW.PrintMore
attribute [local go_sem] max2_int min2_int max_two min_two max_three min_three max_four min_four
set_option linter.unusedVariables false
set_option linter.unusedSimpArgs false
end Go.Proofs.Ytopkoganfnabgaa.H
namespace Go.Proofs.Ytopkoganfnabgaa.H
open Go.RowKit Go.Proofs.YtopkoganfnabgaaW.PrintWords Go.Proofs.YtopkoganfnabgaaW.PrintLast Go.Proofs.YtopkoganfnabgaaW.PrintMore
attribute [local go_sem] max2_int min2_int max_two min_two max_three min_three max_four min_four
set_option linter.unusedVariables false
set_option linter.unusedSimpArgs false
theorem layO_len {lf : Bool} {held : List Int} : ∀ (rows : List (List It)) (h g : Hp) (l : List It), layO h lf held rows = some (g, l) → g.c.length = h.c.length ∧ l.length = rows.length ∧ (l ≠ [] → h.c.length ≤ 2000)
  | [], h, g, l, e => by
    unfold layO at e
    simp only [Option.some.injEq, Prod.mk.injEq] at e
    obtain ⟨rfl, rfl⟩ := e
    exact ⟨rfl, rfl, fun h => absurd rfl h⟩
  | [] :: _, h, g, l, e => by unfold layO at e; cases e
  | (x :: s) :: rows, h, g, l, e => by
    obtain ⟨g1, p, er, l1, h1, h2, rfl⟩ := layO_inv e
    obtain ⟨e1, e2, e3⟩ := layO_len rows g1 g l1 h2
    obtain ⟨a1, a2⟩ := allocO_len h1
    exact ⟨e1.trans a1, by simp [e2], fun _ => a2⟩
theorem anewO_len {f : Nat} {h g : Hp} {p : Int} {x : It} {made : List It} (e : anewO f h p x = some (g, made)) : made.length ≤ 2 ∧ (made ≠ [] → g.c.length ≤ 2000) := by
  cases f with
  | zero => simp [anewO] at e
  | succ f =>
    obtain ⟨_, i, is, h1, more, gone, held, l1, rows, _, _, _, _, hs, hl⟩ := anewO_inv e
    obtain ⟨e1, e2, e3⟩ := layO_len rows h1 g made hl
    exact ⟨by rw [e2]; exact splitO_len hs, fun hne => by rw [e1]; exact e3 hne⟩
set_option maxHeartbeats 4000000 in
set_option maxRecDepth 100000 in
theorem putOne_walk (A : Option Addr) (c : Nat) (h g h' : Hp) (root key val p er : Int) (deep : Bool) (n f : Nat) (y : It) (w : World) (hr : kCl.C w A h.c.length h.c) (hcc : h.c.length ≤ c) (hhi : highO 21 h root = some n) (hk : fitsB key = true) (hv : fitsB val = true) (h20 : ¬ n = 20) (hff : fitsH h (2 * (n : Int) + 1) deep = true) (hro : ¬ root < 0)
    (e : anewO 20 h root ⟨key, val⟩ = some (g, [y])) (es : settledO f g y.v root = some (h', p, er)) :
    Calls Try.prog 13 #[.agg #[.slice A h.c.length c, .int .i64 h.keep], .int .i64 root, .int .i64 key, .int .i64 val, .bool deep] w fun e w' => ∃ B cb, e = .returned (.tuple #[.agg #[.slice B h'.c.length cb, .int .i64 h'.keep], .int .i64 p, .int .i64 er]) ∧ h'.c.length ≤ cb ∧ kCl.C w' B h'.c.length h'.c ∧ Below w.heap.size w w' := by
  (obtain ⟨W1, hW1⟩ : ∃ W1, W1 = (w.alloc (.cells #[.slice A h.c.length c, .int .i64 h.keep] 24)).alloc (.cells #[.slice none 0 0, .int .i64 0] 24) := ⟨_, rfl⟩; have S1 := Aside0.mk (show PuSt w W1 A c h by (rw [hW1]; exact pust w A c h hr hcc)); have c0 := (blk_cell S1.out.hh 0).trans (show _ = some (Value.slice A h.c.length c) from rfl); have c1 := (blk_cell S1.out.hh 1).trans (show _ = some (Value.int .i64 h.keep) from rfl); have HHI := Aside0.mk (fun (W : World) (hb : Below W1.heap.size W1 W) => high_walk 21 A c h root n W (by decide) (Kd.C_below S1.out.cl.1 hb) hhi); have hW1' := Aside0.mk hW1; have HN := Aside0.mk (show n ≤ 1000 by have := highO_le 21 h root n hhi; omega); clear hr hcc hW1 hhi; have HFK := Aside0.mk (fun W => growFits_walk key W); have HFV := Aside0.mk (fun W => growFits_walk val W); rw [hk] at HFK; rw [hv] at HFV; have q0 : ((n : Int) == 20) = false := beq_eq_false_iff_ne.mpr (by omega); have q1 : (n == 20) = false := beq_eq_false_iff_ne.mpr h20; have HFT0 := Aside0.mk (fun (W : World) (hb : Below W1.heap.size W1 W) => fits_walk A c h (2 * (n : Int) + 1) deep W (Kd.C_below S1.out.cl.1 hb)); rw [hff] at HFT0; clear hk hv h20 hff)
  obtain ⟨made, hmade⟩ : ∃ made, made = [y] := ⟨_, rfl⟩
  rw [← hmade] at e
  have hlen := (anewO_len e).2 (by rw [hmade]; simp)
  have HE := Aside0.mk e
  have HES := Aside0.mk es
  have HLEN := Aside0.mk hlen
  have HML := Aside0.mk (show 0 < made.length ∧ itAt made 0 = y by rw [hmade]; exact ⟨by simp, rfl⟩)
  have r1 : decide (root < 0) = false := decide_eq_false hro
  have r2 : ((made.length : Int) == 1) = true := by rw [hmade]; rfl
  have r3 : (made.length == 1) = true := by rw [hmade]; rfl
  have r4 : (0 < made.length) = True := eq_true HML.out.1
  have r5 : ((0 : Int) < (made.length : Int)) = True := eq_true (by have := HML.out.1; omega)
  clear e es hlen hro hmade
  (go_enter Try.func13, Try.ntmps13; go_upto_region 1 with (fail); rw [← hW1'.out]; go_upto_region 4 with (first | (go_at_call 38; (with_reducible refine (HHI.out _ (by repeat (first | (with_reducible exact Below.refl _ _) | (with_reducible refine below_alloc ?_ _) | (with_reducible refine below_drew1 ?_) | (with_reducible refine pw_below_drewN ?_ _) | (with_reducible exact Below.refl _ _)))).mono ?_); rintro e w2 ⟨rfl, hb2⟩; have HB2 := Aside0.mk hb2; have d0 := bcell hb2 c0; have d1 := bcell hb2 c1; clear hb2) | (go_at_call 39; (with_reducible refine (HFK.out _).mono ?_); rintro e wk ⟨rfl, rfl⟩) | (go_at_call 39; (with_reducible refine (HFV.out _).mono ?_); rintro e wv ⟨rfl, rfl⟩) | fail); have HFT := Aside0.mk (fun (W : World) (hb : Below w2.heap.size w2 W) => HFT0.out W (below_step HB2.out hb)); go_cut [34] from 35 to 44 (fun v34 wc => v34 = .bool false ∧ Aside0 (Below W1.heap.size W1 wc)))
  case first => (go_region_held3 (fun w' => w'.cell? ⟨w.heap.size, 0, none⟩ = some (.slice A h.c.length c) ∧ w'.cell? ⟨w.heap.size, 1, none⟩ = some (.int .i64 h.keep)) (first | exact ⟨d0, d1⟩ | exact ⟨bcell HB3.out d0, bcell HB3.out d1⟩ | exact (fun (h : Below w2.heap.size w2 _) => ⟨bcell h d0, bcell h d1⟩) (by repeat (first | (with_reducible exact Below.refl _ _) | (with_reducible refine below_alloc ?_ _) | (with_reducible refine below_drew1 ?_) | (with_reducible refine pw_below_drewN ?_ _) | (with_reducible exact HB3.out)))) (first | (go_at_call 41; (with_reducible refine (need_walk n _ HN.out).mono ?_); rintro e wn ⟨rfl, rfl⟩) | (go_at_call 40; (with_reducible refine (HFT.out _ (by repeat (first | (with_reducible exact Below.refl _ _) | (with_reducible refine below_alloc ?_ _) | (with_reducible refine below_drew1 ?_) | (with_reducible refine pw_below_drewN ?_ _) | (with_reducible exact Below.refl _ _)))).mono ?_); rintro e w3 ⟨rfl, hb3⟩; have HB3 := Aside0.mk (show Below w2.heap.size w2 w3 from below_step (by repeat (first | (with_reducible exact Below.refl _ _) | (with_reducible refine below_alloc ?_ _) | (with_reducible refine below_drew1 ?_) | (with_reducible refine pw_below_drewN ?_ _) | fail)) hb3); clear hb3) | fail); all_goals (go_wp2; go_meet; case rel => exact ⟨rfl, ⟨below_step HB2.out HB3.out⟩⟩))
  case rest =>
    (obtain ⟨rfl, HBc⟩ := hcut; have Sc := Aside0.mk (S1.out.step HBc.out); have g0 := (blk_cell Sc.out.hh 0).trans (show _ = some (Value.slice A h.c.length c) from rfl); have g1 := (blk_cell Sc.out.hh 1).trans (show _ = some (Value.int .i64 h.keep) from rfl); clear c0 c1 d0 d1; obtain ⟨W4, hW4⟩ : ∃ W4, W4 = (wc.alloc (.cells #[.slice A h.c.length c, .int .i64 h.keep] 86)).alloc (.cells #[.int .i64 key, .int .i64 val] 26) := ⟨_, rfl⟩; have hb4 : Below wc.heap.size wc W4 := (by rw [hW4]; exact below_alloc (below_alloc (Below.refl _ _) _) _); have S4 := Aside0.mk (Sc.out.step hb4); have HBD := Aside0.mk (show W4.heap[wc.heap.size]? = some (.cells #[.slice A h.c.length c, .int .i64 h.keep] 86) by (rw [hW4]; exact blk_alloc (blk_new wc _) _)); have HIT := Aside0.mk (show W4.heap[wc.heap.size + 1]? = some (.cells #[.int .i64 key, .int .i64 val] 26) by (rw [hW4]; exact blk2 wc _ _)); have hW4' := Aside0.mk hW4; have HWC := Aside0.mk (show w.heap.size + 1 < wc.heap.size from blk_lt Sc.out.hr); clear hW4 hb4; go_upto_region 7 with (fail); rw [← hW4'.out]; have k0 := (blk_cell HIT.out 0).trans (show _ = some (Value.int .i64 key) from rfl); have k1 := (blk_cell HIT.out 1).trans (show _ = some (Value.int .i64 val) from rfl); clear g0 g1)
    have HAN := Aside0.mk (growAnew_walk 20 A c wc.heap.size h g root ⟨key, val⟩ made W4 HBD.out S4.out.cl.1 S4.out.cl.2 HE.out)
    go_wp2_with (first | (go_at_call 44; (with_reducible refine HAN.out.mono ?_); rintro e w6 ⟨⟨M, cm, rfl, hcm, hM⟩, ⟨A6, c6, hb6, hc6, hl6⟩, hk6, hs6⟩; have HM := Aside0.mk (And.intro hcm hM); obtain ⟨ad6, rfl, z0, z1⟩ := at_it0 hM HML.out.1; rw [HML.out.2] at z0 z1; have HH6 := Aside0.mk (And.intro hb6 (And.intro hc6 hl6)); have HK6 := Aside0.mk (And.intro hk6 hs6); have t0 := (blk_cell hb6 0).trans (show _ = some (Value.slice A6 g.c.length c6) from rfl); have t1 := (blk_cell hb6 1).trans (show _ = some (Value.int .i64 g.keep) from rfl); have f8 := blk_frozen hb6 0; have f9 := blk_frozen hb6 1; clear hcm hM hb6 hc6 hl6 hk6 hs6) | (go_at_call 42; (with_reducible refine (growSettled_walk f A6 c6 wc.heap.size g h' y.k y.v root p er w6 HH6.out.1 HH6.out.2.2 HLEN.out HH6.out.2.1 HES.out).mono ?_); rintro e w7 ⟨B7, c7, rfl, hc7, hr7, hk7, hs7⟩; have HR7 := Aside0.mk (And.intro hc7 hr7); have HK7 := Aside0.mk (show KeepBut W4 w7 wc.heap.size none ∧ S3 W4 w7 from ⟨keep_trans HK6.out.1 hk7, S3.trans HK6.out.2 hs7⟩); (have HB7 := Aside0.mk (keep_below S4.out.b0 HK7.out.1 HK7.out.2 (by have := HWC.out; omega)); have HX7 := Aside0.mk (show w7.heap[w.heap.size + 1]? = some (.cells #[.slice none 0 0, .int .i64 0] 24) from (HK7.out.1.2 _ (blk_lt S4.out.hr) (by have := HWC.out; omega) (by simp)).trans S4.out.hr); have e0 := (blk_cell HX7.out 0).trans (show _ = some (Value.slice none 0 0) from rfl); have e1 := (blk_cell HX7.out 1).trans (show _ = some (Value.int .i64 0) from rfl); have f0 := blk_frozen HX7.out 0; have f1 := blk_frozen HX7.out 1; clear hc7 hr7 hk7 hs7)) | fail)
    refine bodyPost_ret (results_ctt rfl _ _ (w.heap.size + 1) 24 #[.slice B7 h'.c.length c7, .int .i64 h'.keep] (0, 0) _ rfl (hb_store HX7.out) Try.underlying24 rfl (by kernel_rfl)) rfl ?_
    exact ⟨B7, c7, rfl, HR7.out.1, cl_store HR7.out.2 HX7.out, below_set (below_set HB7.out (by omega)) (by omega)⟩
set_option maxHeartbeats 4000000 in
set_option maxRecDepth 100000 in
theorem putOver_walk (A : Option Addr) (c : Nat) (h g g2 h' : Hp) (root key val p p2 er er2 : Int) (deep : Bool) (n f : Nat) (y z : It) (r : List It) (w : World) (hr : kCl.C w A h.c.length h.c) (hcc : h.c.length ≤ c) (hhi : highO 21 h root = some n) (hk : fitsB key = true) (hv : fitsB val = true) (h20 : ¬ n = 20) (hff : fitsH h (2 * (n : Int) + 1) deep = true) (hro : ¬ root < 0)
    (e : anewO 20 h root ⟨key, val⟩ = some (g, y :: z :: r)) (eo : overO g (y :: z :: r) = some (g2, p2, er2)) (es : settledO f g2 p2 root = some (h', p, er)) :
    Calls Try.prog 13 #[.agg #[.slice A h.c.length c, .int .i64 h.keep], .int .i64 root, .int .i64 key, .int .i64 val, .bool deep] w fun e w' => ∃ B cb, e = .returned (.tuple #[.agg #[.slice B h'.c.length cb, .int .i64 h'.keep], .int .i64 p, .int .i64 er]) ∧ h'.c.length ≤ cb ∧ kCl.C w' B h'.c.length h'.c ∧ Below w.heap.size w w' := by
  (obtain ⟨W1, hW1⟩ : ∃ W1, W1 = (w.alloc (.cells #[.slice A h.c.length c, .int .i64 h.keep] 24)).alloc (.cells #[.slice none 0 0, .int .i64 0] 24) := ⟨_, rfl⟩; have S1 := Aside0.mk (show PuSt w W1 A c h by (rw [hW1]; exact pust w A c h hr hcc)); have c0 := (blk_cell S1.out.hh 0).trans (show _ = some (Value.slice A h.c.length c) from rfl); have c1 := (blk_cell S1.out.hh 1).trans (show _ = some (Value.int .i64 h.keep) from rfl); have HHI := Aside0.mk (fun (W : World) (hb : Below W1.heap.size W1 W) => high_walk 21 A c h root n W (by decide) (Kd.C_below S1.out.cl.1 hb) hhi); have hW1' := Aside0.mk hW1; have HN := Aside0.mk (show n ≤ 1000 by have := highO_le 21 h root n hhi; omega); clear hr hcc hW1 hhi; have HFK := Aside0.mk (fun W => growFits_walk key W); have HFV := Aside0.mk (fun W => growFits_walk val W); rw [hk] at HFK; rw [hv] at HFV; have q0 : ((n : Int) == 20) = false := beq_eq_false_iff_ne.mpr (by omega); have q1 : (n == 20) = false := beq_eq_false_iff_ne.mpr h20; have HFT0 := Aside0.mk (fun (W : World) (hb : Below W1.heap.size W1 W) => fits_walk A c h (2 * (n : Int) + 1) deep W (Kd.C_below S1.out.cl.1 hb)); rw [hff] at HFT0; clear hk hv h20 hff)
  obtain ⟨made, hmade⟩ : ∃ made, made = y :: z :: r := ⟨_, rfl⟩
  rw [← hmade] at e eo
  have hlen := (anewO_len e).2 (by rw [hmade]; simp)
  have hlen2 : g2.c.length = g.c.length := (allocO_len eo).1
  have HE := Aside0.mk e
  have HEO := Aside0.mk eo
  have HES := Aside0.mk es
  have HLEN := Aside0.mk (show g2.c.length ≤ 2000 by omega)
  have HMD := Aside0.mk (show made.length ≤ 1000 by have := (anewO_len e).1; omega)
  have HML := Aside0.mk (show 0 < made.length ∧ itAt made 0 = y by rw [hmade]; exact ⟨by simp, rfl⟩)
  have r1 : decide (root < 0) = false := decide_eq_false hro
  have r2 : ((made.length : Int) == 1) = false := by rw [hmade]; exact beq_eq_false_iff_ne.mpr (by simp; omega)
  have r3 : (made.length == 1) = false := by rw [hmade]; exact beq_eq_false_iff_ne.mpr (by simp)
  clear e eo es hlen hlen2 hro hmade
  (go_enter Try.func13, Try.ntmps13; go_upto_region 1 with (fail); rw [← hW1'.out]; go_upto_region 4 with (first | (go_at_call 38; (with_reducible refine (HHI.out _ (by repeat (first | (with_reducible exact Below.refl _ _) | (with_reducible refine below_alloc ?_ _) | (with_reducible refine below_drew1 ?_) | (with_reducible refine pw_below_drewN ?_ _) | (with_reducible exact Below.refl _ _)))).mono ?_); rintro e w2 ⟨rfl, hb2⟩; have HB2 := Aside0.mk hb2; have d0 := bcell hb2 c0; have d1 := bcell hb2 c1; clear hb2) | (go_at_call 39; (with_reducible refine (HFK.out _).mono ?_); rintro e wk ⟨rfl, rfl⟩) | (go_at_call 39; (with_reducible refine (HFV.out _).mono ?_); rintro e wv ⟨rfl, rfl⟩) | fail); have HFT := Aside0.mk (fun (W : World) (hb : Below w2.heap.size w2 W) => HFT0.out W (below_step HB2.out hb)); go_cut [34] from 35 to 44 (fun v34 wc => v34 = .bool false ∧ Aside0 (Below W1.heap.size W1 wc)))
  case first => (go_region_held3 (fun w' => w'.cell? ⟨w.heap.size, 0, none⟩ = some (.slice A h.c.length c) ∧ w'.cell? ⟨w.heap.size, 1, none⟩ = some (.int .i64 h.keep)) (first | exact ⟨d0, d1⟩ | exact ⟨bcell HB3.out d0, bcell HB3.out d1⟩ | exact (fun (h : Below w2.heap.size w2 _) => ⟨bcell h d0, bcell h d1⟩) (by repeat (first | (with_reducible exact Below.refl _ _) | (with_reducible refine below_alloc ?_ _) | (with_reducible refine below_drew1 ?_) | (with_reducible refine pw_below_drewN ?_ _) | (with_reducible exact HB3.out)))) (first | (go_at_call 41; (with_reducible refine (need_walk n _ HN.out).mono ?_); rintro e wn ⟨rfl, rfl⟩) | (go_at_call 40; (with_reducible refine (HFT.out _ (by repeat (first | (with_reducible exact Below.refl _ _) | (with_reducible refine below_alloc ?_ _) | (with_reducible refine below_drew1 ?_) | (with_reducible refine pw_below_drewN ?_ _) | (with_reducible exact Below.refl _ _)))).mono ?_); rintro e w3 ⟨rfl, hb3⟩; have HB3 := Aside0.mk (show Below w2.heap.size w2 w3 from below_step (by repeat (first | (with_reducible exact Below.refl _ _) | (with_reducible refine below_alloc ?_ _) | (with_reducible refine below_drew1 ?_) | (with_reducible refine pw_below_drewN ?_ _) | fail)) hb3); clear hb3) | fail); all_goals (go_wp2; go_meet; case rel => exact ⟨rfl, ⟨below_step HB2.out HB3.out⟩⟩))
  case rest =>
    (obtain ⟨rfl, HBc⟩ := hcut; have Sc := Aside0.mk (S1.out.step HBc.out); have g0 := (blk_cell Sc.out.hh 0).trans (show _ = some (Value.slice A h.c.length c) from rfl); have g1 := (blk_cell Sc.out.hh 1).trans (show _ = some (Value.int .i64 h.keep) from rfl); clear c0 c1 d0 d1; obtain ⟨W4, hW4⟩ : ∃ W4, W4 = (wc.alloc (.cells #[.slice A h.c.length c, .int .i64 h.keep] 86)).alloc (.cells #[.int .i64 key, .int .i64 val] 26) := ⟨_, rfl⟩; have hb4 : Below wc.heap.size wc W4 := (by rw [hW4]; exact below_alloc (below_alloc (Below.refl _ _) _) _); have S4 := Aside0.mk (Sc.out.step hb4); have HBD := Aside0.mk (show W4.heap[wc.heap.size]? = some (.cells #[.slice A h.c.length c, .int .i64 h.keep] 86) by (rw [hW4]; exact blk_alloc (blk_new wc _) _)); have HIT := Aside0.mk (show W4.heap[wc.heap.size + 1]? = some (.cells #[.int .i64 key, .int .i64 val] 26) by (rw [hW4]; exact blk2 wc _ _)); have hW4' := Aside0.mk hW4; have HWC := Aside0.mk (show w.heap.size + 1 < wc.heap.size from blk_lt Sc.out.hr); clear hW4 hb4; go_upto_region 7 with (fail); rw [← hW4'.out]; have k0 := (blk_cell HIT.out 0).trans (show _ = some (Value.int .i64 key) from rfl); have k1 := (blk_cell HIT.out 1).trans (show _ = some (Value.int .i64 val) from rfl); clear g0 g1)
    have HAN := Aside0.mk (growAnew_walk 20 A c wc.heap.size h g root ⟨key, val⟩ made W4 HBD.out S4.out.cl.1 S4.out.cl.2 HE.out)
    go_upto_region 13 with (first | (go_at_call 44; (with_reducible refine HAN.out.mono ?_); rintro e w6 ⟨⟨M, cm, rfl, hcm, hM⟩, ⟨A6, c6, hb6, hc6, hl6⟩, hk6, hs6⟩; have HM := Aside0.mk (And.intro hcm hM); obtain ⟨ad6, rfl, z0, z1⟩ := at_it0 hM HML.out.1; rw [HML.out.2] at z0 z1; have HH6 := Aside0.mk (And.intro hb6 (And.intro hc6 hl6)); have HK6 := Aside0.mk (And.intro hk6 hs6); have t0 := (blk_cell hb6 0).trans (show _ = some (Value.slice A6 g.c.length c6) from rfl); have t1 := (blk_cell hb6 1).trans (show _ = some (Value.int .i64 g.keep) from rfl); have f8 := blk_frozen hb6 0; have f9 := blk_frozen hb6 1; clear hcm hM hb6 hc6 hl6 hk6 hs6) | (go_at_call 15; (with_reducible refine (growOver_walk A6 (some ad6) c6 cm g g2 made p2 er2 w6 HH6.out.2.2 HH6.out.2.1 HM.out.2 HM.out.1 HMD.out HEO.out).mono ?_); rintro e w7 ⟨A8, c8, rfl, hc8, hr8, hb8⟩; have HR8 := Aside0.mk (And.intro hc8 hr8); have HB8 := Aside0.mk hb8; clear hc8 hr8 hb8) | fail)
    obtain ⟨W8, hW8⟩ : ∃ W8, W8 = w7.alloc (.cells #[.slice A8 g2.c.length c8, .int .i64 g2.keep] 24) := ⟨_, rfl⟩
    have hb68 : Below w6.heap.size w6 W8 := by rw [hW8]; exact below_alloc HB8.out _
    have HB68 := Aside0.mk hb68
    have HV8 := Aside0.mk (show W8.heap[w7.heap.size]? = some (.cells #[.slice A8 g2.c.length c8, .int .i64 g2.keep] 24) by rw [hW8]; exact blk_new w7 _)
    have HC8 := Aside0.mk (show kCl.C W8 A8 g2.c.length g2.c by rw [hW8]; exact Kd.C_alloc HR8.out.2 _)
    have HBD8 := Aside0.mk (blk_below HH6.out.1 hb68)
    have v0 := (blk_cell HV8.out 0).trans (show _ = some (Value.slice A8 g2.c.length c8) from rfl)
    have v1 := (blk_cell HV8.out 1).trans (show _ = some (Value.int .i64 g2.keep) from rfl)
    have v2 := (blk_cell HBD8.out 0).trans (show _ = some (Value.slice A6 g.c.length c6) from rfl)
    have v3 := (blk_cell HBD8.out 1).trans (show _ = some (Value.int .i64 g.keep) from rfl)
    have j8 := blk_frozen HBD8.out 0
    have j9 := blk_frozen HBD8.out 1
    obtain ⟨W9, hW9⟩ : ∃ W9, W9 = ((W8.setCell ⟨wc.heap.size, 0, none⟩ (.slice A8 g2.c.length c8)).setCell ⟨wc.heap.size, 1, none⟩ (.int .i64 g2.keep)) := ⟨_, rfl⟩
    have HBD9 := Aside0.mk (show W9.heap[wc.heap.size]? = some (.cells #[.slice A8 g2.c.length c8, .int .i64 g2.keep] 86) by rw [hW9]; exact hb_store HBD8.out)
    have HC9 := Aside0.mk (show kCl.C W9 A8 g2.c.length g2.c by rw [hW9]; exact cl_store HC8.out HBD8.out)
    have HK9 := Aside0.mk (show KeepBut W4 W9 wc.heap.size none ∧ S3 W4 W9 by rw [hW9]; exact ⟨keep_trans HK6.out.1 (keep_trans (KeepBut.of_below hb68 _ none) (((KeepBut.refl W8 _ none).set_ 0 _).set_ 1 _)), S3.set (S3.set (S3.trans HK6.out.2 (S3.below hb68)) _ _) _ _⟩)
    have hW8' := Aside0.mk hW8
    have hW9' := Aside0.mk hW9
    clear hW8 hW9 hb68 t0 t1 f8 f9 z0 z1
    rw [← hW8'.out]
    go_upto_region 14 with (fail)
    rw [← hW9'.out]
    clear v0 v1 v2 v3 j8 j9
    go_wp2_with (first | (go_at_call 42; (with_reducible refine (growSettled_walk f A8 c8 wc.heap.size g2 h' 0 p2 root p er W9 HBD9.out HC9.out HLEN.out HR8.out.1 HES.out).mono ?_); rintro e w7 ⟨B7, c7, rfl, hc7, hr7, hk7, hs7⟩; have HR7 := Aside0.mk (And.intro hc7 hr7); have HK7 := Aside0.mk (show KeepBut W4 w7 wc.heap.size none ∧ S3 W4 w7 from ⟨keep_trans HK9.out.1 hk7, S3.trans HK9.out.2 hs7⟩); (have HB7 := Aside0.mk (keep_below S4.out.b0 HK7.out.1 HK7.out.2 (by have := HWC.out; omega)); have HX7 := Aside0.mk (show w7.heap[w.heap.size + 1]? = some (.cells #[.slice none 0 0, .int .i64 0] 24) from (HK7.out.1.2 _ (blk_lt S4.out.hr) (by have := HWC.out; omega) (by simp)).trans S4.out.hr); have e0 := (blk_cell HX7.out 0).trans (show _ = some (Value.slice none 0 0) from rfl); have e1 := (blk_cell HX7.out 1).trans (show _ = some (Value.int .i64 0) from rfl); have f0 := blk_frozen HX7.out 0; have f1 := blk_frozen HX7.out 1; clear hc7 hr7 hk7 hs7)) | fail)
    refine bodyPost_ret (results_ctt rfl _ _ (w.heap.size + 1) 24 #[.slice B7 h'.c.length c7, .int .i64 h'.keep] (0, 0) _ rfl (hb_store HX7.out) Try.underlying24 rfl (by kernel_rfl)) rfl ?_
    exact ⟨B7, c7, rfl, HR7.out.1, cl_store HR7.out.2 HX7.out, below_set (below_set HB7.out (by omega)) (by omega)⟩
/-- grow.Put. -/
theorem growPut_walk (A : Option Addr) (c : Nat) (h h' : Hp) (root key val p er : Int) (deep : Bool) (f : Nat) (w : World) (hr : kCl.C w A h.c.length h.c) (hcc : h.c.length ≤ c) (e : putO f h root key val deep = some (h', p, er)) :
    Calls Try.prog 13 #[.agg #[.slice A h.c.length c, .int .i64 h.keep], .int .i64 root, .int .i64 key, .int .i64 val, .bool deep] w fun e w' => ∃ B cb, e = .returned (.tuple #[.agg #[.slice B h'.c.length cb, .int .i64 h'.keep], .int .i64 p, .int .i64 er]) ∧ h'.c.length ≤ cb ∧ kCl.C w' B h'.c.length h'.c ∧ Below w.heap.size w w' := by
  unfold putO at e
  simp only [Option.bind_eq_bind, Option.bind_eq_some_iff] at e
  obtain ⟨n, hhi, e⟩ := e
  by_cases hbad : (!fitsB key || !fitsB val) = true
  · rw [if_pos hbad] at e
    simp only [Option.some.injEq, Prod.mk.injEq] at e
    obtain ⟨rfl, rfl, rfl⟩ := e
    exact putArg_walk A c h root key val deep n w hr hcc hhi hbad
  rw [if_neg hbad] at e
  have hkv : fitsB key = true ∧ fitsB val = true := by
    cases h1 : fitsB key <;> cases h2 : fitsB val <;> simp [h1, h2] at hbad ⊢
  by_cases hfull : (decide (n = 20) || !fitsH h (2 * (n : Int) + 1) deep) = true
  · rw [if_pos hfull] at e
    simp only [Option.some.injEq, Prod.mk.injEq] at e
    obtain ⟨rfl, rfl, rfl⟩ := e
    exact putFull_walk A c h root key val deep n w hr hcc hhi hkv.1 hkv.2 hfull
  rw [if_neg hfull] at e
  have hnf : ¬ n = 20 ∧ fitsH h (2 * (n : Int) + 1) deep = true := by
    cases h2 : fitsH h (2 * (n : Int) + 1) deep <;> simp [h2] at hfull ⊢
    exact hfull
  by_cases hro : root < 0
  · rw [if_pos hro] at e
    simp only [Option.bind_eq_some_iff] at e
    obtain ⟨⟨g, q, er2⟩, ha, e⟩ := e
    simp only at e
    split at e
    · rename_i h0
      subst h0
      simp only [Option.some.injEq, Prod.mk.injEq] at e
      obtain ⟨rfl, rfl, rfl⟩ := e
      exact putNew_walk A c h g root key val q deep n w hr hcc hhi hkv.1 hkv.2 hnf.1 hnf.2 hro ha
    · cases e
  · rw [if_neg hro] at e
    simp only [Option.bind_eq_some_iff] at e
    obtain ⟨⟨g, made⟩, ha, e⟩ := e
    rcases made with _ | ⟨y, _ | ⟨z, r⟩⟩
    · cases e
    · exact putOne_walk A c h g h' root key val p er deep n f y w hr hcc hhi hkv.1 hkv.2 hnf.1 hnf.2 hro ha e
    · simp only [Option.bind_eq_some_iff] at e
      obtain ⟨⟨g2, p2, er2⟩, ho, e⟩ := e
      exact putOver_walk A c h g g2 h' root key val p p2 er er2 deep n f y z r w hr hcc hhi hkv.1 hkv.2 hnf.1 hnf.2 hro ha ho e
end Go.Proofs.Ytopkoganfnabgaa.H
namespace Go.Proofs.Ytopkoganfnabgaa.H
open Go.RowKit Go.Proofs.YtopkoganfnabgaaW.PrintWords Go.Proofs.YtopkoganfnabgaaW.PrintLast Go.Proofs.YtopkoganfnabgaaW.PrintMore
attribute [local go_sem] max2_int min2_int max_two min_two max_three min_three max_four min_four
set_option linter.unusedVariables false
set_option linter.unusedSimpArgs false
end Go.Proofs.Ytopkoganfnabgaa.H
namespace Go.Proofs.Ytopkoganfnabgaa.H
open Go.RowKit Go.Proofs.YtopkoganfnabgaaW.PrintWords Go.Proofs.YtopkoganfnabgaaW.PrintLast Go.Proofs.YtopkoganfnabgaaW.PrintMore
attribute [local go_sem] max2_int min2_int max_two min_two max_three min_three max_four min_four
set_option linter.unusedVariables false
set_option linter.unusedSimpArgs false
end Go.Proofs.Ytopkoganfnabgaa.H
namespace Go.Proofs.Ytopkoganfnabgaa.H
open Go.RowKit Go.Proofs.YtopkoganfnabgaaW.PrintWords Go.Proofs.YtopkoganfnabgaaW.PrintLast Go.Proofs.YtopkoganfnabgaaW.PrintMore
attribute [local go_sem] max2_int min2_int max_two min_two max_three min_three max_four min_four
set_option linter.unusedVariables false
set_option linter.unusedSimpArgs false
theorem fillO_inv {f : Nat} {h h' : Hp} {root p er : Int} {x : It} {l : List It} (e : fillO f h root (x :: l) = some (h', p, er)) :
    ∃ g q e1, putO f h root x.k x.v false = some (g, q, e1) ∧ ((e1 = 0 ∧ fillO f g q l = some (h', p, er)) ∨ (e1 ≠ 0 ∧ h' = h ∧ p = root ∧ er = e1)) := by
  unfold fillO at e
  simp only [Option.bind_eq_bind, Option.bind_eq_some_iff] at e
  obtain ⟨⟨g, q, e1⟩, h1, e⟩ := e
  refine ⟨g, q, e1, h1, ?_⟩
  simp only at e
  split at e
  · rename_i h0; exact Or.inl ⟨h0, e⟩
  · rename_i h0
    simp only [Option.some.injEq, Prod.mk.injEq] at e
    exact Or.inr ⟨h0, e.1.symm, e.2.1.symm, e.2.2.symm⟩
set_option maxHeartbeats 4000000 in
set_option maxRecDepth 100000 in
/-- grow.Fill. -/
theorem growFill_walk (A B : Option Addr) (c cb f : Nat) (h h' : Hp) (root p er : Int) (l : List It) (w : World) (hr : kCl.C w A h.c.length h.c) (hcc : h.c.length ≤ c) (hn : kIt.C w B l.length l) (e : fillO f h root l = some (h', p, er)) :
    Calls Try.prog 19 #[.agg #[.slice A h.c.length c, .int .i64 h.keep], .int .i64 root, .slice B l.length cb] w fun e w' => ∃ B' cb', e = .returned (.tuple #[.agg #[.slice B' h'.c.length cb', .int .i64 h'.keep], .int .i64 p, .int .i64 er]) ∧ h'.c.length ≤ cb' ∧ kCl.C w' B' h'.c.length h'.c ∧ Below w.heap.size w w' := by
  have hm := Kd.C_max hn
  obtain ⟨W1, hW1⟩ : ∃ W1, W1 = (w.alloc (.cells #[.slice A h.c.length c, .int .i64 h.keep] 24)).alloc (.cells #[.slice none 0 0, .int .i64 0] 24) := ⟨_, rfl⟩
  have S1 := Aside0.mk (show PuSt w W1 A c h by rw [hW1]; exact pust w A c h hr hcc)
  have HNR := Aside0.mk hn
  have HE := Aside0.mk e
  have hW1' := Aside0.mk hW1
  clear hW1 hr hcc hn e
  go_enter Try.func19, Try.ntmps19
  go_wp2
  rw [← hW1'.out]
  go_loopg [1, 16] l.length (fun g s1 s16 wr => ∃ (k : Nat) (hk : Hp) (rk : Int) (A' : Option Addr) (c' : Nat), s16 = .int .i64 k ∧ s1 = .int .i64 rk ∧ k + g = l.length ∧ Aside0 (fillO f hk rk (l.drop k) = some (h', p, er)) ∧ Aside0 (wr.heap[w.heap.size]? = some (.cells #[.slice A' hk.c.length c', .int .i64 hk.keep] 24 (0, 0))) ∧ Aside0 (hk.c.length ≤ c' ∧ kCl.C wr A' hk.c.length hk.c) ∧ Aside0 (wr.heap[w.heap.size + 1]? = some (.cells #[.slice none 0 0, .int .i64 0] 24 (0, 0))) ∧ Aside0 (Below w.heap.size w wr))
  case atStart => exact ⟨0, h, root, A, c, rfl, rfl, by omega, ⟨by rw [List.drop_zero]; exact HE.out⟩, ⟨S1.out.hh⟩, ⟨S1.out.cl.2, S1.out.cl.1⟩, ⟨S1.out.hr⟩, ⟨S1.out.b0⟩⟩
  case round =>
    obtain ⟨k, hk, rk, A', c', rfl, rfl, hkk, HF, HH, HC, HZ, HB⟩ := hrel
    have b0 := (blk_cell HH.out 0).trans (show _ = some (Value.slice A' hk.c.length c') from rfl)
    have b1 := (blk_cell HH.out 1).trans (show _ = some (Value.int .i64 hk.keep) from rfl)
    by_cases hlt : k < l.length
    · obtain ⟨g1, rfl⟩ : ∃ g1, gk = g1 + 1 := ⟨gk - 1, by omega⟩
      have r1 : decide (k < l.length) = true := decide_eq_true hlt
      have r2 : (k < l.length) = True := eq_true hlt
      obtain ⟨ad, rfl, x0, x1⟩ := at_it (Kd.C_below HNR.out HB.out) k hlt
      have hf := HF.out
      rw [drop_succ zIt l k hlt] at hf
      obtain ⟨x, hx⟩ : ∃ x, x = itAt l k := ⟨_, rfl⟩
      rw [show l.getD k zIt = x from hx.symm] at hf
      rw [← hx] at x0 x1
      obtain ⟨g, q, e1, hput, hcase⟩ := fillO_inv hf
      have b2 := al1 (o := .cells #[.int .i64 x.k, .int .i64 x.v] 26) b0
      have b3 := al1 (o := .cells #[.int .i64 x.k, .int .i64 x.v] 26) b1
      have HPU := Aside0.mk (fun (W : World) (hb : Below wr.heap.size wr W) => growPut_walk A' c' hk g rk x.k x.v q e1 false f W (Kd.C_below HC.out.2 hb) HC.out.1 hput)
      have HK := Aside0.mk (And.intro hlt hkk)
      have HW := Aside0.mk (show wrap64 ((k : Int) + 1) = ((k + 1 : Nat) : Int) by unfold wrap64; omega)
      rcases hcase with ⟨h0, hrest⟩ | ⟨h0, eh, ep, ee⟩
      · subst h0
        have HRE := Aside0.mk hrest
        clear hf hx hlt hkk hput hrest
        go_upto_region 7 with (first | (go_at_call 13; (with_reducible refine (HPU.out _ (by repeat (first | (with_reducible exact Below.refl _ _) | (with_reducible refine below_alloc ?_ _) | (with_reducible refine below_drew1 ?_) | (with_reducible refine pw_below_drewN ?_ _) | (with_reducible exact Below.refl _ _)))).mono ?_); rintro e w2 ⟨B2, c2, rfl, hc2, hr2, hb2⟩; have HB2 := Aside0.mk (show Below wr.heap.size wr w2 from below_step (by repeat (first | (with_reducible exact Below.refl _ _) | (with_reducible refine below_alloc ?_ _) | (with_reducible refine below_drew1 ?_) | (with_reducible refine pw_below_drewN ?_ _) | (with_reducible exact Below.refl _ _))) hb2); have HR2 := Aside0.mk (And.intro hc2 hr2); clear hc2 hr2 hb2; have d0 := (blk_cell (blk_below HH.out HB2.out) 0).trans (show _ = some (Value.slice A' hk.c.length c') from rfl); have d1 := (blk_cell (blk_below HH.out HB2.out) 1).trans (show _ = some (Value.int .i64 hk.keep) from rfl); have d2 := (blk_cell (blk_below HZ.out HB2.out) 0).trans (show _ = some (Value.slice none 0 0) from rfl); have d3 := (blk_cell (blk_below HZ.out HB2.out) 1).trans (show _ = some (Value.int .i64 0) from rfl)) | fail)
        obtain ⟨W3, hW3⟩ : ∃ W3, W3 = w2.alloc (.cells #[.slice B2 g.c.length c2, .int .i64 g.keep] 24) := ⟨_, rfl⟩
        have hbb : Below wr.heap.size wr W3 := by rw [hW3]; exact below_alloc HB2.out _
        have HV3 := Aside0.mk (show W3.heap[w2.heap.size]? = some (.cells #[.slice B2 g.c.length c2, .int .i64 g.keep] 24) by rw [hW3]; exact blk_new w2 _)
        have HC2 := Aside0.mk (show kCl.C W3 B2 g.c.length g.c by rw [hW3]; exact Kd.C_alloc HR2.out.2 _)
        rw [← hW3]
        clear hW3 d0 d1 d2 d3 b0 b1 b2 b3
        have f0 := blk_frozen (blk_below HH.out hbb) 0
        have f1 := blk_frozen (blk_below HH.out hbb) 1
        have d0 := (blk_cell (blk_below HH.out hbb) 0).trans (show _ = some (Value.slice A' hk.c.length c') from rfl)
        have d1 := (blk_cell (blk_below HH.out hbb) 1).trans (show _ = some (Value.int .i64 hk.keep) from rfl)
        have d2 := (blk_cell HV3.out 0).trans (show _ = some (Value.slice B2 g.c.length c2) from rfl)
        have d3 := (blk_cell HV3.out 1).trans (show _ = some (Value.int .i64 g.keep) from rfl)
        have hblk := blk_below HH.out hbb
        have hz := blk_below HZ.out hbb
        have HQ := Aside0.mk (And.intro hblk hz)
        have HB3 := Aside0.mk (below_step HB.out hbb)
        clear hbb hblk hz x0 x1
        go_wp2
        go_roundg g1
        case measure => omega
        case rel => exact ⟨k + 1, g, q, B2, c2, by rw [HW.out], rfl, by have := HK.out.2; omega, HRE, ⟨hb_store HQ.out.1⟩, ⟨HR2.out.1, cl_store HC2.out HQ.out.1⟩, ⟨blk_far (blk_far HQ.out.2 (by show w.heap.size + 1 ≠ w.heap.size; omega) _) (by show w.heap.size + 1 ≠ w.heap.size; omega) _⟩, ⟨below_set (below_set HB3.out (Nat.le_refl _)) (Nat.le_refl _)⟩⟩
      · have q1 := bne_t h0
        have EQ0 := Aside0.mk (And.intro eh (And.intro ep ee))
        clear hf hx hlt hkk hput h0 eh ep ee
        go_upto_region 6 with (first | (go_at_call 13; (with_reducible refine (HPU.out _ (by repeat (first | (with_reducible exact Below.refl _ _) | (with_reducible refine below_alloc ?_ _) | (with_reducible refine below_drew1 ?_) | (with_reducible refine pw_below_drewN ?_ _) | (with_reducible exact Below.refl _ _)))).mono ?_); rintro e w2 ⟨B2, c2, rfl, hc2, hr2, hb2⟩; have HB2 := Aside0.mk (show Below wr.heap.size wr w2 from below_step (by repeat (first | (with_reducible exact Below.refl _ _) | (with_reducible refine below_alloc ?_ _) | (with_reducible refine below_drew1 ?_) | (with_reducible refine pw_below_drewN ?_ _) | (with_reducible exact Below.refl _ _))) hb2); have HR2 := Aside0.mk (And.intro hc2 hr2); clear hc2 hr2 hb2; have d0 := (blk_cell (blk_below HH.out HB2.out) 0).trans (show _ = some (Value.slice A' hk.c.length c') from rfl); have d1 := (blk_cell (blk_below HH.out HB2.out) 1).trans (show _ = some (Value.int .i64 hk.keep) from rfl); have d2 := (blk_cell (blk_below HZ.out HB2.out) 0).trans (show _ = some (Value.slice none 0 0) from rfl); have d3 := (blk_cell (blk_below HZ.out HB2.out) 1).trans (show _ = some (Value.int .i64 0) from rfl)) | fail)
        obtain ⟨W3, hW3⟩ : ∃ W3, W3 = w2.alloc (.cells #[.slice B2 g.c.length c2, .int .i64 g.keep] 24) := ⟨_, rfl⟩
        have hbb : Below wr.heap.size wr W3 := by rw [hW3]; exact below_alloc HB2.out _
        rw [← hW3]
        clear hW3 d0 d1 d2 d3 b0 b1 b2 b3
        have HZ2 := Aside0.mk (blk_below HZ.out hbb)
        have HB3 := Aside0.mk hbb
        have f0 := blk_frozen HZ2.out 0
        have f1 := blk_frozen HZ2.out 1
        have d0 := (blk_cell (blk_below HH.out hbb) 0).trans (show _ = some (Value.slice A' hk.c.length c') from rfl)
        have d1 := (blk_cell (blk_below HH.out hbb) 1).trans (show _ = some (Value.int .i64 hk.keep) from rfl)
        have d2 := (blk_cell HZ2.out 0).trans (show _ = some (Value.slice none 0 0) from rfl)
        have d3 := (blk_cell HZ2.out 1).trans (show _ = some (Value.int .i64 0) from rfl)
        have HEQ := EQ0
        clear hbb
        go_wp2
        refine bodyPost_ret (results_ctt rfl _ _ (w.heap.size + 1) 24 #[.slice A' hk.c.length c', .int .i64 hk.keep] (0, 0) _ rfl (hb_store HZ2.out) Try.underlying24 rfl (by kernel_rfl)) rfl ?_
        rw [HEQ.out.1, HEQ.out.2.1, HEQ.out.2.2]
        exact ⟨A', c', rfl, HC.out.1, cl_store (Kd.C_below HC.out.2 HB3.out) HZ2.out, below_set (below_set (below_step HB.out HB3.out) (by omega)) (by omega)⟩
    · have r1 : decide (k < l.length) = false := decide_eq_false hlt
      have r2 : (k < l.length) = False := eq_false hlt
      have hf := HF.out
      rw [List.drop_eq_nil_of_le (by omega)] at hf
      unfold fillO at hf
      simp only [Option.some.injEq, Prod.mk.injEq] at hf
      obtain ⟨rfl, rfl, rfl⟩ := hf
      have f0 := blk_frozen HZ.out 0
      have f1 := blk_frozen HZ.out 1
      have z0 := (blk_cell HZ.out 0).trans (show _ = some (Value.slice none 0 0) from rfl)
      have z1 := (blk_cell HZ.out 1).trans (show _ = some (Value.int .i64 0) from rfl)
      clear hlt hkk
      go_wp2
      refine bodyPost_ret (results_ctt rfl _ _ (w.heap.size + 1) 24 #[.slice A' hk.c.length c', .int .i64 hk.keep] (0, 0) _ rfl (hb_store HZ.out) Try.underlying24 rfl (by kernel_rfl)) rfl ?_
      exact ⟨A', c', rfl, HC.out.1, cl_store HC.out.2 HZ.out, below_set (below_set HB.out (by omega)) (by omega)⟩
end Go.Proofs.Ytopkoganfnabgaa.H
namespace Go.Proofs.Ytopkoganfnabgaa.H
open Go.RowKit Go.Proofs.YtopkoganfnabgaaW.PrintWords Go.Proofs.YtopkoganfnabgaaW.PrintLast Go.Proofs.YtopkoganfnabgaaW.PrintMore
attribute [local go_sem] max2_int min2_int max_two min_two max_three min_three max_four min_four
set_option linter.unusedVariables false
set_option linter.unusedSimpArgs false
end Go.Proofs.Ytopkoganfnabgaa.H
namespace Go.Proofs.Ytopkoganfnabgaa.H
open Go.RowKit Go.Proofs.YtopkoganfnabgaaW.PrintWords Go.Proofs.YtopkoganfnabgaaW.PrintLast Go.Proofs.YtopkoganfnabgaaW.PrintMore
attribute [local go_sem] max2_int min2_int max_two min_two max_three min_three max_four min_four
set_option linter.unusedVariables false
set_option linter.unusedSimpArgs false
set_option maxHeartbeats 2000000 in
set_option maxRecDepth 100000 in
/-- The reference's New, with nothing kept back. -/
theorem refNew_walk (n : Nat) (w : World) (h1 : 1 ≤ n) (h2 : n ≤ 2000) :
    Calls Try.prog 26 #[.int .i64 (n : Int), .int .i64 0] w fun e w' => ∃ B cb, e = .returned (.tuple #[.agg #[.slice B n cb, .int .i64 0], .int .i64 0]) ∧ n ≤ cb ∧ kCl.C w' B n (List.replicate n zCl) ∧ Below w.heap.size w w' := by
  obtain ⟨W1, hW1⟩ : ∃ W1, W1 = w.alloc (.cells #[.slice none 0 0, .int .i64 0] 24) := ⟨_, rfl⟩
  have HB0 := Aside0.mk (show Below w.heap.size w W1 by rw [hW1]; exact below_alloc (Below.refl _ _) _)
  have HR1 := Aside0.mk (show W1.heap[w.heap.size]? = some (.cells #[.slice none 0 0, .int .i64 0] 24 (0, 0)) by rw [hW1]; exact blk_new w _)
  have q1 : decide ((n : Int) < 1) = false := decide_eq_false (by omega)
  have q2 : decide ((2000 : Int) < (n : Int)) = false := decide_eq_false (by omega)
  have q3 : decide ((n : Int) < 0) = false := decide_eq_false (by omega)
  have q4 : decide (n < 1) = false := decide_eq_false (by omega)
  have q5 : decide (2000 < n) = false := decide_eq_false (by omega)
  have HL := Aside0.mk (And.intro h1 h2)
  have hW1' := Aside0.mk hW1
  clear hW1 h1 h2
  go_enter Try.func26, Try.ntmps26
  go_upto_region 1 with (fail)
  rw [← hW1'.out]
  go_wp2_with (first | ((with_reducible refine gate_dst (N := 23) rfl ?_); refine Kd.R_make kRw w.heap.size 79 rfl (N := 23) rfl 22 _ _ rfl (n : Int) rfl rfl Try.underlying22 (.agg #[.int .i64 0, .bool false, .bool false, .slice none 0 0]) 48 info_cl rfl (by decide) (by decide) zRw (ok := fun _ => True) (okp := fun _ => False) (zrw_M _ _ _) (fun _ h => h.elim) trivial (by omega) (by have := HL.out; rw [Int.toNat_natCast]; omega) HB0.out HB0.out.size ?_; intro v1 w5 ho hb hg hat; rw [Int.toNat_natCast] at ho; obtain ⟨g, cap, hv, hgb, hgl, _⟩ := Kd.R_form ho (by rw [List.length_replicate]; have := HL.out; omega); subst hv; rw [List.length_replicate] at ho ⊢; have HO5 := Aside0.mk ho; have HB5 := Aside0.mk hb; have HBR := Aside0.mk ((hg.block _ (blk_lt HR1.out) (by simp)).trans HR1.out); have e0 := (blk_cell HBR.out 0).trans (show _ = some (Value.slice none 0 0) from rfl); have e1 := (blk_cell HBR.out 1).trans (show _ = some (Value.int .i64 0) from rfl); have f0 := blk_frozen HBR.out 0; have f1 := blk_frozen HBR.out 1; clear ho hb hg hat hgb hgl) | fail)
  refine bodyPost_ret (results_ct rfl _ _ w.heap.size 24 #[.slice (some ⟨g, 0, none⟩) n cap, .int .i64 0] (0, 0) _ rfl (hb_store HBR.out) Try.underlying24 rfl (by kernel_rfl)) rfl ?_
  have h7 := Kd.R_reads' HO5.out
  have hc : CellsC w5 (List.replicate n zRw) (List.replicate n zCl) := ⟨by simp, fun i hi => by
    rw [List.length_replicate] at hi
    rw [List.getD_eq_getElem?_getD, List.getD_eq_getElem?_getD, List.getElem?_replicate, List.getElem?_replicate, if_pos hi, if_pos hi]
    exact ⟨rfl, rfl, rfl, rfl, Nat.le_refl _, Kd.C_nil _ _⟩⟩
  have h8 := h7.2.2
  rw [List.length_replicate] at h8
  have hcl := cl_of_rw h8 hc
  have hcl2 : kCl.C w5 (some ⟨g, 0, none⟩) (List.replicate n zCl).length (List.replicate n zCl) := by rw [List.length_replicate]; exact hcl
  have hst := cl_store (m := n) (c := cap) (Y := some ⟨g, 0, none⟩) (q := 0) hcl HBR.out
  exact ⟨some ⟨g, 0, none⟩, cap, rfl, h7.2.1, hst, below_set (below_set HB5.out (Nat.le_refl _)) (Nat.le_refl _)⟩
end Go.Proofs.Ytopkoganfnabgaa.H
namespace Go.Proofs.Ytopkoganfnabgaa.H
/-- The example of the laws of grow, told by the plain functions. -/
def h20 : Hp := ⟨List.replicate 20 zCl, 0⟩
def l5 : List It := [⟨1, 1⟩, ⟨2, 2⟩, ⟨3, 3⟩, ⟨4, 4⟩, ⟨5, 5⟩]
def shownB : Bool := match fillO 25 h20 (-1) l5 with
  | some (g, r, e) => decide (e = 0) && (decide (r = 6) && (decide (g.c.length = 20) && (!(clAt g 6).n.leaf && (decide ((clAt g 6).n.it.length = 2) && (decide ((itAt (clAt g 6).n.it 1).k = 4) && decide (listO 21 g 6 = some l5))))))
  | none => false
theorem shownB_true : shownB = true := by decide +kernel
def shownC : Bool := match putO 25 h20 (-1) (-1) 0 true with
  | some (g, r, e) => decide (g = h20) && (decide (r = -1) && decide (e = 1))
  | none => false
theorem shownC_true : shownC = true := by decide +kernel
def shownD : Bool := match putO 25 h20 (-1) 7 8 false with
  | some (g, r, e) => decide (g.c.length = 20) && (decide (r = 0) && (decide (e = 0) && decide ((g.c.getD 0 zCl).ref = 1)))
  | none => false
theorem shownD_true : shownD = true := by decide +kernel
end Go.Proofs.Ytopkoganfnabgaa.H
namespace Go.Proofs.Ytopkoganfnabgaa.H
open Go.RowKit Go.Proofs.YtopkoganfnabgaaW.PrintWords Go.Proofs.YtopkoganfnabgaaW.PrintLast Go.Proofs.YtopkoganfnabgaaW.PrintMore
attribute [local go_sem] max2_int min2_int max_two min_two max_three min_three max_four min_four
set_option linter.unusedVariables false
set_option linter.unusedSimpArgs false
theorem five_it (W : World) : kIt.C (W.alloc (.cells #[.int .i64 1, .int .i64 1, .int .i64 2, .int .i64 2, .int .i64 3, .int .i64 3, .int .i64 4, .int .i64 4, .int .i64 5, .int .i64 5] 26)) (some ⟨W.heap.size, 0, none⟩) 5 l5 := by
  refine ⟨by rfl, by decide, fun _ => ⟨⟨W.heap.size, 0, none⟩, rfl, fun j p hj => ?_⟩⟩
  have hjn : j < 5 := (List.getElem?_eq_some_iff.1 hj).1
  have hc := fun i => blk_cell (blk_new W (.cells #[.int .i64 1, .int .i64 1, .int .i64 2, .int .i64 2, .int .i64 3, .int .i64 3, .int .i64 4, .int .i64 4, .int .i64 5, .int .i64 5] 26)) i
  refine ⟨[.int .i64 p.k, .int .i64 p.v], rfl, ⟨_, _, rfl, rfl, rfl⟩, fun i u hu => ?_⟩
  have hi : i < 2 := (List.getElem?_eq_some_iff.1 hu).1
  rw [show (Addr.add ⟨W.heap.size, 0, none⟩ (j * kIt.sz + i)) = ⟨W.heap.size, j * 2 + i, none⟩ by rw [show kIt.sz = 2 from rfl]; simp [Addr.add]; intro h1 h2; omega, hc]
  match j, hjn with
  | 0, _ | 1, _ | 2, _ | 3, _ | 4, _ =>
    obtain rfl := (Option.some.inj hj)
    match i, hi with
    | 0, _ | 1, _ => exact hu
theorem shownB_facts : ∃ g, fillO 25 h20 (-1) l5 = some (g, 6, 0) ∧ g.c.length = 20 ∧ (clAt g 6).n.leaf = false ∧ (clAt g 6).n.it.length = 2 ∧ (itAt (clAt g 6).n.it 1).k = 4 ∧ listO 21 g 6 = some l5 := by
  have h := shownB_true
  unfold shownB at h
  split at h
  · rename_i g r e hf
    simp only [Bool.and_eq_true, decide_eq_true_eq, Bool.not_eq_true'] at h
    obtain ⟨rfl, rfl, h1, h2, h3, h4, h5⟩ := h
    exact ⟨g, hf, h1, h2, h3, h4, h5⟩
  · cases h
theorem shownC_facts : putO 25 h20 (-1) (-1) 0 true = some (h20, -1, 1) := by
  have h := shownC_true
  unfold shownC at h
  split at h
  · rename_i g r e hf
    simp only [Bool.and_eq_true, decide_eq_true_eq] at h
    obtain ⟨rfl, rfl, rfl⟩ := h
    exact hf
  · cases h
theorem shownD_facts : ∃ x, putO 25 h20 (-1) 7 8 false = some (x, 0, 0) ∧ x.c.length = 20 ∧ (x.c.getD 0 zCl).ref = 1 := by
  have h := shownD_true
  unfold shownD at h
  split at h
  · rename_i g r e hf
    simp only [Bool.and_eq_true, decide_eq_true_eq] at h
    obtain ⟨h1, rfl, rfl, h2⟩ := h
    exact ⟨g, hf, h1, h2⟩
  · cases h
set_option maxHeartbeats 4000000 in
set_option maxRecDepth 100000 in
/-- The worked example of the laws of grow comes out true. -/
theorem shown9_walk (w : World) : Calls Try.prog 11 #[] w fun e w' => e = .returned (.bool true) ∧ Below w.heap.size w w' := by
  obtain ⟨g, hf, hgl, hlf, hit, hk4, hli⟩ := shownB_facts
  have hc := shownC_facts
  obtain ⟨x, hd, hxl, hx0⟩ := shownD_facts
  have h20l : h20.c.length = 20 := rfl
  have HNW := Aside0.mk (show ∀ w : World, Calls Try.prog 26 #[.int .i64 20, .int .i64 0] w fun e w' => ∃ B cb, e = .returned (.tuple #[.agg #[.slice B 20 cb, .int .i64 0], .int .i64 0]) ∧ 20 ≤ cb ∧ kCl.C w' B 20 (List.replicate 20 zCl) ∧ Below w.heap.size w w' from fun w => refNew_walk 20 w (by decide) (by decide))
  have HFL := Aside0.mk (show ∀ (A : Option Addr) (c : Nat) (B : Option Addr) (w : World), kCl.C w A 20 h20.c → 20 ≤ c → kIt.C w B 5 l5 → Calls Try.prog 19 #[.agg #[.slice A 20 c, .int .i64 0], .int .i64 (-1), .slice B 5 5] w fun e w' => ∃ B' cb', e = .returned (.tuple #[.agg #[.slice B' 20 cb', .int .i64 g.keep], .int .i64 6, .int .i64 0]) ∧ 20 ≤ cb' ∧ kCl.C w' B' 20 g.c ∧ Below w.heap.size w w' from fun A c B w hr hcc hn => by
    have := growFill_walk A B c 5 25 h20 g (-1) 6 0 l5 w hr hcc hn hf
    rw [hgl] at this
    exact this)
  have HPC := Aside0.mk (show ∀ (A : Option Addr) (c : Nat) (w : World), kCl.C w A 20 h20.c → 20 ≤ c → Calls Try.prog 13 #[.agg #[.slice A 20 c, .int .i64 0], .int .i64 (-1), .int .i64 (-1), .int .i64 0, .bool true] w fun e w' => ∃ B' cb', e = .returned (.tuple #[.agg #[.slice B' 20 cb', .int .i64 0], .int .i64 (-1), .int .i64 1]) ∧ 20 ≤ cb' ∧ kCl.C w' B' 20 h20.c ∧ Below w.heap.size w w' from fun A c w hr hcc => growPut_walk A c h20 h20 (-1) (-1) 0 (-1) 1 true 25 w hr hcc hc)
  have HPD := Aside0.mk (show ∀ (A : Option Addr) (c : Nat) (w : World), kCl.C w A 20 h20.c → 20 ≤ c → Calls Try.prog 13 #[.agg #[.slice A 20 c, .int .i64 0], .int .i64 (-1), .int .i64 7, .int .i64 8, .bool false] w fun e w' => ∃ B' cb', e = .returned (.tuple #[.agg #[.slice B' 20 cb', .int .i64 x.keep], .int .i64 0, .int .i64 0]) ∧ 20 ≤ cb' ∧ kCl.C w' B' 20 x.c ∧ Below w.heap.size w w' from fun A c w hr hcc => by
    have := growPut_walk A c h20 x (-1) 7 8 0 0 false 25 w hr hcc hd
    rw [hxl] at this
    exact this)
  have HLI := Aside0.mk (fun (A : Option Addr) (c : Nat) (w : World) (hr : kCl.C w A 20 g.c) => by
    have := list_walk 21 A c g 6 l5 w (by rw [hgl]; exact hr) hli
    rw [hgl] at this
    exact this)
  rw [show (l5 : List It).length = 5 from rfl] at HLI
  have HIT := Aside0.mk (fun (A B : Option Addr) (c d : Nat) (w : World) (h1 : kIt.C w A 5 l5) (h2 : kIt.C w B 5 l5) => items_walk A B c d l5 l5 w h1 h2)
  rw [show (l5 : List It).length = 5 from rfl, show decide (l5 = l5) = true from decide_eq_true rfl] at HIT
  rw [show clAt g 6 = g.c.getD 6 zCl from rfl] at hlf hit hk4
  have HG := Aside0.mk (And.intro hlf (And.intro hit hk4))
  have HX := Aside0.mk hx0
  clear hf hgl hlf hit hk4 hli hc hd hxl hx0 h20l
  go_enter Try.func11, Try.ntmps11
  go_upto_region 3 with (first | (go_at_call 26; (with_reducible refine (HNW.out _).mono ?_); rintro e w1 ⟨A0, c0, rfl, hc0, hC0, hb1⟩; have HC0 := Aside0.mk hc0; have HA0 := Aside0.mk hC0; have HB1 := Aside0.mk hb1; clear hc0 hC0 hb1) | fail)
  obtain ⟨W, hW⟩ : ∃ W, W = (w1.alloc (.cells #[.slice A0 20 c0, .int .i64 0] 24)).alloc (.cells #[.int .i64 1, .int .i64 1, .int .i64 2, .int .i64 2, .int .i64 3, .int .i64 3, .int .i64 4, .int .i64 4, .int .i64 5, .int .i64 5] 26) := ⟨_, rfl⟩
  have HB := Aside0.mk (show Below w1.heap.size w1 W by rw [hW]; exact below_alloc (below_alloc (Below.refl _ _) _) _)
  have HBW := Aside0.mk (show Below w.heap.size w W from below_step HB1.out HB.out)
  have HBH := Aside0.mk (show W.heap[w1.heap.size]? = some (.cells #[.slice A0 20 c0, .int .i64 0] 24) by rw [hW]; exact blk_alloc (blk_new w1 _) _)
  have hrow := five_it (w1.alloc (.cells #[.slice A0 20 c0, .int .i64 0] 24))
  rw [← hW, World.size_alloc] at hrow
  have HROW := Aside0.mk hrow
  have HA := Aside0.mk (show kCl.C W A0 20 h20.c from Kd.C_below HA0.out HB.out)
  rw [← hW]
  clear hW hrow
  have d0 := (blk_cell HBH.out 0).trans (show _ = some (Value.slice A0 20 c0) from rfl)
  have d1 := (blk_cell HBH.out 1).trans (show _ = some (Value.int .i64 0) from rfl)
  go_upto_region 4 with (first | (go_at_call 19; (with_reducible refine (HFL.out A0 c0 _ _ HA.out HC0.out HROW.out).mono ?_); rintro e w3 ⟨B3, c3, rfl, hc3, hr3, hb3⟩; have HR3 := Aside0.mk (And.intro hc3 hr3); have HB3 := Aside0.mk hb3; clear hc3 hr3 hb3) | fail)
  obtain ⟨W4, hW4⟩ : ∃ W4, W4 = w3.alloc (.cells #[.slice B3 20 c3, .int .i64 g.keep] 24) := ⟨_, rfl⟩
  have HB4 := Aside0.mk (show Below W.heap.size W W4 by rw [hW4]; exact below_alloc HB3.out _)
  have HH4 := Aside0.mk (show W4.heap[w3.heap.size]? = some (.cells #[.slice B3 20 c3, .int .i64 g.keep] 24) by rw [hW4]; exact blk_new w3 _)
  have HR4 := Aside0.mk (show kCl.C W4 B3 20 g.c by rw [hW4]; exact Kd.C_alloc HR3.out.2 _)
  have HA4 := Aside0.mk (Kd.C_below HA.out HB4.out)
  have HBH4 := Aside0.mk (blk_below HBH.out HB4.out)
  have HROW4 := Aside0.mk (Kd.C_below HROW.out HB4.out)
  rw [← hW4]
  clear hW4 d0 d1
  have d0 := (blk_cell HBH4.out 0).trans (show _ = some (Value.slice A0 20 c0) from rfl)
  have d1 := (blk_cell HBH4.out 1).trans (show _ = some (Value.int .i64 0) from rfl)
  go_upto_region 5 with (first | (go_at_call 13; (with_reducible refine (HPC.out A0 c0 _ HA4.out HC0.out).mono ?_); rintro e w5 ⟨B5, c5, rfl, hc5, hr5, hb5⟩; have HB5 := Aside0.mk hb5; clear hc5 hr5 hb5) | fail)
  obtain ⟨W6, hW6⟩ : ∃ W6, W6 = w5.alloc (.cells #[.slice B5 20 c5, .int .i64 0] 24) := ⟨_, rfl⟩
  have HB6 := Aside0.mk (show Below W4.heap.size W4 W6 by rw [hW6]; exact below_alloc HB5.out _)
  have HA6 := Aside0.mk (Kd.C_below HA4.out HB6.out)
  have HBH6 := Aside0.mk (blk_below HBH4.out HB6.out)
  rw [← hW6]
  clear hW6 d0 d1
  have d0 := (blk_cell HBH6.out 0).trans (show _ = some (Value.slice A0 20 c0) from rfl)
  have d1 := (blk_cell HBH6.out 1).trans (show _ = some (Value.int .i64 0) from rfl)
  go_upto_region 6 with (first | (go_at_call 13; (with_reducible refine (HPD.out A0 c0 _ HA6.out HC0.out).mono ?_); rintro e w7 ⟨B7, c7, rfl, hc7, hr7, hb7⟩; have HR7 := Aside0.mk (And.intro hc7 hr7); have HB7 := Aside0.mk hb7; clear hc7 hr7 hb7) | fail)
  obtain ⟨W8, hW8⟩ : ∃ W8, W8 = w7.alloc (.cells #[.slice B7 20 c7, .int .i64 x.keep] 24) := ⟨_, rfl⟩
  have HB8 := Aside0.mk (show Below W4.heap.size W4 W8 by rw [hW8]; exact below_step HB6.out (below_alloc HB7.out _))
  have HH8 := Aside0.mk (blk_below HH4.out HB8.out)
  have HX8 := Aside0.mk (show W8.heap[w7.heap.size]? = some (.cells #[.slice B7 20 c7, .int .i64 x.keep] 24) by rw [hW8]; exact blk_new w7 _)
  have HR8 := Aside0.mk (Kd.C_below HR4.out HB8.out)
  have HXR := Aside0.mk (show kCl.C W8 B7 20 x.c by rw [hW8]; exact Kd.C_alloc HR7.out.2 _)
  have HROW8 := Aside0.mk (Kd.C_below HROW4.out HB8.out)
  have HBW8 := Aside0.mk (below_step (below_step HBW.out HB4.out) HB8.out)
  rw [← hW8]
  clear hW8 d0 d1
  obtain ⟨ad3, Bn, cn, rfl, -, -, y2, y3, -, hBn⟩ := at_cl HR8.out 6 (by decide)
  obtain ⟨ad7, Bm, cm, rfl, z0, -, -, -, -, -⟩ := at_cl HXR.out 0 (by decide)
  rw [HG.out.1] at y2
  rw [HG.out.2.1] at y3
  rw [HX.out] at z0
  obtain ⟨adn, rfl, n0, -⟩ := at_it hBn 1 (by rw [HG.out.2.1]; decide)
  rw [HG.out.2.2] at n0
  have d0 := (blk_cell HH8.out 0).trans (show _ = some (Value.slice (some ad3) 20 c3) from rfl)
  have d1 := (blk_cell HH8.out 1).trans (show _ = some (Value.int .i64 g.keep) from rfl)
  have e0 := (blk_cell HX8.out 0).trans (show _ = some (Value.slice (some ad7) 20 c7) from rfl)
  clear hBn
  have y4 : W8.cell? ⟨ad3.block, ad3.off + 24 + 2, none⟩ = some (.bool false) := y2
  have y5 : W8.cell? ⟨ad3.block, ad3.off + 24 + 2 + 1, none⟩ = some (.slice (some adn) 2 cn) := y3
  go_upto_region 9 with (fail)
  obtain ⟨W9, hW9⟩ : ∃ W9, W9 = W8.alloc (.cells #[.bool false, .slice (some adn) 2 cn] 77) := ⟨_, rfl⟩
  have hb9 : Below W8.heap.size W8 W9 := by rw [hW9]; exact below_alloc (Below.refl _ _) _
  have HB9 := Aside0.mk hb9
  have HN9 := Aside0.mk (show W9.heap[W8.heap.size]? = some (.cells #[.bool false, .slice (some adn) 2 cn] 77) by rw [hW9]; exact blk_new W8 _)
  have HR9 := Aside0.mk (Kd.C_below HR8.out hb9)
  have HROW9 := Aside0.mk (Kd.C_below HROW8.out hb9)
  have HBW9 := Aside0.mk (below_step HBW8.out hb9)
  have HZ := Aside0.mk (show W9.cell? ad7 = some (.int .i64 1) by
    have := bcell hb9 z0
    rwa [show ad7.add (0 * 4) = ad7 by simp [Addr.add]] at this)
  have n1 : W9.cell? ⟨adn.block, adn.off + 2, none⟩ = some (.int .i64 4) := bcell hb9 n0
  have f0 := bcell hb9 d0
  have f1 := bcell hb9 d1
  have HE := Aside0.mk (bcell hb9 e0)
  rw [← hW9]
  clear hW9 hb9 d0 d1 e0 z0 n0 y2 y3
  have m0 := (blk_cell HN9.out 0).trans (show _ = some (Value.bool false) from rfl)
  have m1 := (blk_cell HN9.out 1).trans (show _ = some (Value.slice (some adn) 2 cn) from rfl)
  have z0 := HZ.out
  have e0 := HE.out
  go_wp2_with (first | (go_at_call 24; (with_reducible refine (HLI.out _ _ _ HR9.out).mono ?_); rintro e w10 ⟨B10, c10, rfl, hc10, hr10, hb10⟩; have HR10 := Aside0.mk (And.intro hc10 hr10); have HB10 := Aside0.mk hb10; clear hc10 hr10 hb10) | (go_at_call 23; (with_reducible refine (HIT.out _ _ _ _ _ HR10.out.2 (Kd.C_below HROW9.out HB10.out)).mono ?_); rintro e w11 ⟨rfl, hb11⟩; have HB11 := Aside0.mk (show Below W9.heap.size W9 w11 from below_step HB10.out hb11); clear hb11; have z1 := bcell HB11.out HZ.out; have e1 := bcell HB11.out HE.out) | fail)
  go_ret
  exact ⟨rfl, below_step HBW9.out HB11.out⟩
end Go.Proofs.Ytopkoganfnabgaa.H
