import Derived.Test.YtopkoganfnabgaaG5
namespace Go.Proofs.Ytopkoganfnabgaa.H
open Go.RowKit Go.Proofs.YtopkoganfnabgaaW.PrintWords Go.Proofs.YtopkoganfnabgaaW.PrintLast Go.Proofs.YtopkoganfnabgaaW.PrintMore
attribute [local go_sem] max2_int min2_int max_two min_two max_three min_three max_four min_four
set_option linter.unusedVariables false
set_option linter.unusedSimpArgs false
/-- What Put finds. -/
structure PuSt (w W1 : World) (A : Option Addr) (c : Nat) (h : Hp) : Prop where
  b0 : Below w.heap.size w W1
  hh : W1.heap[w.heap.size]? = some (.cells #[.slice A h.c.length c, .int .i64 h.keep] 24 (0, 0))
  hr : W1.heap[w.heap.size + 1]? = some (.cells #[.slice none 0 0, .int .i64 0] 24 (0, 0))
  cl : kCl.C W1 A h.c.length h.c ∧ h.c.length ≤ c
theorem pust (w : World) (A : Option Addr) (c : Nat) (h : Hp) (hr : kCl.C w A h.c.length h.c) (hcc : h.c.length ≤ c) : PuSt w ((w.alloc (.cells #[.slice A h.c.length c, .int .i64 h.keep] 24)).alloc (.cells #[.slice none 0 0, .int .i64 0] 24)) A c h :=
  ⟨below_alloc (below_alloc (Below.refl _ _) _) _, blk_alloc (blk_new w _) _, blk2 w _ _, Kd.C_alloc (Kd.C_alloc hr _) _, hcc⟩
theorem PuSt.step {w W1 W2 : World} {A : Option Addr} {c : Nat} {h : Hp} (s : PuSt w W1 A c h) (hb : Below W1.heap.size W1 W2) : PuSt w W2 A c h := ⟨below_step s.b0 hb, blk_below s.hh hb, blk_below s.hr hb, Kd.C_below s.cl.1 hb, s.cl.2⟩
/-- The result is the given heap. -/
theorem PuSt.same {w W1 : World} {A : Option Addr} {c : Nat} {h : Hp} (s : PuSt w W1 A c h) : kCl.C ((W1.setCell ⟨w.heap.size + 1, 0, none⟩ (.slice A h.c.length c)).setCell ⟨w.heap.size + 1, 1, none⟩ (.int .i64 h.keep)) A h.c.length h.c ∧ Below w.heap.size w ((W1.setCell ⟨w.heap.size + 1, 0, none⟩ (.slice A h.c.length c)).setCell ⟨w.heap.size + 1, 1, none⟩ (.int .i64 h.keep)) :=
  ⟨cl_store s.cl.1 s.hr, below_set (below_set s.b0 (by omega)) (by omega)⟩
set_option maxHeartbeats 4000000 in
set_option maxRecDepth 100000 in
theorem putArg_walk (A : Option Addr) (c : Nat) (h : Hp) (root key val : Int) (deep : Bool) (n : Nat) (w : World) (hr : kCl.C w A h.c.length h.c) (hcc : h.c.length ≤ c) (hhi : highO 21 h root = some n) (hbad : (!fitsB key || !fitsB val) = true) :
    Calls Try.prog 13 #[.agg #[.slice A h.c.length c, .int .i64 h.keep], .int .i64 root, .int .i64 key, .int .i64 val, .bool deep] w fun e w' => ∃ B cb, e = .returned (.tuple #[.agg #[.slice B h.c.length cb, .int .i64 h.keep], .int .i64 root, .int .i64 1]) ∧ h.c.length ≤ cb ∧ kCl.C w' B h.c.length h.c ∧ Below w.heap.size w w' := by
  (obtain ⟨W1, hW1⟩ : ∃ W1, W1 = (w.alloc (.cells #[.slice A h.c.length c, .int .i64 h.keep] 24)).alloc (.cells #[.slice none 0 0, .int .i64 0] 24) := ⟨_, rfl⟩; have S1 := Aside0.mk (show PuSt w W1 A c h by (rw [hW1]; exact pust w A c h hr hcc)); have c0 := (blk_cell S1.out.hh 0).trans (show _ = some (Value.slice A h.c.length c) from rfl); have c1 := (blk_cell S1.out.hh 1).trans (show _ = some (Value.int .i64 h.keep) from rfl); have HHI := Aside0.mk (fun (W : World) (hb : Below W1.heap.size W1 W) => high_walk 21 A c h root n W (by decide) (Kd.C_below S1.out.cl.1 hb) hhi); have hW1' := Aside0.mk hW1; have HN := Aside0.mk (show n ≤ 1000 by have := highO_le 21 h root n hhi; omega); clear hr hcc hW1 hhi)
  have HFK := Aside0.mk (fun W => growFits_walk key W)
  have HFV := Aside0.mk (fun W => growFits_walk val W)
  obtain ⟨k1, hk1⟩ : ∃ k1, k1 = fitsB key := ⟨_, rfl⟩
  obtain ⟨k2, hk2⟩ : ∃ k2, k2 = fitsB val := ⟨_, rfl⟩
  rw [← hk1] at HFK hbad
  rw [← hk2] at HFV hbad
  clear hk1 hk2
  cases k1 with
  | false =>
    clear hbad
    go_enter Try.func13, Try.ntmps13
    go_upto_region 1 with (fail)
    rw [← hW1'.out]
    go_upto_region 3 with (first | (go_at_call 38; (with_reducible refine (HHI.out _ (by repeat (first | (with_reducible exact Below.refl _ _) | (with_reducible refine below_alloc ?_ _) | (with_reducible refine below_drew1 ?_) | (with_reducible refine pw_below_drewN ?_ _) | (with_reducible exact Below.refl _ _)))).mono ?_); rintro e w2 ⟨rfl, hb2⟩; have HB2 := Aside0.mk hb2; have d0 := bcell hb2 c0; have d1 := bcell hb2 c1; clear hb2) | (go_at_call 39; (with_reducible refine (HFK.out _).mono ?_); rintro e wk ⟨rfl, rfl⟩) | fail)
    have S2 := Aside0.mk (S1.out.step HB2.out)
    have e0 := (blk_cell S2.out.hr 0).trans (show _ = some (Value.slice none 0 0) from rfl)
    have e1 := (blk_cell S2.out.hr 1).trans (show _ = some (Value.int .i64 0) from rfl)
    have f0 := blk_frozen S2.out.hr 0
    have f1 := blk_frozen S2.out.hr 1
    go_wp2
    refine bodyPost_ret (results_ctt rfl _ _ (w.heap.size + 1) 24 #[.slice A h.c.length c, .int .i64 h.keep] (0, 0) _ rfl (hb_store S2.out.hr) Try.underlying24 rfl (by kernel_rfl)) rfl ?_
    exact ⟨A, c, rfl, S2.out.cl.2, S2.out.same.1, S2.out.same.2⟩
  | true =>
    obtain rfl : k2 = false := by simpa using hbad
    clear hbad
    go_enter Try.func13, Try.ntmps13
    go_upto_region 1 with (fail)
    rw [← hW1'.out]
    go_upto_region 3 with (first | (go_at_call 38; (with_reducible refine (HHI.out _ (by repeat (first | (with_reducible exact Below.refl _ _) | (with_reducible refine below_alloc ?_ _) | (with_reducible refine below_drew1 ?_) | (with_reducible refine pw_below_drewN ?_ _) | (with_reducible exact Below.refl _ _)))).mono ?_); rintro e w2 ⟨rfl, hb2⟩; have HB2 := Aside0.mk hb2; have d0 := bcell hb2 c0; have d1 := bcell hb2 c1; clear hb2) | (go_at_call 39; (with_reducible refine (HFK.out _).mono ?_); rintro e wk ⟨rfl, rfl⟩) | (go_at_call 39; (with_reducible refine (HFV.out _).mono ?_); rintro e wv ⟨rfl, rfl⟩) | fail)
    have S2 := Aside0.mk (S1.out.step HB2.out)
    have e0 := (blk_cell S2.out.hr 0).trans (show _ = some (Value.slice none 0 0) from rfl)
    have e1 := (blk_cell S2.out.hr 1).trans (show _ = some (Value.int .i64 0) from rfl)
    have f0 := blk_frozen S2.out.hr 0
    have f1 := blk_frozen S2.out.hr 1
    go_wp2
    refine bodyPost_ret (results_ctt rfl _ _ (w.heap.size + 1) 24 #[.slice A h.c.length c, .int .i64 h.keep] (0, 0) _ rfl (hb_store S2.out.hr) Try.underlying24 rfl (by kernel_rfl)) rfl ?_
    exact ⟨A, c, rfl, S2.out.cl.2, S2.out.same.1, S2.out.same.2⟩
set_option maxHeartbeats 4000000 in
set_option maxRecDepth 100000 in
theorem putFull_walk (A : Option Addr) (c : Nat) (h : Hp) (root key val : Int) (deep : Bool) (n : Nat) (w : World) (hr : kCl.C w A h.c.length h.c) (hcc : h.c.length ≤ c) (hhi : highO 21 h root = some n) (hk : fitsB key = true) (hv : fitsB val = true) (hbad : (decide (n = 20) || !fitsH h (2 * (n : Int) + 1) deep) = true) :
    Calls Try.prog 13 #[.agg #[.slice A h.c.length c, .int .i64 h.keep], .int .i64 root, .int .i64 key, .int .i64 val, .bool deep] w fun e w' => ∃ B cb, e = .returned (.tuple #[.agg #[.slice B h.c.length cb, .int .i64 h.keep], .int .i64 root, .int .i64 3]) ∧ h.c.length ≤ cb ∧ kCl.C w' B h.c.length h.c ∧ Below w.heap.size w w' := by
  (obtain ⟨W1, hW1⟩ : ∃ W1, W1 = (w.alloc (.cells #[.slice A h.c.length c, .int .i64 h.keep] 24)).alloc (.cells #[.slice none 0 0, .int .i64 0] 24) := ⟨_, rfl⟩; have S1 := Aside0.mk (show PuSt w W1 A c h by (rw [hW1]; exact pust w A c h hr hcc)); have c0 := (blk_cell S1.out.hh 0).trans (show _ = some (Value.slice A h.c.length c) from rfl); have c1 := (blk_cell S1.out.hh 1).trans (show _ = some (Value.int .i64 h.keep) from rfl); have HHI := Aside0.mk (fun (W : World) (hb : Below W1.heap.size W1 W) => high_walk 21 A c h root n W (by decide) (Kd.C_below S1.out.cl.1 hb) hhi); have hW1' := Aside0.mk hW1; have HN := Aside0.mk (show n ≤ 1000 by have := highO_le 21 h root n hhi; omega); clear hr hcc hW1 hhi)
  have HFK := Aside0.mk (fun W => growFits_walk key W)
  have HFV := Aside0.mk (fun W => growFits_walk val W)
  rw [hk] at HFK
  rw [hv] at HFV
  clear hk hv
  by_cases h20 : n = 20
  · have q0 : ((n : Int) == 20) = true := beq_iff_eq.mpr (by omega)
    have q1 : (n == 20) = true := beq_iff_eq.mpr h20
    clear hbad h20
    go_enter Try.func13, Try.ntmps13
    go_upto_region 1 with (fail)
    rw [← hW1'.out]
    go_upto_region 4 with (first | (go_at_call 38; (with_reducible refine (HHI.out _ (by repeat (first | (with_reducible exact Below.refl _ _) | (with_reducible refine below_alloc ?_ _) | (with_reducible refine below_drew1 ?_) | (with_reducible refine pw_below_drewN ?_ _) | (with_reducible exact Below.refl _ _)))).mono ?_); rintro e w2 ⟨rfl, hb2⟩; have HB2 := Aside0.mk hb2; have d0 := bcell hb2 c0; have d1 := bcell hb2 c1; clear hb2) | (go_at_call 39; (with_reducible refine (HFK.out _).mono ?_); rintro e wk ⟨rfl, rfl⟩) | (go_at_call 39; (with_reducible refine (HFV.out _).mono ?_); rintro e wv ⟨rfl, rfl⟩) | fail)
    go_quiet (fail)
    obtain ⟨w3, hw3⟩ : ∃ w3, w3 = w2.drewN nq := ⟨_, rfl⟩
    have S2 := Aside0.mk (S1.out.step (show Below W1.heap.size W1 w3 by rw [hw3]; exact pw_below_drewN HB2.out nq))
    rw [← hw3]
    have g0 := (blk_cell S2.out.hh 0).trans (show _ = some (Value.slice A h.c.length c) from rfl)
    have g1 := (blk_cell S2.out.hh 1).trans (show _ = some (Value.int .i64 h.keep) from rfl)
    have e0 := (blk_cell S2.out.hr 0).trans (show _ = some (Value.slice none 0 0) from rfl)
    have e1 := (blk_cell S2.out.hr 1).trans (show _ = some (Value.int .i64 0) from rfl)
    have f0 := blk_frozen S2.out.hr 0
    have f1 := blk_frozen S2.out.hr 1
    clear hw3 d0 d1
    go_wp2
    refine bodyPost_ret (results_ctt rfl _ _ (w.heap.size + 1) 24 #[.slice A h.c.length c, .int .i64 h.keep] (0, 0) _ rfl (hb_store S2.out.hr) Try.underlying24 rfl (by kernel_rfl)) rfl ?_
    exact ⟨A, c, rfl, S2.out.cl.2, S2.out.same.1, S2.out.same.2⟩
  · have q0 : ((n : Int) == 20) = false := beq_eq_false_iff_ne.mpr (by omega)
    have q1 : (n == 20) = false := beq_eq_false_iff_ne.mpr h20
    rw [decide_eq_false h20, Bool.false_or] at hbad
    have hff : fitsH h (2 * (n : Int) + 1) deep = false := by simpa using hbad
    have HFT0 := Aside0.mk (fun (W : World) (hb : Below W1.heap.size W1 W) => fits_walk A c h (2 * (n : Int) + 1) deep W (Kd.C_below S1.out.cl.1 hb))
    rw [hff] at HFT0
    clear hbad h20 hff
    go_enter Try.func13, Try.ntmps13
    go_upto_region 1 with (fail)
    rw [← hW1'.out]
    go_upto_region 4 with (first | (go_at_call 38; (with_reducible refine (HHI.out _ (by repeat (first | (with_reducible exact Below.refl _ _) | (with_reducible refine below_alloc ?_ _) | (with_reducible refine below_drew1 ?_) | (with_reducible refine pw_below_drewN ?_ _) | (with_reducible exact Below.refl _ _)))).mono ?_); rintro e w2 ⟨rfl, hb2⟩; have HB2 := Aside0.mk hb2; have d0 := bcell hb2 c0; have d1 := bcell hb2 c1; clear hb2) | (go_at_call 39; (with_reducible refine (HFK.out _).mono ?_); rintro e wk ⟨rfl, rfl⟩) | (go_at_call 39; (with_reducible refine (HFV.out _).mono ?_); rintro e wv ⟨rfl, rfl⟩) | fail)
    have HFT := Aside0.mk (fun (W : World) (hb : Below w2.heap.size w2 W) => HFT0.out W (below_step HB2.out hb))
    go_region_held3 (fun w' => w'.cell? ⟨w.heap.size, 0, none⟩ = some (.slice A h.c.length c) ∧ w'.cell? ⟨w.heap.size, 1, none⟩ = some (.int .i64 h.keep)) (first | exact ⟨d0, d1⟩ | exact ⟨bcell HB3.out d0, bcell HB3.out d1⟩ | exact (fun (h : Below w2.heap.size w2 _) => ⟨bcell h d0, bcell h d1⟩) (by repeat (first | (with_reducible exact Below.refl _ _) | (with_reducible refine below_alloc ?_ _) | (with_reducible refine below_drew1 ?_) | (with_reducible refine pw_below_drewN ?_ _) | (with_reducible exact HB3.out)))) (first | (go_at_call 41; (with_reducible refine (need_walk n _ HN.out).mono ?_); rintro e wn ⟨rfl, rfl⟩) | (go_at_call 40; (with_reducible refine (HFT.out _ (by repeat (first | (with_reducible exact Below.refl _ _) | (with_reducible refine below_alloc ?_ _) | (with_reducible refine below_drew1 ?_) | (with_reducible refine pw_below_drewN ?_ _) | (with_reducible exact Below.refl _ _)))).mono ?_); rintro e w3 ⟨rfl, hb3⟩; have HB3 := Aside0.mk (show Below w2.heap.size w2 w3 from below_step (by repeat (first | (with_reducible exact Below.refl _ _) | (with_reducible refine below_alloc ?_ _) | (with_reducible refine below_drew1 ?_) | (with_reducible refine pw_below_drewN ?_ _) | fail)) hb3); clear hb3) | fail)
    all_goals
      have S2 := Aside0.mk (S1.out.step (below_step HB2.out HB3.out))
      have g0 := (blk_cell S2.out.hh 0).trans (show _ = some (Value.slice A h.c.length c) from rfl)
      have g1 := (blk_cell S2.out.hh 1).trans (show _ = some (Value.int .i64 h.keep) from rfl)
      have e0 := (blk_cell S2.out.hr 0).trans (show _ = some (Value.slice none 0 0) from rfl)
      have e1 := (blk_cell S2.out.hr 1).trans (show _ = some (Value.int .i64 0) from rfl)
      have f0 := blk_frozen S2.out.hr 0
      have f1 := blk_frozen S2.out.hr 1
      clear d0 d1
      go_wp2
      refine bodyPost_ret (results_ctt rfl _ _ (w.heap.size + 1) 24 #[.slice A h.c.length c, .int .i64 h.keep] (0, 0) _ rfl (hb_store S2.out.hr) Try.underlying24 rfl (by kernel_rfl)) rfl ?_
      exact ⟨A, c, rfl, S2.out.cl.2, S2.out.same.1, S2.out.same.2⟩
end Go.Proofs.Ytopkoganfnabgaa.H
namespace Go.Proofs.Ytopkoganfnabgaa.H
open Go.RowKit Go.Proofs.YtopkoganfnabgaaW.PrintWords Go.Proofs.YtopkoganfnabgaaW.PrintLast Go.Proofs.YtopkoganfnabgaaW.PrintMore
attribute [local go_sem] max2_int min2_int max_two min_two max_three min_three max_four min_four
set_option linter.unusedVariables false
set_option linter.unusedSimpArgs false
set_option maxHeartbeats 4000000 in
set_option maxRecDepth 100000 in
theorem rpArg_walk (A : Option Addr) (c : Nat) (h : Hp) (root key val : Int) (deep : Bool) (w : World) (hr : kCl.C w A h.c.length h.c) (hcc : h.c.length ≤ c) (hbad : (!fitsB key || !fitsB val) = true) :
    Calls Try.prog 14 #[.agg #[.slice A h.c.length c, .int .i64 h.keep], .int .i64 root, .int .i64 key, .int .i64 val, .bool deep] w fun e w' => ∃ B cb, e = .returned (.tuple #[.agg #[.slice B h.c.length cb, .int .i64 h.keep], .int .i64 root, .int .i64 1]) ∧ h.c.length ≤ cb ∧ kCl.C w' B h.c.length h.c ∧ Below w.heap.size w w' := by
  obtain ⟨W1, hW1⟩ : ∃ W1, W1 = (w.alloc (.cells #[.slice A h.c.length c, .int .i64 h.keep] 24)).alloc (.cells #[.slice none 0 0, .int .i64 0] 24) := ⟨_, rfl⟩
  have S1 := Aside0.mk (show PuSt w W1 A c h by rw [hW1]; exact pust w A c h hr hcc)
  have c0 := (blk_cell S1.out.hh 0).trans (show _ = some (Value.slice A h.c.length c) from rfl)
  have c1 := (blk_cell S1.out.hh 1).trans (show _ = some (Value.int .i64 h.keep) from rfl)
  have e0 := (blk_cell S1.out.hr 0).trans (show _ = some (Value.slice none 0 0) from rfl)
  have e1 := (blk_cell S1.out.hr 1).trans (show _ = some (Value.int .i64 0) from rfl)
  have f0 := blk_frozen S1.out.hr 0
  have f1 := blk_frozen S1.out.hr 1
  have hW1' := Aside0.mk hW1
  have HBD := Aside0.mk hbad
  clear hbad
  by_cases k1 : key < 0
  · have d1 : decide (key < 0) = true := decide_eq_true k1
    clear k1
    (clear hr hcc hW1; go_enter Try.func14, Try.ntmps14; go_upto_region 1 with (fail); rw [← hW1'.out]; go_wp2; refine bodyPost_ret (results_ctt rfl _ _ (w.heap.size + 1) 24 #[.slice A h.c.length c, .int .i64 h.keep] (0, 0) _ rfl (hb_store S1.out.hr) Try.underlying24 rfl (by kernel_rfl)) rfl ?_; exact ⟨A, c, rfl, S1.out.cl.2, S1.out.same.1, S1.out.same.2⟩)
  have d1 : decide (key < 0) = false := decide_eq_false k1
  by_cases k2 : 2147483647 < key
  · have d2 : decide (2147483647 < key) = true := decide_eq_true k2
    clear k1 k2
    (clear hr hcc hW1; go_enter Try.func14, Try.ntmps14; go_upto_region 1 with (fail); rw [← hW1'.out]; go_wp2; refine bodyPost_ret (results_ctt rfl _ _ (w.heap.size + 1) 24 #[.slice A h.c.length c, .int .i64 h.keep] (0, 0) _ rfl (hb_store S1.out.hr) Try.underlying24 rfl (by kernel_rfl)) rfl ?_; exact ⟨A, c, rfl, S1.out.cl.2, S1.out.same.1, S1.out.same.2⟩)
  have d2 : decide (2147483647 < key) = false := decide_eq_false k2
  by_cases k3 : val < 0
  · have d3 : decide (val < 0) = true := decide_eq_true k3
    clear k1 k2 k3
    (clear hr hcc hW1; go_enter Try.func14, Try.ntmps14; go_upto_region 1 with (fail); rw [← hW1'.out]; go_wp2; refine bodyPost_ret (results_ctt rfl _ _ (w.heap.size + 1) 24 #[.slice A h.c.length c, .int .i64 h.keep] (0, 0) _ rfl (hb_store S1.out.hr) Try.underlying24 rfl (by kernel_rfl)) rfl ?_; exact ⟨A, c, rfl, S1.out.cl.2, S1.out.same.1, S1.out.same.2⟩)
  have d3 : decide (val < 0) = false := decide_eq_false k3
  by_cases k4 : 2147483647 < val
  · have d4 : decide (2147483647 < val) = true := decide_eq_true k4
    clear k1 k2 k3 k4
    (clear hr hcc hW1; go_enter Try.func14, Try.ntmps14; go_upto_region 1 with (fail); rw [← hW1'.out]; go_wp2; refine bodyPost_ret (results_ctt rfl _ _ (w.heap.size + 1) 24 #[.slice A h.c.length c, .int .i64 h.keep] (0, 0) _ rfl (hb_store S1.out.hr) Try.underlying24 rfl (by kernel_rfl)) rfl ?_; exact ⟨A, c, rfl, S1.out.cl.2, S1.out.same.1, S1.out.same.2⟩)
  · exfalso
    have := HBD.out
    unfold fitsB at this
    rw [decide_eq_true (show 0 ≤ key by omega), decide_eq_true (show key ≤ 2147483647 by omega), decide_eq_true (show 0 ≤ val by omega), decide_eq_true (show val ≤ 2147483647 by omega)] at this
    cases this
end Go.Proofs.Ytopkoganfnabgaa.H
namespace Go.Proofs.Ytopkoganfnabgaa.H
open Go.RowKit Go.Proofs.YtopkoganfnabgaaW.PrintWords Go.Proofs.YtopkoganfnabgaaW.PrintLast Go.Proofs.YtopkoganfnabgaaW.PrintMore
attribute [local go_sem] max2_int min2_int max_two min_two max_three min_three max_four min_four
set_option linter.unusedVariables false
set_option linter.unusedSimpArgs false
theorem allocO_len {h h' : Hp} {n : Nd} {held : List Int} {p er : Int} (e : allocO h n held = some (h', p, er)) : h'.c.length = h.c.length ∧ h.c.length ≤ 2000 := by
  unfold allocO at e
  split at e
  · rename_i hl
    split at e
    · split at e
      · split at e
        · simp only [Option.some.injEq, Prod.mk.injEq] at e
          obtain ⟨rfl, _, _⟩ := e
          refine ⟨?_, hl⟩
          unfold setH
          rw [List.length_set]
          split
          · rfl
          · exact holdL_len held n.it h
        · simp only [Option.some.injEq, Prod.mk.injEq] at e
          obtain ⟨rfl, _, _⟩ := e
          exact ⟨rfl, hl⟩
      · cases e
    · simp only [Option.some.injEq, Prod.mk.injEq] at e
      obtain ⟨rfl, _, _⟩ := e
      exact ⟨rfl, hl⟩
  · cases e
set_option maxHeartbeats 4000000 in
set_option maxRecDepth 100000 in
theorem putNew_walk (A : Option Addr) (c : Nat) (h g : Hp) (root key val p : Int) (deep : Bool) (n : Nat) (w : World) (hr : kCl.C w A h.c.length h.c) (hcc : h.c.length ≤ c) (hhi : highO 21 h root = some n) (hk : fitsB key = true) (hv : fitsB val = true) (h20 : ¬ n = 20) (hff : fitsH h (2 * (n : Int) + 1) deep = true) (hro : root < 0)
    (e : allocO h ⟨true, [⟨key, val⟩]⟩ [] = some (g, p, 0)) :
    Calls Try.prog 13 #[.agg #[.slice A h.c.length c, .int .i64 h.keep], .int .i64 root, .int .i64 key, .int .i64 val, .bool deep] w fun e w' => ∃ B cb, e = .returned (.tuple #[.agg #[.slice B g.c.length cb, .int .i64 g.keep], .int .i64 p, .int .i64 0]) ∧ g.c.length ≤ cb ∧ kCl.C w' B g.c.length g.c ∧ Below w.heap.size w w' := by
  (obtain ⟨W1, hW1⟩ : ∃ W1, W1 = (w.alloc (.cells #[.slice A h.c.length c, .int .i64 h.keep] 24)).alloc (.cells #[.slice none 0 0, .int .i64 0] 24) := ⟨_, rfl⟩; have S1 := Aside0.mk (show PuSt w W1 A c h by (rw [hW1]; exact pust w A c h hr hcc)); have c0 := (blk_cell S1.out.hh 0).trans (show _ = some (Value.slice A h.c.length c) from rfl); have c1 := (blk_cell S1.out.hh 1).trans (show _ = some (Value.int .i64 h.keep) from rfl); have HHI := Aside0.mk (fun (W : World) (hb : Below W1.heap.size W1 W) => high_walk 21 A c h root n W (by decide) (Kd.C_below S1.out.cl.1 hb) hhi); have hW1' := Aside0.mk hW1; have HN := Aside0.mk (show n ≤ 1000 by have := highO_le 21 h root n hhi; omega); clear hr hcc hW1 hhi; have HFK := Aside0.mk (fun W => growFits_walk key W); have HFV := Aside0.mk (fun W => growFits_walk val W); rw [hk] at HFK; rw [hv] at HFV; have q0 : ((n : Int) == 20) = false := beq_eq_false_iff_ne.mpr (by omega); have q1 : (n == 20) = false := beq_eq_false_iff_ne.mpr h20; have HFT0 := Aside0.mk (fun (W : World) (hb : Below W1.heap.size W1 W) => fits_walk A c h (2 * (n : Int) + 1) deep W (Kd.C_below S1.out.cl.1 hb)); rw [hff] at HFT0; clear hk hv h20 hff)
  have hlen := allocO_len e
  have HE := Aside0.mk e
  have HLEN := Aside0.mk (show g.c.length ≤ 2000 by omega)
  have r1 : decide (root < 0) = true := decide_eq_true hro
  have HST := Aside0.mk (fun (k : Int) => show settledO 0 g p root = some (g, p, 0) by unfold settledO; rw [if_neg (by omega)])
  clear e hlen hro
  (go_enter Try.func13, Try.ntmps13; go_upto_region 1 with (fail); rw [← hW1'.out]; go_upto_region 4 with (first | (go_at_call 38; (with_reducible refine (HHI.out _ (by repeat (first | (with_reducible exact Below.refl _ _) | (with_reducible refine below_alloc ?_ _) | (with_reducible refine below_drew1 ?_) | (with_reducible refine pw_below_drewN ?_ _) | (with_reducible exact Below.refl _ _)))).mono ?_); rintro e w2 ⟨rfl, hb2⟩; have HB2 := Aside0.mk hb2; have d0 := bcell hb2 c0; have d1 := bcell hb2 c1; clear hb2) | (go_at_call 39; (with_reducible refine (HFK.out _).mono ?_); rintro e wk ⟨rfl, rfl⟩) | (go_at_call 39; (with_reducible refine (HFV.out _).mono ?_); rintro e wv ⟨rfl, rfl⟩) | fail); have HFT := Aside0.mk (fun (W : World) (hb : Below w2.heap.size w2 W) => HFT0.out W (below_step HB2.out hb)); go_cut [34] from 35 to 44 (fun v34 wc => v34 = .bool false ∧ Aside0 (Below W1.heap.size W1 wc)))
  case first => (go_region_held3 (fun w' => w'.cell? ⟨w.heap.size, 0, none⟩ = some (.slice A h.c.length c) ∧ w'.cell? ⟨w.heap.size, 1, none⟩ = some (.int .i64 h.keep)) (first | exact ⟨d0, d1⟩ | exact ⟨bcell HB3.out d0, bcell HB3.out d1⟩ | exact (fun (h : Below w2.heap.size w2 _) => ⟨bcell h d0, bcell h d1⟩) (by repeat (first | (with_reducible exact Below.refl _ _) | (with_reducible refine below_alloc ?_ _) | (with_reducible refine below_drew1 ?_) | (with_reducible refine pw_below_drewN ?_ _) | (with_reducible exact HB3.out)))) (first | (go_at_call 41; (with_reducible refine (need_walk n _ HN.out).mono ?_); rintro e wn ⟨rfl, rfl⟩) | (go_at_call 40; (with_reducible refine (HFT.out _ (by repeat (first | (with_reducible exact Below.refl _ _) | (with_reducible refine below_alloc ?_ _) | (with_reducible refine below_drew1 ?_) | (with_reducible refine pw_below_drewN ?_ _) | (with_reducible exact Below.refl _ _)))).mono ?_); rintro e w3 ⟨rfl, hb3⟩; have HB3 := Aside0.mk (show Below w2.heap.size w2 w3 from below_step (by repeat (first | (with_reducible exact Below.refl _ _) | (with_reducible refine below_alloc ?_ _) | (with_reducible refine below_drew1 ?_) | (with_reducible refine pw_below_drewN ?_ _) | fail)) hb3); clear hb3) | fail); all_goals (go_wp2; go_meet; case rel => exact ⟨rfl, ⟨below_step HB2.out HB3.out⟩⟩))
  case rest =>
    (obtain ⟨rfl, HBc⟩ := hcut; have Sc := Aside0.mk (S1.out.step HBc.out); have g0 := (blk_cell Sc.out.hh 0).trans (show _ = some (Value.slice A h.c.length c) from rfl); have g1 := (blk_cell Sc.out.hh 1).trans (show _ = some (Value.int .i64 h.keep) from rfl); clear c0 c1 d0 d1; obtain ⟨W4, hW4⟩ : ∃ W4, W4 = (wc.alloc (.cells #[.slice A h.c.length c, .int .i64 h.keep] 86)).alloc (.cells #[.int .i64 key, .int .i64 val] 26) := ⟨_, rfl⟩; have hb4 : Below wc.heap.size wc W4 := (by rw [hW4]; exact below_alloc (below_alloc (Below.refl _ _) _) _); have S4 := Aside0.mk (Sc.out.step hb4); have HBD := Aside0.mk (show W4.heap[wc.heap.size]? = some (.cells #[.slice A h.c.length c, .int .i64 h.keep] 86) by (rw [hW4]; exact blk_alloc (blk_new wc _) _)); have HIT := Aside0.mk (show W4.heap[wc.heap.size + 1]? = some (.cells #[.int .i64 key, .int .i64 val] 26) by (rw [hW4]; exact blk2 wc _ _)); have hW4' := Aside0.mk hW4; have HWC := Aside0.mk (show w.heap.size + 1 < wc.heap.size from blk_lt Sc.out.hr); clear hW4 hb4; go_upto_region 7 with (fail); rw [← hW4'.out]; have k0 := (blk_cell HIT.out 0).trans (show _ = some (Value.int .i64 key) from rfl); have k1 := (blk_cell HIT.out 1).trans (show _ = some (Value.int .i64 val) from rfl); clear g0 g1)
    have hlay0 := (growLay_walk A (some ⟨W4.heap.size, 0, none⟩) none c 1 0 wc.heap.size h g true ⟨key, val⟩ [] [] p 0 (W4.alloc (.cells #[.int .i64 key, .int .i64 val] 26)) (W4.alloc (.cells #[.int .i64 key, .int .i64 val] 26)) (blk_alloc HBD.out _) (Kd.C_alloc S4.out.cl.1 _) (Below.refl _ _) S4.out.cl.2 (one_it W4 ⟨key, val⟩) (Nat.le_refl _) (Kd.C_nil _ _) HE.out)
    simp only [List.length_cons, List.length_nil, Nat.zero_add] at hlay0
    have HLAY := Aside0.mk hlay0
    clear hlay0
    go_wp2_with (first | (go_at_call 43; (with_reducible refine HLAY.out.mono ?_); rintro e w6 ⟨rfl, ⟨A6, c6, hb6, hc6, hl6⟩, hk6, hs6⟩; have HH6 := Aside0.mk (And.intro hb6 (And.intro hc6 hl6)); have HK6 := Aside0.mk (And.intro hk6 hs6); clear hb6 hc6 hl6 hk6 hs6) | (go_at_call 42; (with_reducible refine (growSettled_walk 0 A6 c6 wc.heap.size g g key p root p 0 w6 HH6.out.1 HH6.out.2.2.now HLEN.out HH6.out.2.1 (HST.out 0)).mono ?_); rintro e w7 ⟨B7, c7, rfl, hc7, hr7, hk7, hs7⟩; have HR7 := Aside0.mk (And.intro hc7 hr7); have HK7 := Aside0.mk (show KeepBut W4 w7 wc.heap.size none ∧ S3 W4 w7 from ⟨keep_trans (keep_al (KeepBut.refl _ _ _) _) (keep_trans HK6.out.1 hk7), S3.trans (S3.below (below_alloc (Below.refl W4.heap.size W4) _)) (S3.trans HK6.out.2 hs7)⟩); have HB7 := Aside0.mk (keep_below S4.out.b0 HK7.out.1 HK7.out.2 (by have := HWC.out; omega)); have HX7 := Aside0.mk (show w7.heap[w.heap.size + 1]? = some (.cells #[.slice none 0 0, .int .i64 0] 24) from (HK7.out.1.2 _ (blk_lt S4.out.hr) (by have := HWC.out; omega) (by simp)).trans S4.out.hr); have e0 := (blk_cell HX7.out 0).trans (show _ = some (Value.slice none 0 0) from rfl); have e1 := (blk_cell HX7.out 1).trans (show _ = some (Value.int .i64 0) from rfl); have f0 := blk_frozen HX7.out 0; have f1 := blk_frozen HX7.out 1; clear hc7 hr7 hk7 hs7) | fail)
    refine bodyPost_ret (results_ctt rfl _ _ (w.heap.size + 1) 24 #[.slice B7 g.c.length c7, .int .i64 g.keep] (0, 0) _ rfl (hb_store HX7.out) Try.underlying24 rfl (by kernel_rfl)) rfl ?_
    exact ⟨B7, c7, rfl, HR7.out.1, cl_store HR7.out.2 HX7.out, below_set (below_set HB7.out (by omega)) (by omega)⟩
end Go.Proofs.Ytopkoganfnabgaa.H
namespace Go.Proofs.Ytopkoganfnabgaa.H
open Go.RowKit Go.Proofs.YtopkoganfnabgaaW.PrintWords Go.Proofs.YtopkoganfnabgaaW.PrintLast Go.Proofs.YtopkoganfnabgaaW.PrintMore
attribute [local go_sem] max2_int min2_int max_two min_two max_three min_three max_four min_four
set_option linter.unusedVariables false
set_option linter.unusedSimpArgs false
set_option maxHeartbeats 4000000 in
set_option maxRecDepth 100000 in
theorem rpFull_walk (A : Option Addr) (c : Nat) (h : Hp) (root key val : Int) (deep : Bool) (n : Nat) (w : World) (hr : kCl.C w A h.c.length h.c) (hcc : h.c.length ≤ c) (hhi : highO 21 h root = some n) (hk : fitsB key = true) (hv : fitsB val = true) (hbad : (decide (n = 20) || !fitsH h (2 * (n : Int) + 1) deep) = true) :
    Calls Try.prog 14 #[.agg #[.slice A h.c.length c, .int .i64 h.keep], .int .i64 root, .int .i64 key, .int .i64 val, .bool deep] w fun e w' => ∃ B cb, e = .returned (.tuple #[.agg #[.slice B h.c.length cb, .int .i64 h.keep], .int .i64 root, .int .i64 3]) ∧ h.c.length ≤ cb ∧ kCl.C w' B h.c.length h.c ∧ Below w.heap.size w w' := by
  (obtain ⟨W1, hW1⟩ : ∃ W1, W1 = (w.alloc (.cells #[.slice A h.c.length c, .int .i64 h.keep] 24)).alloc (.cells #[.slice none 0 0, .int .i64 0] 24) := ⟨_, rfl⟩; have S1 := Aside0.mk (show PuSt w W1 A c h by (rw [hW1]; exact pust w A c h hr hcc)); have c0 := (blk_cell S1.out.hh 0).trans (show _ = some (Value.slice A h.c.length c) from rfl); have c1 := (blk_cell S1.out.hh 1).trans (show _ = some (Value.int .i64 h.keep) from rfl); have HHI := Aside0.mk (fun (W : World) (hb : Below W1.heap.size W1 W) => refHigh_walk 21 A c h root n W (by decide) (Kd.C_below S1.out.cl.1 hb) hhi); have hW1' := Aside0.mk hW1; have HNN := Aside0.mk (show n ≤ 1000 by have := highO_le 21 h root n hhi; omega); have hkk : 0 ≤ key ∧ key ≤ 2147483647 ∧ 0 ≤ val ∧ val ≤ 2147483647 := (by unfold fitsB at hk hv; simp at hk hv; omega); have d2 : decide (key < 0) = false := decide_eq_false (by omega); have d3 : decide (2147483647 < key) = false := decide_eq_false (by omega); have d4 : decide (val < 0) = false := decide_eq_false (by omega); have d5 : decide (2147483647 < val) = false := decide_eq_false (by omega); have HFT0 := Aside0.mk (fun (W : World) (hb : Below W1.heap.size W1 W) => refFits_walk A c h (2 * (n : Int) + 1) deep W (Kd.C_below S1.out.cl.1 hb)); clear hr hcc hW1 hhi hk hv hkk)
  obtain ⟨ff, hff⟩ : ∃ ff, ff = fitsH h (2 * (n : Int) + 1) deep := ⟨_, rfl⟩
  rw [← hff] at HFT0 hbad
  clear hff
  by_cases h20 : n = 20
  · have q0 : ((n : Int) == 20) = true := beq_iff_eq.mpr (by omega)
    have q1 : (n == 20) = true := beq_iff_eq.mpr h20
    clear hbad h20
    (go_enter Try.func14, Try.ntmps14; go_upto_region 1 with (fail); rw [← hW1'.out]; go_upto_region 4 with (first | (go_at_call 21; (with_reducible refine (HHI.out _ (by repeat (first | (with_reducible exact Below.refl _ _) | (with_reducible refine below_alloc ?_ _) | (with_reducible refine below_drew1 ?_) | (with_reducible refine pw_below_drewN ?_ _) | (with_reducible exact Below.refl _ _)))).mono ?_); rintro e w2 ⟨rfl, hb2⟩; have HB2 := Aside0.mk hb2; have d0 := bcell hb2 c0; have d1 := bcell hb2 c1; clear hb2) | fail); have HFT := Aside0.mk (fun (W : World) (hb : Below w2.heap.size w2 W) => HFT0.out W (below_step HB2.out hb)))
    go_region_held3 (fun w' => w'.cell? ⟨w.heap.size, 0, none⟩ = some (.slice A h.c.length c) ∧ w'.cell? ⟨w.heap.size, 1, none⟩ = some (.int .i64 h.keep)) (first | exact ⟨d0, d1⟩ | exact ⟨bcell HB3.out d0, bcell HB3.out d1⟩ | exact (fun (h : Below w2.heap.size w2 _) => ⟨bcell h d0, bcell h d1⟩) (by repeat (first | (with_reducible exact Below.refl _ _) | (with_reducible refine below_alloc ?_ _) | (with_reducible refine below_drew1 ?_) | (with_reducible refine pw_below_drewN ?_ _) | (with_reducible exact HB3.out)))) (first | (go_at_call 46; (with_reducible refine (refNeed_walk n _ HNN.out).mono ?_); rintro e wn ⟨rfl, rfl⟩) | (go_at_call 45; (with_reducible refine (HFT.out _ (by repeat (first | (with_reducible exact Below.refl _ _) | (with_reducible refine below_alloc ?_ _) | (with_reducible refine below_drew1 ?_) | (with_reducible refine pw_below_drewN ?_ _) | (with_reducible exact Below.refl _ _)))).mono ?_); rintro e w3 ⟨rfl, hb3⟩; have HB3 := Aside0.mk (show Below w2.heap.size w2 w3 from below_step (by repeat (first | (with_reducible exact Below.refl _ _) | (with_reducible refine below_alloc ?_ _) | (with_reducible refine below_drew1 ?_) | (with_reducible refine pw_below_drewN ?_ _) | fail)) hb3); clear hb3) | fail)
    all_goals
      have S2 := Aside0.mk (S1.out.step (below_step HB2.out HB3.out))
      have g0 := (blk_cell S2.out.hh 0).trans (show _ = some (Value.slice A h.c.length c) from rfl)
      have g1 := (blk_cell S2.out.hh 1).trans (show _ = some (Value.int .i64 h.keep) from rfl)
      have e0 := (blk_cell S2.out.hr 0).trans (show _ = some (Value.slice none 0 0) from rfl)
      have e1 := (blk_cell S2.out.hr 1).trans (show _ = some (Value.int .i64 0) from rfl)
      have f0 := blk_frozen S2.out.hr 0
      have f1 := blk_frozen S2.out.hr 1
      clear d0 d1
      go_wp2
      refine bodyPost_ret (results_ctt rfl _ _ (w.heap.size + 1) 24 #[.slice A h.c.length c, .int .i64 h.keep] (0, 0) _ rfl (hb_store S2.out.hr) Try.underlying24 rfl (by kernel_rfl)) rfl ?_
      exact ⟨A, c, rfl, S2.out.cl.2, S2.out.same.1, S2.out.same.2⟩
  · have q0 : ((n : Int) == 20) = false := beq_eq_false_iff_ne.mpr (by omega)
    have q1 : (n == 20) = false := beq_eq_false_iff_ne.mpr h20
    obtain rfl : ff = false := by rw [decide_eq_false h20, Bool.false_or] at hbad; simpa using hbad
    clear hbad h20
    (go_enter Try.func14, Try.ntmps14; go_upto_region 1 with (fail); rw [← hW1'.out]; go_upto_region 4 with (first | (go_at_call 21; (with_reducible refine (HHI.out _ (by repeat (first | (with_reducible exact Below.refl _ _) | (with_reducible refine below_alloc ?_ _) | (with_reducible refine below_drew1 ?_) | (with_reducible refine pw_below_drewN ?_ _) | (with_reducible exact Below.refl _ _)))).mono ?_); rintro e w2 ⟨rfl, hb2⟩; have HB2 := Aside0.mk hb2; have d0 := bcell hb2 c0; have d1 := bcell hb2 c1; clear hb2) | fail); have HFT := Aside0.mk (fun (W : World) (hb : Below w2.heap.size w2 W) => HFT0.out W (below_step HB2.out hb)))
    go_region_held3 (fun w' => w'.cell? ⟨w.heap.size, 0, none⟩ = some (.slice A h.c.length c) ∧ w'.cell? ⟨w.heap.size, 1, none⟩ = some (.int .i64 h.keep)) (first | exact ⟨d0, d1⟩ | exact ⟨bcell HB3.out d0, bcell HB3.out d1⟩ | exact (fun (h : Below w2.heap.size w2 _) => ⟨bcell h d0, bcell h d1⟩) (by repeat (first | (with_reducible exact Below.refl _ _) | (with_reducible refine below_alloc ?_ _) | (with_reducible refine below_drew1 ?_) | (with_reducible refine pw_below_drewN ?_ _) | (with_reducible exact HB3.out)))) (first | (go_at_call 46; (with_reducible refine (refNeed_walk n _ HNN.out).mono ?_); rintro e wn ⟨rfl, rfl⟩) | (go_at_call 45; (with_reducible refine (HFT.out _ (by repeat (first | (with_reducible exact Below.refl _ _) | (with_reducible refine below_alloc ?_ _) | (with_reducible refine below_drew1 ?_) | (with_reducible refine pw_below_drewN ?_ _) | (with_reducible exact Below.refl _ _)))).mono ?_); rintro e w3 ⟨rfl, hb3⟩; have HB3 := Aside0.mk (show Below w2.heap.size w2 w3 from below_step (by repeat (first | (with_reducible exact Below.refl _ _) | (with_reducible refine below_alloc ?_ _) | (with_reducible refine below_drew1 ?_) | (with_reducible refine pw_below_drewN ?_ _) | fail)) hb3); clear hb3) | fail)
    all_goals
      have S2 := Aside0.mk (S1.out.step (below_step HB2.out HB3.out))
      have g0 := (blk_cell S2.out.hh 0).trans (show _ = some (Value.slice A h.c.length c) from rfl)
      have g1 := (blk_cell S2.out.hh 1).trans (show _ = some (Value.int .i64 h.keep) from rfl)
      have e0 := (blk_cell S2.out.hr 0).trans (show _ = some (Value.slice none 0 0) from rfl)
      have e1 := (blk_cell S2.out.hr 1).trans (show _ = some (Value.int .i64 0) from rfl)
      have f0 := blk_frozen S2.out.hr 0
      have f1 := blk_frozen S2.out.hr 1
      clear d0 d1
      go_wp2
      refine bodyPost_ret (results_ctt rfl _ _ (w.heap.size + 1) 24 #[.slice A h.c.length c, .int .i64 h.keep] (0, 0) _ rfl (hb_store S2.out.hr) Try.underlying24 rfl (by kernel_rfl)) rfl ?_
      exact ⟨A, c, rfl, S2.out.cl.2, S2.out.same.1, S2.out.same.2⟩
end Go.Proofs.Ytopkoganfnabgaa.H
namespace Go.Proofs.Ytopkoganfnabgaa.H
open Go.RowKit Go.Proofs.YtopkoganfnabgaaW.PrintWords Go.Proofs.YtopkoganfnabgaaW.PrintLast Go.Proofs.YtopkoganfnabgaaW.PrintMore
attribute [local go_sem] max2_int min2_int max_two min_two max_three min_three max_four min_four
set_option linter.unusedVariables false
set_option linter.unusedSimpArgs false
set_option maxHeartbeats 4000000 in
set_option maxRecDepth 100000 in
theorem rpNew_walk (A : Option Addr) (c : Nat) (h g : Hp) (root key val p : Int) (deep : Bool) (n : Nat) (w : World) (hr : kCl.C w A h.c.length h.c) (hcc : h.c.length ≤ c) (hhi : highO 21 h root = some n) (hk : fitsB key = true) (hv : fitsB val = true) (h20 : ¬ n = 20) (hff : fitsH h (2 * (n : Int) + 1) deep = true) (hro : root < 0)
    (e : allocO h ⟨true, [⟨key, val⟩]⟩ [] = some (g, p, 0)) :
    Calls Try.prog 14 #[.agg #[.slice A h.c.length c, .int .i64 h.keep], .int .i64 root, .int .i64 key, .int .i64 val, .bool deep] w fun e w' => ∃ B cb, e = .returned (.tuple #[.agg #[.slice B g.c.length cb, .int .i64 g.keep], .int .i64 p, .int .i64 0]) ∧ g.c.length ≤ cb ∧ kCl.C w' B g.c.length g.c ∧ Below w.heap.size w w' := by
  (obtain ⟨W1, hW1⟩ : ∃ W1, W1 = (w.alloc (.cells #[.slice A h.c.length c, .int .i64 h.keep] 24)).alloc (.cells #[.slice none 0 0, .int .i64 0] 24) := ⟨_, rfl⟩; have S1 := Aside0.mk (show PuSt w W1 A c h by (rw [hW1]; exact pust w A c h hr hcc)); have c0 := (blk_cell S1.out.hh 0).trans (show _ = some (Value.slice A h.c.length c) from rfl); have c1 := (blk_cell S1.out.hh 1).trans (show _ = some (Value.int .i64 h.keep) from rfl); have HHI := Aside0.mk (fun (W : World) (hb : Below W1.heap.size W1 W) => refHigh_walk 21 A c h root n W (by decide) (Kd.C_below S1.out.cl.1 hb) hhi); have hW1' := Aside0.mk hW1; have HNN := Aside0.mk (show n ≤ 1000 by have := highO_le 21 h root n hhi; omega); have hkk : 0 ≤ key ∧ key ≤ 2147483647 ∧ 0 ≤ val ∧ val ≤ 2147483647 := (by unfold fitsB at hk hv; simp at hk hv; omega); have d2 : decide (key < 0) = false := decide_eq_false (by omega); have d3 : decide (2147483647 < key) = false := decide_eq_false (by omega); have d4 : decide (val < 0) = false := decide_eq_false (by omega); have d5 : decide (2147483647 < val) = false := decide_eq_false (by omega); have HFT0 := Aside0.mk (fun (W : World) (hb : Below W1.heap.size W1 W) => refFits_walk A c h (2 * (n : Int) + 1) deep W (Kd.C_below S1.out.cl.1 hb)); clear hr hcc hW1 hhi hk hv hkk)
  rw [hff] at HFT0
  have q0 : ((n : Int) == 20) = false := beq_eq_false_iff_ne.mpr (by omega)
  have q1 : (n == 20) = false := beq_eq_false_iff_ne.mpr h20
  have HE := Aside0.mk e
  have r1 : decide (root < 0) = true := decide_eq_true hro
  clear e h20 hff hro
  (go_enter Try.func14, Try.ntmps14; go_upto_region 1 with (fail); rw [← hW1'.out]; go_upto_region 4 with (first | (go_at_call 21; (with_reducible refine (HHI.out _ (by repeat (first | (with_reducible exact Below.refl _ _) | (with_reducible refine below_alloc ?_ _) | (with_reducible refine below_drew1 ?_) | (with_reducible refine pw_below_drewN ?_ _) | (with_reducible exact Below.refl _ _)))).mono ?_); rintro e w2 ⟨rfl, hb2⟩; have HB2 := Aside0.mk hb2; have d0 := bcell hb2 c0; have d1 := bcell hb2 c1; clear hb2) | fail); have HFT := Aside0.mk (fun (W : World) (hb : Below w2.heap.size w2 W) => HFT0.out W (below_step HB2.out hb)))
  (go_cut [14] from 43 to 47 (fun v14 wc => v14 = .bool true ∧ Aside0 (Below W1.heap.size W1 wc)))
  case first => (go_region_held3 (fun w' => w'.cell? ⟨w.heap.size, 0, none⟩ = some (.slice A h.c.length c) ∧ w'.cell? ⟨w.heap.size, 1, none⟩ = some (.int .i64 h.keep)) (first | exact ⟨d0, d1⟩ | exact ⟨bcell HB3.out d0, bcell HB3.out d1⟩ | exact (fun (h : Below w2.heap.size w2 _) => ⟨bcell h d0, bcell h d1⟩) (by repeat (first | (with_reducible exact Below.refl _ _) | (with_reducible refine below_alloc ?_ _) | (with_reducible refine below_drew1 ?_) | (with_reducible refine pw_below_drewN ?_ _) | (with_reducible exact HB3.out)))) (first | (go_at_call 46; (with_reducible refine (refNeed_walk n _ HNN.out).mono ?_); rintro e wn ⟨rfl, rfl⟩) | (go_at_call 45; (with_reducible refine (HFT.out _ (by repeat (first | (with_reducible exact Below.refl _ _) | (with_reducible refine below_alloc ?_ _) | (with_reducible refine below_drew1 ?_) | (with_reducible refine pw_below_drewN ?_ _) | (with_reducible exact Below.refl _ _)))).mono ?_); rintro e w3 ⟨rfl, hb3⟩; have HB3 := Aside0.mk (show Below w2.heap.size w2 w3 from below_step (by repeat (first | (with_reducible exact Below.refl _ _) | (with_reducible refine below_alloc ?_ _) | (with_reducible refine below_drew1 ?_) | (with_reducible refine pw_below_drewN ?_ _) | fail)) hb3); clear hb3) | fail); all_goals (go_wp2; go_meet; case rel => exact ⟨rfl, ⟨below_step HB2.out HB3.out⟩⟩))
  case rest =>
    (obtain ⟨rfl, HBc⟩ := hcut; have Sc := Aside0.mk (S1.out.step HBc.out); clear c0 c1 d0 d1; have g0 := (blk_cell Sc.out.hh 0).trans (show _ = some (Value.slice A h.c.length c) from rfl); have g1 := (blk_cell Sc.out.hh 1).trans (show _ = some (Value.int .i64 h.keep) from rfl); obtain ⟨W4, hW4⟩ : ∃ W4, W4 = wc.alloc (.cells #[.int .i64 key, .int .i64 val] 26) := ⟨_, rfl⟩; have hb4 : Below wc.heap.size wc W4 := (by rw [hW4]; exact below_alloc (Below.refl _ _) _); have S4 := Aside0.mk (Sc.out.step hb4); have HIT := Aside0.mk (show W4.heap[wc.heap.size]? = some (.cells #[.int .i64 key, .int .i64 val] 26) by (rw [hW4]; exact blk_new wc _)); have hW4' := Aside0.mk hW4; clear hW4 hb4; go_upto_region 8 with (fail); rw [← hW4'.out]; clear g0 g1; have g0 := (blk_cell S4.out.hh 0).trans (show _ = some (Value.slice A h.c.length c) from rfl); have g1 := (blk_cell S4.out.hh 1).trans (show _ = some (Value.int .i64 h.keep) from rfl); have k0 := (blk_cell HIT.out 0).trans (show _ = some (Value.int .i64 key) from rfl); have k1 := (blk_cell HIT.out 1).trans (show _ = some (Value.int .i64 val) from rfl))
    have hal0 := refAlloc_walk A (some ⟨W4.heap.size, 0, none⟩) none c 1 0 h g ⟨true, [⟨key, val⟩]⟩ [] p 0 (W4.alloc (.cells #[.int .i64 key, .int .i64 val] 26)) (W4.alloc (.cells #[.int .i64 key, .int .i64 val] 26)) (Kd.C_alloc S4.out.cl.1 _) (Below.refl _ _) S4.out.cl.2 (one_it W4 ⟨key, val⟩) (Nat.le_refl _) (Kd.C_nil _ _) HE.out
    simp only [List.length_cons, List.length_nil, Nat.zero_add] at hal0
    have HAL := Aside0.mk hal0
    clear hal0
    go_wp2_with (first | (go_at_call 47; (with_reducible refine HAL.out.mono ?_); rintro e w7 ⟨B7, c7, rfl, hc7, hl7, hb7⟩; have HR7 := Aside0.mk (And.intro hc7 hl7.now); have S7 := Aside0.mk (S4.out.step (below_step (below_alloc (Below.refl _ _) _) hb7)); have e0 := (blk_cell S7.out.hr 0).trans (show _ = some (Value.slice none 0 0) from rfl); have e1 := (blk_cell S7.out.hr 1).trans (show _ = some (Value.int .i64 0) from rfl); have f0 := blk_frozen S7.out.hr 0; have f1 := blk_frozen S7.out.hr 1; clear hc7 hl7 hb7) | fail)
    refine bodyPost_ret (results_ctt rfl _ _ (w.heap.size + 1) 24 #[.slice B7 g.c.length c7, .int .i64 g.keep] (0, 0) _ rfl (hb_store S7.out.hr) Try.underlying24 rfl (by kernel_rfl)) rfl ?_
    exact ⟨B7, c7, rfl, HR7.out.1, cl_store HR7.out.2 S7.out.hr, below_set (below_set S7.out.b0 (by omega)) (by omega)⟩
end Go.Proofs.Ytopkoganfnabgaa.H
namespace Go.Proofs.Ytopkoganfnabgaa.H
open Go.RowKit Go.Proofs.YtopkoganfnabgaaW.PrintWords Go.Proofs.YtopkoganfnabgaaW.PrintLast Go.Proofs.YtopkoganfnabgaaW.PrintMore
attribute [local go_sem] max2_int min2_int max_two min_two max_three min_three max_four min_four
set_option linter.unusedVariables false
set_option linter.unusedSimpArgs false
theorem layO_len {lf : Bool} {held : List Int} : ∀ (rows : List (List It)) (h g : Hp) (l : List It), layO h lf held rows = some (g, l) → g.c.length = h.c.length ∧ l.length = rows.length ∧ (l ≠ [] → h.c.length ≤ 2000)
  | [], h, g, l, e => by
    unfold layO at e
    simp only [Option.some.injEq, Prod.mk.injEq] at e
    obtain ⟨rfl, rfl⟩ := e
    exact ⟨rfl, rfl, fun h => absurd rfl h⟩
  | [] :: _, h, g, l, e => by unfold layO at e; cases e
  | (x :: s) :: rows, h, g, l, e => by
    obtain ⟨g1, p, er, l1, h1, h2, rfl⟩ := layO_inv e
    obtain ⟨e1, e2, e3⟩ := layO_len rows g1 g l1 h2
    obtain ⟨a1, a2⟩ := allocO_len h1
    exact ⟨e1.trans a1, by simp [e2], fun _ => a2⟩
theorem anewO_len {f : Nat} {h g : Hp} {p : Int} {x : It} {made : List It} (e : anewO f h p x = some (g, made)) : made.length ≤ 2 ∧ (made ≠ [] → g.c.length ≤ 2000) := by
  cases f with
  | zero => simp [anewO] at e
  | succ f =>
    obtain ⟨_, i, is, h1, more, gone, held, l1, rows, _, _, _, _, hs, hl⟩ := anewO_inv e
    obtain ⟨e1, e2, e3⟩ := layO_len rows h1 g made hl
    exact ⟨by rw [e2]; exact splitO_len hs, fun hne => by rw [e1]; exact e3 hne⟩
set_option maxHeartbeats 4000000 in
set_option maxRecDepth 100000 in
theorem putOne_walk (A : Option Addr) (c : Nat) (h g h' : Hp) (root key val p er : Int) (deep : Bool) (n f : Nat) (y : It) (w : World) (hr : kCl.C w A h.c.length h.c) (hcc : h.c.length ≤ c) (hhi : highO 21 h root = some n) (hk : fitsB key = true) (hv : fitsB val = true) (h20 : ¬ n = 20) (hff : fitsH h (2 * (n : Int) + 1) deep = true) (hro : ¬ root < 0)
    (e : anewO 20 h root ⟨key, val⟩ = some (g, [y])) (es : settledO f g y.v root = some (h', p, er)) :
    Calls Try.prog 13 #[.agg #[.slice A h.c.length c, .int .i64 h.keep], .int .i64 root, .int .i64 key, .int .i64 val, .bool deep] w fun e w' => ∃ B cb, e = .returned (.tuple #[.agg #[.slice B h'.c.length cb, .int .i64 h'.keep], .int .i64 p, .int .i64 er]) ∧ h'.c.length ≤ cb ∧ kCl.C w' B h'.c.length h'.c ∧ Below w.heap.size w w' := by
  (obtain ⟨W1, hW1⟩ : ∃ W1, W1 = (w.alloc (.cells #[.slice A h.c.length c, .int .i64 h.keep] 24)).alloc (.cells #[.slice none 0 0, .int .i64 0] 24) := ⟨_, rfl⟩; have S1 := Aside0.mk (show PuSt w W1 A c h by (rw [hW1]; exact pust w A c h hr hcc)); have c0 := (blk_cell S1.out.hh 0).trans (show _ = some (Value.slice A h.c.length c) from rfl); have c1 := (blk_cell S1.out.hh 1).trans (show _ = some (Value.int .i64 h.keep) from rfl); have HHI := Aside0.mk (fun (W : World) (hb : Below W1.heap.size W1 W) => high_walk 21 A c h root n W (by decide) (Kd.C_below S1.out.cl.1 hb) hhi); have hW1' := Aside0.mk hW1; have HN := Aside0.mk (show n ≤ 1000 by have := highO_le 21 h root n hhi; omega); clear hr hcc hW1 hhi; have HFK := Aside0.mk (fun W => growFits_walk key W); have HFV := Aside0.mk (fun W => growFits_walk val W); rw [hk] at HFK; rw [hv] at HFV; have q0 : ((n : Int) == 20) = false := beq_eq_false_iff_ne.mpr (by omega); have q1 : (n == 20) = false := beq_eq_false_iff_ne.mpr h20; have HFT0 := Aside0.mk (fun (W : World) (hb : Below W1.heap.size W1 W) => fits_walk A c h (2 * (n : Int) + 1) deep W (Kd.C_below S1.out.cl.1 hb)); rw [hff] at HFT0; clear hk hv h20 hff)
  obtain ⟨made, hmade⟩ : ∃ made, made = [y] := ⟨_, rfl⟩
  rw [← hmade] at e
  have hlen := (anewO_len e).2 (by rw [hmade]; simp)
  have HE := Aside0.mk e
  have HES := Aside0.mk es
  have HLEN := Aside0.mk hlen
  have HML := Aside0.mk (show 0 < made.length ∧ itAt made 0 = y by rw [hmade]; exact ⟨by simp, rfl⟩)
  have r1 : decide (root < 0) = false := decide_eq_false hro
  have r2 : ((made.length : Int) == 1) = true := by rw [hmade]; rfl
  have r3 : (made.length == 1) = true := by rw [hmade]; rfl
  have r4 : (0 < made.length) = True := eq_true HML.out.1
  have r5 : ((0 : Int) < (made.length : Int)) = True := eq_true (by have := HML.out.1; omega)
  clear e es hlen hro hmade
  (go_enter Try.func13, Try.ntmps13; go_upto_region 1 with (fail); rw [← hW1'.out]; go_upto_region 4 with (first | (go_at_call 38; (with_reducible refine (HHI.out _ (by repeat (first | (with_reducible exact Below.refl _ _) | (with_reducible refine below_alloc ?_ _) | (with_reducible refine below_drew1 ?_) | (with_reducible refine pw_below_drewN ?_ _) | (with_reducible exact Below.refl _ _)))).mono ?_); rintro e w2 ⟨rfl, hb2⟩; have HB2 := Aside0.mk hb2; have d0 := bcell hb2 c0; have d1 := bcell hb2 c1; clear hb2) | (go_at_call 39; (with_reducible refine (HFK.out _).mono ?_); rintro e wk ⟨rfl, rfl⟩) | (go_at_call 39; (with_reducible refine (HFV.out _).mono ?_); rintro e wv ⟨rfl, rfl⟩) | fail); have HFT := Aside0.mk (fun (W : World) (hb : Below w2.heap.size w2 W) => HFT0.out W (below_step HB2.out hb)); go_cut [34] from 35 to 44 (fun v34 wc => v34 = .bool false ∧ Aside0 (Below W1.heap.size W1 wc)))
  case first => (go_region_held3 (fun w' => w'.cell? ⟨w.heap.size, 0, none⟩ = some (.slice A h.c.length c) ∧ w'.cell? ⟨w.heap.size, 1, none⟩ = some (.int .i64 h.keep)) (first | exact ⟨d0, d1⟩ | exact ⟨bcell HB3.out d0, bcell HB3.out d1⟩ | exact (fun (h : Below w2.heap.size w2 _) => ⟨bcell h d0, bcell h d1⟩) (by repeat (first | (with_reducible exact Below.refl _ _) | (with_reducible refine below_alloc ?_ _) | (with_reducible refine below_drew1 ?_) | (with_reducible refine pw_below_drewN ?_ _) | (with_reducible exact HB3.out)))) (first | (go_at_call 41; (with_reducible refine (need_walk n _ HN.out).mono ?_); rintro e wn ⟨rfl, rfl⟩) | (go_at_call 40; (with_reducible refine (HFT.out _ (by repeat (first | (with_reducible exact Below.refl _ _) | (with_reducible refine below_alloc ?_ _) | (with_reducible refine below_drew1 ?_) | (with_reducible refine pw_below_drewN ?_ _) | (with_reducible exact Below.refl _ _)))).mono ?_); rintro e w3 ⟨rfl, hb3⟩; have HB3 := Aside0.mk (show Below w2.heap.size w2 w3 from below_step (by repeat (first | (with_reducible exact Below.refl _ _) | (with_reducible refine below_alloc ?_ _) | (with_reducible refine below_drew1 ?_) | (with_reducible refine pw_below_drewN ?_ _) | fail)) hb3); clear hb3) | fail); all_goals (go_wp2; go_meet; case rel => exact ⟨rfl, ⟨below_step HB2.out HB3.out⟩⟩))
  case rest =>
    (obtain ⟨rfl, HBc⟩ := hcut; have Sc := Aside0.mk (S1.out.step HBc.out); have g0 := (blk_cell Sc.out.hh 0).trans (show _ = some (Value.slice A h.c.length c) from rfl); have g1 := (blk_cell Sc.out.hh 1).trans (show _ = some (Value.int .i64 h.keep) from rfl); clear c0 c1 d0 d1; obtain ⟨W4, hW4⟩ : ∃ W4, W4 = (wc.alloc (.cells #[.slice A h.c.length c, .int .i64 h.keep] 86)).alloc (.cells #[.int .i64 key, .int .i64 val] 26) := ⟨_, rfl⟩; have hb4 : Below wc.heap.size wc W4 := (by rw [hW4]; exact below_alloc (below_alloc (Below.refl _ _) _) _); have S4 := Aside0.mk (Sc.out.step hb4); have HBD := Aside0.mk (show W4.heap[wc.heap.size]? = some (.cells #[.slice A h.c.length c, .int .i64 h.keep] 86) by (rw [hW4]; exact blk_alloc (blk_new wc _) _)); have HIT := Aside0.mk (show W4.heap[wc.heap.size + 1]? = some (.cells #[.int .i64 key, .int .i64 val] 26) by (rw [hW4]; exact blk2 wc _ _)); have hW4' := Aside0.mk hW4; have HWC := Aside0.mk (show w.heap.size + 1 < wc.heap.size from blk_lt Sc.out.hr); clear hW4 hb4; go_upto_region 7 with (fail); rw [← hW4'.out]; have k0 := (blk_cell HIT.out 0).trans (show _ = some (Value.int .i64 key) from rfl); have k1 := (blk_cell HIT.out 1).trans (show _ = some (Value.int .i64 val) from rfl); clear g0 g1)
    have HAN := Aside0.mk (growAnew_walk 20 A c wc.heap.size h g root ⟨key, val⟩ made W4 HBD.out S4.out.cl.1 S4.out.cl.2 HE.out)
    go_wp2_with (first | (go_at_call 44; (with_reducible refine HAN.out.mono ?_); rintro e w6 ⟨⟨M, cm, rfl, hcm, hM⟩, ⟨A6, c6, hb6, hc6, hl6⟩, hk6, hs6⟩; have HM := Aside0.mk (And.intro hcm hM); obtain ⟨ad6, rfl, z0, z1⟩ := at_it0 hM HML.out.1; rw [HML.out.2] at z0 z1; have HH6 := Aside0.mk (And.intro hb6 (And.intro hc6 hl6)); have HK6 := Aside0.mk (And.intro hk6 hs6); have t0 := (blk_cell hb6 0).trans (show _ = some (Value.slice A6 g.c.length c6) from rfl); have t1 := (blk_cell hb6 1).trans (show _ = some (Value.int .i64 g.keep) from rfl); have f8 := blk_frozen hb6 0; have f9 := blk_frozen hb6 1; clear hcm hM hb6 hc6 hl6 hk6 hs6) | (go_at_call 42; (with_reducible refine (growSettled_walk f A6 c6 wc.heap.size g h' y.k y.v root p er w6 HH6.out.1 HH6.out.2.2 HLEN.out HH6.out.2.1 HES.out).mono ?_); rintro e w7 ⟨B7, c7, rfl, hc7, hr7, hk7, hs7⟩; have HR7 := Aside0.mk (And.intro hc7 hr7); have HK7 := Aside0.mk (show KeepBut W4 w7 wc.heap.size none ∧ S3 W4 w7 from ⟨keep_trans HK6.out.1 hk7, S3.trans HK6.out.2 hs7⟩); (have HB7 := Aside0.mk (keep_below S4.out.b0 HK7.out.1 HK7.out.2 (by have := HWC.out; omega)); have HX7 := Aside0.mk (show w7.heap[w.heap.size + 1]? = some (.cells #[.slice none 0 0, .int .i64 0] 24) from (HK7.out.1.2 _ (blk_lt S4.out.hr) (by have := HWC.out; omega) (by simp)).trans S4.out.hr); have e0 := (blk_cell HX7.out 0).trans (show _ = some (Value.slice none 0 0) from rfl); have e1 := (blk_cell HX7.out 1).trans (show _ = some (Value.int .i64 0) from rfl); have f0 := blk_frozen HX7.out 0; have f1 := blk_frozen HX7.out 1; clear hc7 hr7 hk7 hs7)) | fail)
    refine bodyPost_ret (results_ctt rfl _ _ (w.heap.size + 1) 24 #[.slice B7 h'.c.length c7, .int .i64 h'.keep] (0, 0) _ rfl (hb_store HX7.out) Try.underlying24 rfl (by kernel_rfl)) rfl ?_
    exact ⟨B7, c7, rfl, HR7.out.1, cl_store HR7.out.2 HX7.out, below_set (below_set HB7.out (by omega)) (by omega)⟩
set_option maxHeartbeats 4000000 in
set_option maxRecDepth 100000 in
theorem putOver_walk (A : Option Addr) (c : Nat) (h g g2 h' : Hp) (root key val p p2 er er2 : Int) (deep : Bool) (n f : Nat) (y z : It) (r : List It) (w : World) (hr : kCl.C w A h.c.length h.c) (hcc : h.c.length ≤ c) (hhi : highO 21 h root = some n) (hk : fitsB key = true) (hv : fitsB val = true) (h20 : ¬ n = 20) (hff : fitsH h (2 * (n : Int) + 1) deep = true) (hro : ¬ root < 0)
    (e : anewO 20 h root ⟨key, val⟩ = some (g, y :: z :: r)) (eo : overO g (y :: z :: r) = some (g2, p2, er2)) (es : settledO f g2 p2 root = some (h', p, er)) :
    Calls Try.prog 13 #[.agg #[.slice A h.c.length c, .int .i64 h.keep], .int .i64 root, .int .i64 key, .int .i64 val, .bool deep] w fun e w' => ∃ B cb, e = .returned (.tuple #[.agg #[.slice B h'.c.length cb, .int .i64 h'.keep], .int .i64 p, .int .i64 er]) ∧ h'.c.length ≤ cb ∧ kCl.C w' B h'.c.length h'.c ∧ Below w.heap.size w w' := by
  (obtain ⟨W1, hW1⟩ : ∃ W1, W1 = (w.alloc (.cells #[.slice A h.c.length c, .int .i64 h.keep] 24)).alloc (.cells #[.slice none 0 0, .int .i64 0] 24) := ⟨_, rfl⟩; have S1 := Aside0.mk (show PuSt w W1 A c h by (rw [hW1]; exact pust w A c h hr hcc)); have c0 := (blk_cell S1.out.hh 0).trans (show _ = some (Value.slice A h.c.length c) from rfl); have c1 := (blk_cell S1.out.hh 1).trans (show _ = some (Value.int .i64 h.keep) from rfl); have HHI := Aside0.mk (fun (W : World) (hb : Below W1.heap.size W1 W) => high_walk 21 A c h root n W (by decide) (Kd.C_below S1.out.cl.1 hb) hhi); have hW1' := Aside0.mk hW1; have HN := Aside0.mk (show n ≤ 1000 by have := highO_le 21 h root n hhi; omega); clear hr hcc hW1 hhi; have HFK := Aside0.mk (fun W => growFits_walk key W); have HFV := Aside0.mk (fun W => growFits_walk val W); rw [hk] at HFK; rw [hv] at HFV; have q0 : ((n : Int) == 20) = false := beq_eq_false_iff_ne.mpr (by omega); have q1 : (n == 20) = false := beq_eq_false_iff_ne.mpr h20; have HFT0 := Aside0.mk (fun (W : World) (hb : Below W1.heap.size W1 W) => fits_walk A c h (2 * (n : Int) + 1) deep W (Kd.C_below S1.out.cl.1 hb)); rw [hff] at HFT0; clear hk hv h20 hff)
  obtain ⟨made, hmade⟩ : ∃ made, made = y :: z :: r := ⟨_, rfl⟩
  rw [← hmade] at e eo
  have hlen := (anewO_len e).2 (by rw [hmade]; simp)
  have hlen2 : g2.c.length = g.c.length := (allocO_len eo).1
  have HE := Aside0.mk e
  have HEO := Aside0.mk eo
  have HES := Aside0.mk es
  have HLEN := Aside0.mk (show g2.c.length ≤ 2000 by omega)
  have HMD := Aside0.mk (show made.length ≤ 1000 by have := (anewO_len e).1; omega)
  have HML := Aside0.mk (show 0 < made.length ∧ itAt made 0 = y by rw [hmade]; exact ⟨by simp, rfl⟩)
  have r1 : decide (root < 0) = false := decide_eq_false hro
  have r2 : ((made.length : Int) == 1) = false := by rw [hmade]; exact beq_eq_false_iff_ne.mpr (by simp; omega)
  have r3 : (made.length == 1) = false := by rw [hmade]; exact beq_eq_false_iff_ne.mpr (by simp)
  clear e eo es hlen hlen2 hro hmade
  (go_enter Try.func13, Try.ntmps13; go_upto_region 1 with (fail); rw [← hW1'.out]; go_upto_region 4 with (first | (go_at_call 38; (with_reducible refine (HHI.out _ (by repeat (first | (with_reducible exact Below.refl _ _) | (with_reducible refine below_alloc ?_ _) | (with_reducible refine below_drew1 ?_) | (with_reducible refine pw_below_drewN ?_ _) | (with_reducible exact Below.refl _ _)))).mono ?_); rintro e w2 ⟨rfl, hb2⟩; have HB2 := Aside0.mk hb2; have d0 := bcell hb2 c0; have d1 := bcell hb2 c1; clear hb2) | (go_at_call 39; (with_reducible refine (HFK.out _).mono ?_); rintro e wk ⟨rfl, rfl⟩) | (go_at_call 39; (with_reducible refine (HFV.out _).mono ?_); rintro e wv ⟨rfl, rfl⟩) | fail); have HFT := Aside0.mk (fun (W : World) (hb : Below w2.heap.size w2 W) => HFT0.out W (below_step HB2.out hb)); go_cut [34] from 35 to 44 (fun v34 wc => v34 = .bool false ∧ Aside0 (Below W1.heap.size W1 wc)))
  case first => (go_region_held3 (fun w' => w'.cell? ⟨w.heap.size, 0, none⟩ = some (.slice A h.c.length c) ∧ w'.cell? ⟨w.heap.size, 1, none⟩ = some (.int .i64 h.keep)) (first | exact ⟨d0, d1⟩ | exact ⟨bcell HB3.out d0, bcell HB3.out d1⟩ | exact (fun (h : Below w2.heap.size w2 _) => ⟨bcell h d0, bcell h d1⟩) (by repeat (first | (with_reducible exact Below.refl _ _) | (with_reducible refine below_alloc ?_ _) | (with_reducible refine below_drew1 ?_) | (with_reducible refine pw_below_drewN ?_ _) | (with_reducible exact HB3.out)))) (first | (go_at_call 41; (with_reducible refine (need_walk n _ HN.out).mono ?_); rintro e wn ⟨rfl, rfl⟩) | (go_at_call 40; (with_reducible refine (HFT.out _ (by repeat (first | (with_reducible exact Below.refl _ _) | (with_reducible refine below_alloc ?_ _) | (with_reducible refine below_drew1 ?_) | (with_reducible refine pw_below_drewN ?_ _) | (with_reducible exact Below.refl _ _)))).mono ?_); rintro e w3 ⟨rfl, hb3⟩; have HB3 := Aside0.mk (show Below w2.heap.size w2 w3 from below_step (by repeat (first | (with_reducible exact Below.refl _ _) | (with_reducible refine below_alloc ?_ _) | (with_reducible refine below_drew1 ?_) | (with_reducible refine pw_below_drewN ?_ _) | fail)) hb3); clear hb3) | fail); all_goals (go_wp2; go_meet; case rel => exact ⟨rfl, ⟨below_step HB2.out HB3.out⟩⟩))
  case rest =>
    (obtain ⟨rfl, HBc⟩ := hcut; have Sc := Aside0.mk (S1.out.step HBc.out); have g0 := (blk_cell Sc.out.hh 0).trans (show _ = some (Value.slice A h.c.length c) from rfl); have g1 := (blk_cell Sc.out.hh 1).trans (show _ = some (Value.int .i64 h.keep) from rfl); clear c0 c1 d0 d1; obtain ⟨W4, hW4⟩ : ∃ W4, W4 = (wc.alloc (.cells #[.slice A h.c.length c, .int .i64 h.keep] 86)).alloc (.cells #[.int .i64 key, .int .i64 val] 26) := ⟨_, rfl⟩; have hb4 : Below wc.heap.size wc W4 := (by rw [hW4]; exact below_alloc (below_alloc (Below.refl _ _) _) _); have S4 := Aside0.mk (Sc.out.step hb4); have HBD := Aside0.mk (show W4.heap[wc.heap.size]? = some (.cells #[.slice A h.c.length c, .int .i64 h.keep] 86) by (rw [hW4]; exact blk_alloc (blk_new wc _) _)); have HIT := Aside0.mk (show W4.heap[wc.heap.size + 1]? = some (.cells #[.int .i64 key, .int .i64 val] 26) by (rw [hW4]; exact blk2 wc _ _)); have hW4' := Aside0.mk hW4; have HWC := Aside0.mk (show w.heap.size + 1 < wc.heap.size from blk_lt Sc.out.hr); clear hW4 hb4; go_upto_region 7 with (fail); rw [← hW4'.out]; have k0 := (blk_cell HIT.out 0).trans (show _ = some (Value.int .i64 key) from rfl); have k1 := (blk_cell HIT.out 1).trans (show _ = some (Value.int .i64 val) from rfl); clear g0 g1)
    have HAN := Aside0.mk (growAnew_walk 20 A c wc.heap.size h g root ⟨key, val⟩ made W4 HBD.out S4.out.cl.1 S4.out.cl.2 HE.out)
    go_upto_region 13 with (first | (go_at_call 44; (with_reducible refine HAN.out.mono ?_); rintro e w6 ⟨⟨M, cm, rfl, hcm, hM⟩, ⟨A6, c6, hb6, hc6, hl6⟩, hk6, hs6⟩; have HM := Aside0.mk (And.intro hcm hM); obtain ⟨ad6, rfl, z0, z1⟩ := at_it0 hM HML.out.1; rw [HML.out.2] at z0 z1; have HH6 := Aside0.mk (And.intro hb6 (And.intro hc6 hl6)); have HK6 := Aside0.mk (And.intro hk6 hs6); have t0 := (blk_cell hb6 0).trans (show _ = some (Value.slice A6 g.c.length c6) from rfl); have t1 := (blk_cell hb6 1).trans (show _ = some (Value.int .i64 g.keep) from rfl); have f8 := blk_frozen hb6 0; have f9 := blk_frozen hb6 1; clear hcm hM hb6 hc6 hl6 hk6 hs6) | (go_at_call 15; (with_reducible refine (growOver_walk A6 (some ad6) c6 cm g g2 made p2 er2 w6 HH6.out.2.2 HH6.out.2.1 HM.out.2 HM.out.1 HMD.out HEO.out).mono ?_); rintro e w7 ⟨A8, c8, rfl, hc8, hr8, hb8⟩; have HR8 := Aside0.mk (And.intro hc8 hr8); have HB8 := Aside0.mk hb8; clear hc8 hr8 hb8) | fail)
    obtain ⟨W8, hW8⟩ : ∃ W8, W8 = w7.alloc (.cells #[.slice A8 g2.c.length c8, .int .i64 g2.keep] 24) := ⟨_, rfl⟩
    have hb68 : Below w6.heap.size w6 W8 := by rw [hW8]; exact below_alloc HB8.out _
    have HB68 := Aside0.mk hb68
    have HV8 := Aside0.mk (show W8.heap[w7.heap.size]? = some (.cells #[.slice A8 g2.c.length c8, .int .i64 g2.keep] 24) by rw [hW8]; exact blk_new w7 _)
    have HC8 := Aside0.mk (show kCl.C W8 A8 g2.c.length g2.c by rw [hW8]; exact Kd.C_alloc HR8.out.2 _)
    have HBD8 := Aside0.mk (blk_below HH6.out.1 hb68)
    have v0 := (blk_cell HV8.out 0).trans (show _ = some (Value.slice A8 g2.c.length c8) from rfl)
    have v1 := (blk_cell HV8.out 1).trans (show _ = some (Value.int .i64 g2.keep) from rfl)
    have v2 := (blk_cell HBD8.out 0).trans (show _ = some (Value.slice A6 g.c.length c6) from rfl)
    have v3 := (blk_cell HBD8.out 1).trans (show _ = some (Value.int .i64 g.keep) from rfl)
    have j8 := blk_frozen HBD8.out 0
    have j9 := blk_frozen HBD8.out 1
    obtain ⟨W9, hW9⟩ : ∃ W9, W9 = ((W8.setCell ⟨wc.heap.size, 0, none⟩ (.slice A8 g2.c.length c8)).setCell ⟨wc.heap.size, 1, none⟩ (.int .i64 g2.keep)) := ⟨_, rfl⟩
    have HBD9 := Aside0.mk (show W9.heap[wc.heap.size]? = some (.cells #[.slice A8 g2.c.length c8, .int .i64 g2.keep] 86) by rw [hW9]; exact hb_store HBD8.out)
    have HC9 := Aside0.mk (show kCl.C W9 A8 g2.c.length g2.c by rw [hW9]; exact cl_store HC8.out HBD8.out)
    have HK9 := Aside0.mk (show KeepBut W4 W9 wc.heap.size none ∧ S3 W4 W9 by rw [hW9]; exact ⟨keep_trans HK6.out.1 (keep_trans (KeepBut.of_below hb68 _ none) (((KeepBut.refl W8 _ none).set_ 0 _).set_ 1 _)), S3.set (S3.set (S3.trans HK6.out.2 (S3.below hb68)) _ _) _ _⟩)
    have hW8' := Aside0.mk hW8
    have hW9' := Aside0.mk hW9
    clear hW8 hW9 hb68 t0 t1 f8 f9 z0 z1
    rw [← hW8'.out]
    go_upto_region 14 with (fail)
    rw [← hW9'.out]
    clear v0 v1 v2 v3 j8 j9
    go_wp2_with (first | (go_at_call 42; (with_reducible refine (growSettled_walk f A8 c8 wc.heap.size g2 h' 0 p2 root p er W9 HBD9.out HC9.out HLEN.out HR8.out.1 HES.out).mono ?_); rintro e w7 ⟨B7, c7, rfl, hc7, hr7, hk7, hs7⟩; have HR7 := Aside0.mk (And.intro hc7 hr7); have HK7 := Aside0.mk (show KeepBut W4 w7 wc.heap.size none ∧ S3 W4 w7 from ⟨keep_trans HK9.out.1 hk7, S3.trans HK9.out.2 hs7⟩); (have HB7 := Aside0.mk (keep_below S4.out.b0 HK7.out.1 HK7.out.2 (by have := HWC.out; omega)); have HX7 := Aside0.mk (show w7.heap[w.heap.size + 1]? = some (.cells #[.slice none 0 0, .int .i64 0] 24) from (HK7.out.1.2 _ (blk_lt S4.out.hr) (by have := HWC.out; omega) (by simp)).trans S4.out.hr); have e0 := (blk_cell HX7.out 0).trans (show _ = some (Value.slice none 0 0) from rfl); have e1 := (blk_cell HX7.out 1).trans (show _ = some (Value.int .i64 0) from rfl); have f0 := blk_frozen HX7.out 0; have f1 := blk_frozen HX7.out 1; clear hc7 hr7 hk7 hs7)) | fail)
    refine bodyPost_ret (results_ctt rfl _ _ (w.heap.size + 1) 24 #[.slice B7 h'.c.length c7, .int .i64 h'.keep] (0, 0) _ rfl (hb_store HX7.out) Try.underlying24 rfl (by kernel_rfl)) rfl ?_
    exact ⟨B7, c7, rfl, HR7.out.1, cl_store HR7.out.2 HX7.out, below_set (below_set HB7.out (by omega)) (by omega)⟩
/-- grow.Put. -/
theorem growPut_walk (A : Option Addr) (c : Nat) (h h' : Hp) (root key val p er : Int) (deep : Bool) (f : Nat) (w : World) (hr : kCl.C w A h.c.length h.c) (hcc : h.c.length ≤ c) (e : putO f h root key val deep = some (h', p, er)) :
    Calls Try.prog 13 #[.agg #[.slice A h.c.length c, .int .i64 h.keep], .int .i64 root, .int .i64 key, .int .i64 val, .bool deep] w fun e w' => ∃ B cb, e = .returned (.tuple #[.agg #[.slice B h'.c.length cb, .int .i64 h'.keep], .int .i64 p, .int .i64 er]) ∧ h'.c.length ≤ cb ∧ kCl.C w' B h'.c.length h'.c ∧ Below w.heap.size w w' := by
  unfold putO at e
  simp only [Option.bind_eq_bind, Option.bind_eq_some_iff] at e
  obtain ⟨n, hhi, e⟩ := e
  by_cases hbad : (!fitsB key || !fitsB val) = true
  · rw [if_pos hbad] at e
    simp only [Option.some.injEq, Prod.mk.injEq] at e
    obtain ⟨rfl, rfl, rfl⟩ := e
    exact putArg_walk A c h root key val deep n w hr hcc hhi hbad
  rw [if_neg hbad] at e
  have hkv : fitsB key = true ∧ fitsB val = true := by
    cases h1 : fitsB key <;> cases h2 : fitsB val <;> simp [h1, h2] at hbad ⊢
  by_cases hfull : (decide (n = 20) || !fitsH h (2 * (n : Int) + 1) deep) = true
  · rw [if_pos hfull] at e
    simp only [Option.some.injEq, Prod.mk.injEq] at e
    obtain ⟨rfl, rfl, rfl⟩ := e
    exact putFull_walk A c h root key val deep n w hr hcc hhi hkv.1 hkv.2 hfull
  rw [if_neg hfull] at e
  have hnf : ¬ n = 20 ∧ fitsH h (2 * (n : Int) + 1) deep = true := by
    cases h2 : fitsH h (2 * (n : Int) + 1) deep <;> simp [h2] at hfull ⊢
    exact hfull
  by_cases hro : root < 0
  · rw [if_pos hro] at e
    simp only [Option.bind_eq_some_iff] at e
    obtain ⟨⟨g, q, er2⟩, ha, e⟩ := e
    simp only at e
    split at e
    · rename_i h0
      subst h0
      simp only [Option.some.injEq, Prod.mk.injEq] at e
      obtain ⟨rfl, rfl, rfl⟩ := e
      exact putNew_walk A c h g root key val q deep n w hr hcc hhi hkv.1 hkv.2 hnf.1 hnf.2 hro ha
    · cases e
  · rw [if_neg hro] at e
    simp only [Option.bind_eq_some_iff] at e
    obtain ⟨⟨g, made⟩, ha, e⟩ := e
    rcases made with _ | ⟨y, _ | ⟨z, r⟩⟩
    · cases e
    · exact putOne_walk A c h g h' root key val p er deep n f y w hr hcc hhi hkv.1 hkv.2 hnf.1 hnf.2 hro ha e
    · simp only [Option.bind_eq_some_iff] at e
      obtain ⟨⟨g2, p2, er2⟩, ho, e⟩ := e
      exact putOver_walk A c h g g2 h' root key val p p2 er er2 deep n f y z r w hr hcc hhi hkv.1 hkv.2 hnf.1 hnf.2 hro ha ho e
end Go.Proofs.Ytopkoganfnabgaa.H
namespace Go.Proofs.Ytopkoganfnabgaa.H
open Go.RowKit Go.Proofs.YtopkoganfnabgaaW.PrintWords Go.Proofs.YtopkoganfnabgaaW.PrintLast Go.Proofs.YtopkoganfnabgaaW.PrintMore
attribute [local go_sem] max2_int min2_int max_two min_two max_three min_three max_four min_four
set_option linter.unusedVariables false
set_option linter.unusedSimpArgs false
theorem settledO_inv {f : Nat} {g h' : Hp} {q root p er : Int} (hro : ¬ root < 0) (e : settledO f g q root = some (h', p, er)) : ∃ e1, looseH f g root = some (h', e1) ∧ p = q ∧ er = 0 := by
  unfold settledO at e
  rw [if_pos (by omega)] at e
  cases hq : looseH f g root with
  | none => rw [hq] at e; cases e
  | some x =>
    obtain ⟨x1, x2⟩ := x
    rw [hq] at e
    simp only [Option.map_some, Option.some.injEq, Prod.mk.injEq] at e
    exact ⟨x2, by rw [e.1], e.2.1.symm, e.2.2.symm⟩
set_option maxHeartbeats 4000000 in
set_option maxRecDepth 100000 in
theorem rpOne_walk (A : Option Addr) (c : Nat) (h g h' : Hp) (root key val p er : Int) (deep : Bool) (n f : Nat) (y : It) (w : World) (hr : kCl.C w A h.c.length h.c) (hcc : h.c.length ≤ c) (hhi : highO 21 h root = some n) (hk : fitsB key = true) (hv : fitsB val = true) (h20 : ¬ n = 20) (hff : fitsH h (2 * (n : Int) + 1) deep = true) (hro : ¬ root < 0)
    (e : anewO 20 h root ⟨key, val⟩ = some (g, [y])) (es : settledO f g y.v root = some (h', p, er)) :
    Calls Try.prog 14 #[.agg #[.slice A h.c.length c, .int .i64 h.keep], .int .i64 root, .int .i64 key, .int .i64 val, .bool deep] w fun e w' => ∃ B cb, e = .returned (.tuple #[.agg #[.slice B h'.c.length cb, .int .i64 h'.keep], .int .i64 p, .int .i64 er]) ∧ h'.c.length ≤ cb ∧ kCl.C w' B h'.c.length h'.c ∧ Below w.heap.size w w' := by
  obtain ⟨e1, hlo, rfl, rfl⟩ := settledO_inv hro es
  (obtain ⟨W1, hW1⟩ : ∃ W1, W1 = (w.alloc (.cells #[.slice A h.c.length c, .int .i64 h.keep] 24)).alloc (.cells #[.slice none 0 0, .int .i64 0] 24) := ⟨_, rfl⟩; have S1 := Aside0.mk (show PuSt w W1 A c h by (rw [hW1]; exact pust w A c h hr hcc)); have c0 := (blk_cell S1.out.hh 0).trans (show _ = some (Value.slice A h.c.length c) from rfl); have c1 := (blk_cell S1.out.hh 1).trans (show _ = some (Value.int .i64 h.keep) from rfl); have HHI := Aside0.mk (fun (W : World) (hb : Below W1.heap.size W1 W) => refHigh_walk 21 A c h root n W (by decide) (Kd.C_below S1.out.cl.1 hb) hhi); have hW1' := Aside0.mk hW1; have HNN := Aside0.mk (show n ≤ 1000 by have := highO_le 21 h root n hhi; omega); have hkk : 0 ≤ key ∧ key ≤ 2147483647 ∧ 0 ≤ val ∧ val ≤ 2147483647 := (by unfold fitsB at hk hv; simp at hk hv; omega); have d2 : decide (key < 0) = false := decide_eq_false (by omega); have d3 : decide (2147483647 < key) = false := decide_eq_false (by omega); have d4 : decide (val < 0) = false := decide_eq_false (by omega); have d5 : decide (2147483647 < val) = false := decide_eq_false (by omega); have HFT0 := Aside0.mk (fun (W : World) (hb : Below W1.heap.size W1 W) => refFits_walk A c h (2 * (n : Int) + 1) deep W (Kd.C_below S1.out.cl.1 hb)); clear hr hcc hW1 hhi hk hv hkk)
  rw [hff] at HFT0
  have q0 : ((n : Int) == 20) = false := beq_eq_false_iff_ne.mpr (by omega)
  have q1 : (n == 20) = false := beq_eq_false_iff_ne.mpr h20
  obtain ⟨made, hmade⟩ : ∃ made, made = [y] := ⟨_, rfl⟩
  rw [← hmade] at e
  have HE := Aside0.mk e
  have HLO := Aside0.mk hlo
  have HLEN := Aside0.mk (show g.c.length ≤ 1000000 by have := (anewO_len e).2 (by rw [hmade]; simp); omega)
  have HML := Aside0.mk (show 0 < made.length ∧ itAt made 0 = y by rw [hmade]; exact ⟨by simp, rfl⟩)
  have r1 : decide (root < 0) = false := decide_eq_false hro
  have r2 : decide ((1 : Int) < (made.length : Int)) = false := by rw [hmade]; rfl
  have r3 : decide (1 < made.length) = false := by rw [hmade]; rfl
  have r4 : (0 < made.length) = True := eq_true HML.out.1
  have r5 : ((0 : Int) < (made.length : Int)) = True := eq_true (by have := HML.out.1; omega)
  clear e es h20 hff hro hmade hlo
  (go_enter Try.func14, Try.ntmps14; go_upto_region 1 with (fail); rw [← hW1'.out]; go_upto_region 4 with (first | (go_at_call 21; (with_reducible refine (HHI.out _ (by repeat (first | (with_reducible exact Below.refl _ _) | (with_reducible refine below_alloc ?_ _) | (with_reducible refine below_drew1 ?_) | (with_reducible refine pw_below_drewN ?_ _) | (with_reducible exact Below.refl _ _)))).mono ?_); rintro e w2 ⟨rfl, hb2⟩; have HB2 := Aside0.mk hb2; have d0 := bcell hb2 c0; have d1 := bcell hb2 c1; clear hb2) | fail); have HFT := Aside0.mk (fun (W : World) (hb : Below w2.heap.size w2 W) => HFT0.out W (below_step HB2.out hb)))
  (go_cut [14] from 43 to 47 (fun v14 wc => v14 = .bool true ∧ Aside0 (Below W1.heap.size W1 wc)))
  case first => (go_region_held3 (fun w' => w'.cell? ⟨w.heap.size, 0, none⟩ = some (.slice A h.c.length c) ∧ w'.cell? ⟨w.heap.size, 1, none⟩ = some (.int .i64 h.keep)) (first | exact ⟨d0, d1⟩ | exact ⟨bcell HB3.out d0, bcell HB3.out d1⟩ | exact (fun (h : Below w2.heap.size w2 _) => ⟨bcell h d0, bcell h d1⟩) (by repeat (first | (with_reducible exact Below.refl _ _) | (with_reducible refine below_alloc ?_ _) | (with_reducible refine below_drew1 ?_) | (with_reducible refine pw_below_drewN ?_ _) | (with_reducible exact HB3.out)))) (first | (go_at_call 46; (with_reducible refine (refNeed_walk n _ HNN.out).mono ?_); rintro e wn ⟨rfl, rfl⟩) | (go_at_call 45; (with_reducible refine (HFT.out _ (by repeat (first | (with_reducible exact Below.refl _ _) | (with_reducible refine below_alloc ?_ _) | (with_reducible refine below_drew1 ?_) | (with_reducible refine pw_below_drewN ?_ _) | (with_reducible exact Below.refl _ _)))).mono ?_); rintro e w3 ⟨rfl, hb3⟩; have HB3 := Aside0.mk (show Below w2.heap.size w2 w3 from below_step (by repeat (first | (with_reducible exact Below.refl _ _) | (with_reducible refine below_alloc ?_ _) | (with_reducible refine below_drew1 ?_) | (with_reducible refine pw_below_drewN ?_ _) | fail)) hb3); clear hb3) | fail); all_goals (go_wp2; go_meet; case rel => exact ⟨rfl, ⟨below_step HB2.out HB3.out⟩⟩))
  case rest =>
    (obtain ⟨rfl, HBc⟩ := hcut; have Sc := Aside0.mk (S1.out.step HBc.out); clear c0 c1 d0 d1; have g0 := (blk_cell Sc.out.hh 0).trans (show _ = some (Value.slice A h.c.length c) from rfl); have g1 := (blk_cell Sc.out.hh 1).trans (show _ = some (Value.int .i64 h.keep) from rfl); obtain ⟨W4, hW4⟩ : ∃ W4, W4 = wc.alloc (.cells #[.int .i64 key, .int .i64 val] 26) := ⟨_, rfl⟩; have hb4 : Below wc.heap.size wc W4 := (by rw [hW4]; exact below_alloc (Below.refl _ _) _); have S4 := Aside0.mk (Sc.out.step hb4); have HIT := Aside0.mk (show W4.heap[wc.heap.size]? = some (.cells #[.int .i64 key, .int .i64 val] 26) by (rw [hW4]; exact blk_new wc _)); have hW4' := Aside0.mk hW4; clear hW4 hb4; go_upto_region 8 with (fail); rw [← hW4'.out]; clear g0 g1; have g0 := (blk_cell S4.out.hh 0).trans (show _ = some (Value.slice A h.c.length c) from rfl); have g1 := (blk_cell S4.out.hh 1).trans (show _ = some (Value.int .i64 h.keep) from rfl); have k0 := (blk_cell HIT.out 0).trans (show _ = some (Value.int .i64 key) from rfl); have k1 := (blk_cell HIT.out 1).trans (show _ = some (Value.int .i64 val) from rfl))
    have HAN := Aside0.mk (refAnew_walk 20 A c h g root ⟨key, val⟩ made W4 S4.out.cl.1 S4.out.cl.2 HE.out)
    go_upto_region 11 with (first | (go_at_call 48; (with_reducible refine HAN.out.mono ?_); rintro e w6 ⟨A6, c6, M, cm, rfl, hc6, hk6, hm6, hi6, hb6⟩; have HK6 := Aside0.mk (And.intro hc6 hk6); have HM6 := Aside0.mk (And.intro hm6 hi6); have HB6 := Aside0.mk hb6; clear hc6 hk6 hm6 hi6 hb6) | fail)
    obtain ⟨V, hV⟩ : ∃ V, V = w6.alloc (.cells #[.slice A6 g.c.length c6, .int .i64 g.keep] 24) := ⟨_, rfl⟩
    have hbv : Below W4.heap.size W4 V := by rw [hV]; exact below_alloc HB6.out _
    have SV := Aside0.mk (S4.out.step hbv)
    have HXG := Aside0.mk (show V.heap[w6.heap.size]? = some (.cells #[.slice A6 g.c.length c6, .int .i64 g.keep] 24) by rw [hV]; exact blk_new w6 _)
    have HKV := Aside0.mk (show kCl.C V A6 g.c.length g.c by rw [hV]; exact Kd.C_alloc HK6.out.2 _)
    have HMV := Aside0.mk (show kIt.C V M made.length made by rw [hV]; exact Kd.C_alloc HM6.out.2 _)
    obtain ⟨md, hmd, _, z1⟩ := at_it0 HMV.out HML.out.1
    subst hmd
    rw [HML.out.2] at z1
    have hV' := Aside0.mk hV
    clear hV hbv g0 g1 k0 k1
    rw [← hV'.out]
    have x0 := (blk_cell HXG.out 0).trans (show _ = some (Value.slice A6 g.c.length c6) from rfl)
    have x1 := (blk_cell HXG.out 1).trans (show _ = some (Value.int .i64 g.keep) from rfl)
    go_upto_region 17 with (first | (go_at_call 49; (with_reducible refine (refLoose_walk f A6 c6 g h' root e1 V HKV.out HK6.out.1 HLEN.out HLO.out).mono ?_); rintro e w8 ⟨B8, c8, rfl, hc8, hk8, hb8⟩; have HK8 := Aside0.mk (And.intro hc8 hk8); have S8 := Aside0.mk (SV.out.step hb8); clear hc8 hk8 hb8) | fail)
    obtain ⟨V2, hV2⟩ : ∃ V2, V2 = w8.alloc (.cells #[.slice B8 h'.c.length c8, .int .i64 h'.keep] 24) := ⟨_, rfl⟩
    have S9 := Aside0.mk (S8.out.step (show Below w8.heap.size w8 V2 by rw [hV2]; exact below_alloc (Below.refl _ _) _))
    have HX2 := Aside0.mk (show V2.heap[w8.heap.size]? = some (.cells #[.slice B8 h'.c.length c8, .int .i64 h'.keep] 24) by rw [hV2]; exact blk_new w8 _)
    have HK9 := Aside0.mk (show kCl.C V2 B8 h'.c.length h'.c by rw [hV2]; exact Kd.C_alloc HK8.out.2 _)
    rw [← hV2]
    clear hV2 x0 x1 z1
    have y0 := (blk_cell HX2.out 0).trans (show _ = some (Value.slice B8 h'.c.length c8) from rfl)
    have y1 := (blk_cell HX2.out 1).trans (show _ = some (Value.int .i64 h'.keep) from rfl)
    have e0 := (blk_cell S9.out.hr 0).trans (show _ = some (Value.slice none 0 0) from rfl)
    have e1' := (blk_cell S9.out.hr 1).trans (show _ = some (Value.int .i64 0) from rfl)
    have f0 := blk_frozen S9.out.hr 0
    have f1 := blk_frozen S9.out.hr 1
    go_wp2
    refine bodyPost_ret (results_ctt rfl _ _ (w.heap.size + 1) 24 #[.slice B8 h'.c.length c8, .int .i64 h'.keep] (0, 0) _ rfl (hb_store S9.out.hr) Try.underlying24 rfl (by kernel_rfl)) rfl ?_
    exact ⟨B8, c8, rfl, HK8.out.1, cl_store HK9.out S9.out.hr, below_set (below_set S9.out.b0 (by omega)) (by omega)⟩
end Go.Proofs.Ytopkoganfnabgaa.H
namespace Go.Proofs.Ytopkoganfnabgaa.H
open Go.RowKit Go.Proofs.YtopkoganfnabgaaW.PrintWords Go.Proofs.YtopkoganfnabgaaW.PrintLast Go.Proofs.YtopkoganfnabgaaW.PrintMore
attribute [local go_sem] max2_int min2_int max_two min_two max_three min_three max_four min_four
set_option linter.unusedVariables false
set_option linter.unusedSimpArgs false
set_option maxHeartbeats 4000000 in
set_option maxRecDepth 100000 in
theorem rpOver_walk (A : Option Addr) (c : Nat) (h g g2 h' : Hp) (root key val p p2 er er2 : Int) (deep : Bool) (n f : Nat) (y z : It) (r : List It) (w : World) (hr : kCl.C w A h.c.length h.c) (hcc : h.c.length ≤ c) (hhi : highO 21 h root = some n) (hk : fitsB key = true) (hv : fitsB val = true) (h20 : ¬ n = 20) (hff : fitsH h (2 * (n : Int) + 1) deep = true) (hro : ¬ root < 0)
    (e : anewO 20 h root ⟨key, val⟩ = some (g, y :: z :: r)) (eo : overO g (y :: z :: r) = some (g2, p2, er2)) (es : settledO f g2 p2 root = some (h', p, er)) :
    Calls Try.prog 14 #[.agg #[.slice A h.c.length c, .int .i64 h.keep], .int .i64 root, .int .i64 key, .int .i64 val, .bool deep] w fun e w' => ∃ B cb, e = .returned (.tuple #[.agg #[.slice B h'.c.length cb, .int .i64 h'.keep], .int .i64 p, .int .i64 er]) ∧ h'.c.length ≤ cb ∧ kCl.C w' B h'.c.length h'.c ∧ Below w.heap.size w w' := by
  obtain ⟨e1, hlo, rfl, rfl⟩ := settledO_inv hro es
  (obtain ⟨W1, hW1⟩ : ∃ W1, W1 = (w.alloc (.cells #[.slice A h.c.length c, .int .i64 h.keep] 24)).alloc (.cells #[.slice none 0 0, .int .i64 0] 24) := ⟨_, rfl⟩; have S1 := Aside0.mk (show PuSt w W1 A c h by (rw [hW1]; exact pust w A c h hr hcc)); have c0 := (blk_cell S1.out.hh 0).trans (show _ = some (Value.slice A h.c.length c) from rfl); have c1 := (blk_cell S1.out.hh 1).trans (show _ = some (Value.int .i64 h.keep) from rfl); have HHI := Aside0.mk (fun (W : World) (hb : Below W1.heap.size W1 W) => refHigh_walk 21 A c h root n W (by decide) (Kd.C_below S1.out.cl.1 hb) hhi); have hW1' := Aside0.mk hW1; have HNN := Aside0.mk (show n ≤ 1000 by have := highO_le 21 h root n hhi; omega); have hkk : 0 ≤ key ∧ key ≤ 2147483647 ∧ 0 ≤ val ∧ val ≤ 2147483647 := (by unfold fitsB at hk hv; simp at hk hv; omega); have d2 : decide (key < 0) = false := decide_eq_false (by omega); have d3 : decide (2147483647 < key) = false := decide_eq_false (by omega); have d4 : decide (val < 0) = false := decide_eq_false (by omega); have d5 : decide (2147483647 < val) = false := decide_eq_false (by omega); have HFT0 := Aside0.mk (fun (W : World) (hb : Below W1.heap.size W1 W) => refFits_walk A c h (2 * (n : Int) + 1) deep W (Kd.C_below S1.out.cl.1 hb)); clear hr hcc hW1 hhi hk hv hkk)
  rw [hff] at HFT0
  have q0 : ((n : Int) == 20) = false := beq_eq_false_iff_ne.mpr (by omega)
  have q1 : (n == 20) = false := beq_eq_false_iff_ne.mpr h20
  obtain ⟨made, hmade⟩ : ∃ made, made = y :: z :: r := ⟨_, rfl⟩
  rw [← hmade] at e eo
  have HEO := Aside0.mk eo
  have HMD := Aside0.mk (show made.length ≤ 1000 by have := (anewO_len e).1; omega)
  have hlen2 : g2.c.length = g.c.length := (allocO_len eo).1
  have HE := Aside0.mk e
  have HLO := Aside0.mk hlo
  have HLEN := Aside0.mk (show g2.c.length ≤ 1000000 by rw [hlen2]; have := (anewO_len e).2 (by rw [hmade]; simp); omega)
  have HML := Aside0.mk (show 0 < made.length ∧ itAt made 0 = y by rw [hmade]; exact ⟨by simp, rfl⟩)
  have r1 : decide (root < 0) = false := decide_eq_false hro
  have r2 : decide ((1 : Int) < (made.length : Int)) = true := by rw [hmade]; exact decide_eq_true (by simp; omega)
  have r3 : decide (1 < made.length) = true := by rw [hmade]; exact decide_eq_true (by simp)
  have r4 : (0 < made.length) = True := eq_true HML.out.1
  have r5 : ((0 : Int) < (made.length : Int)) = True := eq_true (by have := HML.out.1; omega)
  clear e eo hlen2 es h20 hff hro hmade hlo
  (go_enter Try.func14, Try.ntmps14; go_upto_region 1 with (fail); rw [← hW1'.out]; go_upto_region 4 with (first | (go_at_call 21; (with_reducible refine (HHI.out _ (by repeat (first | (with_reducible exact Below.refl _ _) | (with_reducible refine below_alloc ?_ _) | (with_reducible refine below_drew1 ?_) | (with_reducible refine pw_below_drewN ?_ _) | (with_reducible exact Below.refl _ _)))).mono ?_); rintro e w2 ⟨rfl, hb2⟩; have HB2 := Aside0.mk hb2; have d0 := bcell hb2 c0; have d1 := bcell hb2 c1; clear hb2) | fail); have HFT := Aside0.mk (fun (W : World) (hb : Below w2.heap.size w2 W) => HFT0.out W (below_step HB2.out hb)))
  (go_cut [14] from 43 to 47 (fun v14 wc => v14 = .bool true ∧ Aside0 (Below W1.heap.size W1 wc)))
  case first => (go_region_held3 (fun w' => w'.cell? ⟨w.heap.size, 0, none⟩ = some (.slice A h.c.length c) ∧ w'.cell? ⟨w.heap.size, 1, none⟩ = some (.int .i64 h.keep)) (first | exact ⟨d0, d1⟩ | exact ⟨bcell HB3.out d0, bcell HB3.out d1⟩ | exact (fun (h : Below w2.heap.size w2 _) => ⟨bcell h d0, bcell h d1⟩) (by repeat (first | (with_reducible exact Below.refl _ _) | (with_reducible refine below_alloc ?_ _) | (with_reducible refine below_drew1 ?_) | (with_reducible refine pw_below_drewN ?_ _) | (with_reducible exact HB3.out)))) (first | (go_at_call 46; (with_reducible refine (refNeed_walk n _ HNN.out).mono ?_); rintro e wn ⟨rfl, rfl⟩) | (go_at_call 45; (with_reducible refine (HFT.out _ (by repeat (first | (with_reducible exact Below.refl _ _) | (with_reducible refine below_alloc ?_ _) | (with_reducible refine below_drew1 ?_) | (with_reducible refine pw_below_drewN ?_ _) | (with_reducible exact Below.refl _ _)))).mono ?_); rintro e w3 ⟨rfl, hb3⟩; have HB3 := Aside0.mk (show Below w2.heap.size w2 w3 from below_step (by repeat (first | (with_reducible exact Below.refl _ _) | (with_reducible refine below_alloc ?_ _) | (with_reducible refine below_drew1 ?_) | (with_reducible refine pw_below_drewN ?_ _) | fail)) hb3); clear hb3) | fail); all_goals (go_wp2; go_meet; case rel => exact ⟨rfl, ⟨below_step HB2.out HB3.out⟩⟩))
  case rest =>
    (obtain ⟨rfl, HBc⟩ := hcut; have Sc := Aside0.mk (S1.out.step HBc.out); clear c0 c1 d0 d1; have g0 := (blk_cell Sc.out.hh 0).trans (show _ = some (Value.slice A h.c.length c) from rfl); have g1 := (blk_cell Sc.out.hh 1).trans (show _ = some (Value.int .i64 h.keep) from rfl); obtain ⟨W4, hW4⟩ : ∃ W4, W4 = wc.alloc (.cells #[.int .i64 key, .int .i64 val] 26) := ⟨_, rfl⟩; have hb4 : Below wc.heap.size wc W4 := (by rw [hW4]; exact below_alloc (Below.refl _ _) _); have S4 := Aside0.mk (Sc.out.step hb4); have HIT := Aside0.mk (show W4.heap[wc.heap.size]? = some (.cells #[.int .i64 key, .int .i64 val] 26) by (rw [hW4]; exact blk_new wc _)); have hW4' := Aside0.mk hW4; clear hW4 hb4; go_upto_region 8 with (fail); rw [← hW4'.out]; clear g0 g1; have g0 := (blk_cell S4.out.hh 0).trans (show _ = some (Value.slice A h.c.length c) from rfl); have g1 := (blk_cell S4.out.hh 1).trans (show _ = some (Value.int .i64 h.keep) from rfl); have k0 := (blk_cell HIT.out 0).trans (show _ = some (Value.int .i64 key) from rfl); have k1 := (blk_cell HIT.out 1).trans (show _ = some (Value.int .i64 val) from rfl))
    have HAN := Aside0.mk (refAnew_walk 20 A c h g root ⟨key, val⟩ made W4 S4.out.cl.1 S4.out.cl.2 HE.out)
    go_upto_region 11 with (first | (go_at_call 48; (with_reducible refine HAN.out.mono ?_); rintro e w6 ⟨A6, c6, M, cm, rfl, hc6, hk6, hm6, hi6, hb6⟩; have HK6 := Aside0.mk (And.intro hc6 hk6); have HM6 := Aside0.mk (And.intro hm6 hi6); have HB6 := Aside0.mk hb6; clear hc6 hk6 hm6 hi6 hb6) | fail)
    obtain ⟨V, hV⟩ : ∃ V, V = w6.alloc (.cells #[.slice A6 g.c.length c6, .int .i64 g.keep] 24) := ⟨_, rfl⟩
    have hbv : Below W4.heap.size W4 V := by rw [hV]; exact below_alloc HB6.out _
    have SV := Aside0.mk (S4.out.step hbv)
    have HBV := Aside0.mk hbv
    have HXG := Aside0.mk (show V.heap[w6.heap.size]? = some (.cells #[.slice A6 g.c.length c6, .int .i64 g.keep] 24) by rw [hV]; exact blk_new w6 _)
    have HKV := Aside0.mk (show kCl.C V A6 g.c.length g.c by rw [hV]; exact Kd.C_alloc HK6.out.2 _)
    have HMV := Aside0.mk (show kIt.C V M made.length made by rw [hV]; exact Kd.C_alloc HM6.out.2 _)
    obtain ⟨md, hmd, _, z1⟩ := at_it0 HMV.out HML.out.1
    subst hmd
    rw [HML.out.2] at z1
    have hV' := Aside0.mk hV
    clear hV hbv g0 g1 k0 k1
    rw [← hV'.out]
    have x0 := (blk_cell HXG.out 0).trans (show _ = some (Value.slice A6 g.c.length c6) from rfl)
    have x1 := (blk_cell HXG.out 1).trans (show _ = some (Value.int .i64 g.keep) from rfl)
    go_upto_region 14 with (first | (go_at_call 16; (with_reducible refine (refOver_walk A6 (some md) c6 cm g g2 made p er2 V HKV.out HK6.out.1 HMV.out HM6.out.1 HMD.out HEO.out).mono ?_); rintro e w7 ⟨A7, c7, rfl, hc7, hk7, hb7⟩; have HK7 := Aside0.mk (And.intro hc7 hk7); have HB7 := Aside0.mk hb7; clear hc7 hk7 hb7) | fail)
    obtain ⟨V3, hV3⟩ : ∃ V3, V3 = w7.alloc (.cells #[.slice A7 g2.c.length c7, .int .i64 g2.keep] 24) := ⟨_, rfl⟩
    have hb73 : Below V.heap.size V V3 := by rw [hV3]; exact below_alloc HB7.out _
    have HXT := Aside0.mk (show V3.heap[w7.heap.size]? = some (.cells #[.slice A7 g2.c.length c7, .int .i64 g2.keep] 24) by rw [hV3]; exact blk_new w7 _)
    have HK3 := Aside0.mk (show kCl.C V3 A7 g2.c.length g2.c by rw [hV3]; exact Kd.C_alloc HK7.out.2 _)
    have HXG3 := Aside0.mk (blk_below HXG.out hb73)
    have HB73 := Aside0.mk hb73
    obtain ⟨X, hX⟩ : ∃ X, X = w6.heap.size := ⟨_, rfl⟩
    rw [← hX] at HXG3 ⊢
    have HXW := Aside0.mk (show W4.heap.size ≤ X by rw [hX]; exact HB6.out.size)
    rw [← hV3]
    clear hV3 hb73 x0 x1 z1 hX
    have x0 := (blk_cell HXT.out 0).trans (show _ = some (Value.slice A7 g2.c.length c7) from rfl)
    have x1 := (blk_cell HXT.out 1).trans (show _ = some (Value.int .i64 g2.keep) from rfl)
    have x2 := (blk_cell HXG3.out 0).trans (show _ = some (Value.slice A6 g.c.length c6) from rfl)
    have x3 := (blk_cell HXG3.out 1).trans (show _ = some (Value.int .i64 g.keep) from rfl)
    have f8 := blk_frozen HXG3.out 0
    have f9 := blk_frozen HXG3.out 1
    obtain ⟨V4, hV4⟩ : ∃ V4, V4 = ((V3.setCell ⟨X, 0, none⟩ (.slice A7 g2.c.length c7)).setCell ⟨X, 1, none⟩ (.int .i64 g2.keep)) := ⟨_, rfl⟩
    have S5 := Aside0.mk (S4.out.step (show Below W4.heap.size W4 V4 by rw [hV4]; exact below_set (below_set (below_step HBV.out HB73.out) HXW.out) HXW.out))
    have HX4 := Aside0.mk (show V4.heap[X]? = some (.cells #[.slice A7 g2.c.length c7, .int .i64 g2.keep] 24 (0, 0)) by rw [hV4]; exact hb_store HXG3.out)
    have HK4 := Aside0.mk (show kCl.C V4 A7 g2.c.length g2.c by rw [hV4]; exact cl_store HK3.out HXG3.out)
    have hV4' := Aside0.mk hV4
    clear hV4
    go_upto_region 15 with (fail)
    rw [← hV4'.out]
    clear x0 x1 x2 x3 f8 f9
    have x0 := (blk_cell HX4.out 0).trans (show _ = some (Value.slice A7 g2.c.length c7) from rfl)
    have x1 := (blk_cell HX4.out 1).trans (show _ = some (Value.int .i64 g2.keep) from rfl)
    go_upto_region 17 with (first | (go_at_call 49; (with_reducible refine (refLoose_walk f A7 c7 g2 h' root e1 V4 HK4.out HK7.out.1 HLEN.out HLO.out).mono ?_); rintro e w8 ⟨B8, c8, rfl, hc8, hk8, hb8⟩; have HK8 := Aside0.mk (And.intro hc8 hk8); have S8 := Aside0.mk (S5.out.step hb8); clear hc8 hk8 hb8) | fail)
    obtain ⟨V2, hV2⟩ : ∃ V2, V2 = w8.alloc (.cells #[.slice B8 h'.c.length c8, .int .i64 h'.keep] 24) := ⟨_, rfl⟩
    have S9 := Aside0.mk (S8.out.step (show Below w8.heap.size w8 V2 by rw [hV2]; exact below_alloc (Below.refl _ _) _))
    have HX2 := Aside0.mk (show V2.heap[w8.heap.size]? = some (.cells #[.slice B8 h'.c.length c8, .int .i64 h'.keep] 24) by rw [hV2]; exact blk_new w8 _)
    have HK9 := Aside0.mk (show kCl.C V2 B8 h'.c.length h'.c by rw [hV2]; exact Kd.C_alloc HK8.out.2 _)
    rw [← hV2]
    clear hV2 x0 x1
    have y0 := (blk_cell HX2.out 0).trans (show _ = some (Value.slice B8 h'.c.length c8) from rfl)
    have y1 := (blk_cell HX2.out 1).trans (show _ = some (Value.int .i64 h'.keep) from rfl)
    have e0 := (blk_cell S9.out.hr 0).trans (show _ = some (Value.slice none 0 0) from rfl)
    have e1' := (blk_cell S9.out.hr 1).trans (show _ = some (Value.int .i64 0) from rfl)
    have f0 := blk_frozen S9.out.hr 0
    have f1 := blk_frozen S9.out.hr 1
    go_wp2
    refine bodyPost_ret (results_ctt rfl _ _ (w.heap.size + 1) 24 #[.slice B8 h'.c.length c8, .int .i64 h'.keep] (0, 0) _ rfl (hb_store S9.out.hr) Try.underlying24 rfl (by kernel_rfl)) rfl ?_
    exact ⟨B8, c8, rfl, HK8.out.1, cl_store HK9.out S9.out.hr, below_set (below_set S9.out.b0 (by omega)) (by omega)⟩
/-- The reference's Put. -/
theorem refPut_walk (A : Option Addr) (c : Nat) (h h' : Hp) (root key val p er : Int) (deep : Bool) (f : Nat) (w : World) (hr : kCl.C w A h.c.length h.c) (hcc : h.c.length ≤ c) (e : putO f h root key val deep = some (h', p, er)) :
    Calls Try.prog 14 #[.agg #[.slice A h.c.length c, .int .i64 h.keep], .int .i64 root, .int .i64 key, .int .i64 val, .bool deep] w fun e w' => ∃ B cb, e = .returned (.tuple #[.agg #[.slice B h'.c.length cb, .int .i64 h'.keep], .int .i64 p, .int .i64 er]) ∧ h'.c.length ≤ cb ∧ kCl.C w' B h'.c.length h'.c ∧ Below w.heap.size w w' := by
  unfold putO at e
  simp only [Option.bind_eq_bind, Option.bind_eq_some_iff] at e
  obtain ⟨n, hhi, e⟩ := e
  by_cases hbad : (!fitsB key || !fitsB val) = true
  · rw [if_pos hbad] at e
    simp only [Option.some.injEq, Prod.mk.injEq] at e
    obtain ⟨rfl, rfl, rfl⟩ := e
    exact rpArg_walk A c h root key val deep w hr hcc hbad
  rw [if_neg hbad] at e
  have hkv : fitsB key = true ∧ fitsB val = true := by
    cases h1 : fitsB key <;> cases h2 : fitsB val <;> simp [h1, h2] at hbad ⊢
  by_cases hfull : (decide (n = 20) || !fitsH h (2 * (n : Int) + 1) deep) = true
  · rw [if_pos hfull] at e
    simp only [Option.some.injEq, Prod.mk.injEq] at e
    obtain ⟨rfl, rfl, rfl⟩ := e
    exact rpFull_walk A c h root key val deep n w hr hcc hhi hkv.1 hkv.2 hfull
  rw [if_neg hfull] at e
  have hnf : ¬ n = 20 ∧ fitsH h (2 * (n : Int) + 1) deep = true := by
    cases h2 : fitsH h (2 * (n : Int) + 1) deep <;> simp [h2] at hfull ⊢
    exact hfull
  by_cases hro : root < 0
  · rw [if_pos hro] at e
    simp only [Option.bind_eq_some_iff] at e
    obtain ⟨⟨g, q, er2⟩, ha, e⟩ := e
    simp only at e
    split at e
    · rename_i h0
      subst h0
      simp only [Option.some.injEq, Prod.mk.injEq] at e
      obtain ⟨rfl, rfl, rfl⟩ := e
      exact rpNew_walk A c h g root key val q deep n w hr hcc hhi hkv.1 hkv.2 hnf.1 hnf.2 hro ha
    · cases e
  · rw [if_neg hro] at e
    simp only [Option.bind_eq_some_iff] at e
    obtain ⟨⟨g, made⟩, ha, e⟩ := e
    rcases made with _ | ⟨y, _ | ⟨z, r⟩⟩
    · cases e
    · exact rpOne_walk A c h g h' root key val p er deep n f y w hr hcc hhi hkv.1 hkv.2 hnf.1 hnf.2 hro ha e
    · simp only [Option.bind_eq_some_iff] at e
      obtain ⟨⟨g2, p2, er2⟩, ho, e⟩ := e
      exact rpOver_walk A c h g g2 h' root key val p p2 er er2 deep n f y z r w hr hcc hhi hkv.1 hkv.2 hnf.1 hnf.2 hro ha ho e
end Go.Proofs.Ytopkoganfnabgaa.H
namespace Go.Proofs.Ytopkoganfnabgaa.H
open Go.RowKit Go.Proofs.YtopkoganfnabgaaW.PrintWords Go.Proofs.YtopkoganfnabgaaW.PrintLast Go.Proofs.YtopkoganfnabgaaW.PrintMore
attribute [local go_sem] max2_int min2_int max_two min_two max_three min_three max_four min_four
set_option linter.unusedVariables false
set_option linter.unusedSimpArgs false
theorem fillO_inv {f : Nat} {h h' : Hp} {root p er : Int} {x : It} {l : List It} (e : fillO f h root (x :: l) = some (h', p, er)) :
    ∃ g q e1, putO f h root x.k x.v false = some (g, q, e1) ∧ ((e1 = 0 ∧ fillO f g q l = some (h', p, er)) ∨ (e1 ≠ 0 ∧ h' = h ∧ p = root ∧ er = e1)) := by
  unfold fillO at e
  simp only [Option.bind_eq_bind, Option.bind_eq_some_iff] at e
  obtain ⟨⟨g, q, e1⟩, h1, e⟩ := e
  refine ⟨g, q, e1, h1, ?_⟩
  simp only at e
  split at e
  · rename_i h0; exact Or.inl ⟨h0, e⟩
  · rename_i h0
    simp only [Option.some.injEq, Prod.mk.injEq] at e
    exact Or.inr ⟨h0, e.1.symm, e.2.1.symm, e.2.2.symm⟩
set_option maxHeartbeats 4000000 in
set_option maxRecDepth 100000 in
/-- grow.Fill. -/
theorem growFill_walk (A B : Option Addr) (c cb f : Nat) (h h' : Hp) (root p er : Int) (l : List It) (w : World) (hr : kCl.C w A h.c.length h.c) (hcc : h.c.length ≤ c) (hn : kIt.C w B l.length l) (e : fillO f h root l = some (h', p, er)) :
    Calls Try.prog 19 #[.agg #[.slice A h.c.length c, .int .i64 h.keep], .int .i64 root, .slice B l.length cb] w fun e w' => ∃ B' cb', e = .returned (.tuple #[.agg #[.slice B' h'.c.length cb', .int .i64 h'.keep], .int .i64 p, .int .i64 er]) ∧ h'.c.length ≤ cb' ∧ kCl.C w' B' h'.c.length h'.c ∧ Below w.heap.size w w' := by
  have hm := Kd.C_max hn
  obtain ⟨W1, hW1⟩ : ∃ W1, W1 = (w.alloc (.cells #[.slice A h.c.length c, .int .i64 h.keep] 24)).alloc (.cells #[.slice none 0 0, .int .i64 0] 24) := ⟨_, rfl⟩
  have S1 := Aside0.mk (show PuSt w W1 A c h by rw [hW1]; exact pust w A c h hr hcc)
  have HNR := Aside0.mk hn
  have HE := Aside0.mk e
  have hW1' := Aside0.mk hW1
  clear hW1 hr hcc hn e
  go_enter Try.func19, Try.ntmps19
  go_wp2
  rw [← hW1'.out]
  go_loopg [1, 16] l.length (fun g s1 s16 wr => ∃ (k : Nat) (hk : Hp) (rk : Int) (A' : Option Addr) (c' : Nat), s16 = .int .i64 k ∧ s1 = .int .i64 rk ∧ k + g = l.length ∧ Aside0 (fillO f hk rk (l.drop k) = some (h', p, er)) ∧ Aside0 (wr.heap[w.heap.size]? = some (.cells #[.slice A' hk.c.length c', .int .i64 hk.keep] 24 (0, 0))) ∧ Aside0 (hk.c.length ≤ c' ∧ kCl.C wr A' hk.c.length hk.c) ∧ Aside0 (wr.heap[w.heap.size + 1]? = some (.cells #[.slice none 0 0, .int .i64 0] 24 (0, 0))) ∧ Aside0 (Below w.heap.size w wr))
  case atStart => exact ⟨0, h, root, A, c, rfl, rfl, by omega, ⟨by rw [List.drop_zero]; exact HE.out⟩, ⟨S1.out.hh⟩, ⟨S1.out.cl.2, S1.out.cl.1⟩, ⟨S1.out.hr⟩, ⟨S1.out.b0⟩⟩
  case round =>
    obtain ⟨k, hk, rk, A', c', rfl, rfl, hkk, HF, HH, HC, HZ, HB⟩ := hrel
    have b0 := (blk_cell HH.out 0).trans (show _ = some (Value.slice A' hk.c.length c') from rfl)
    have b1 := (blk_cell HH.out 1).trans (show _ = some (Value.int .i64 hk.keep) from rfl)
    by_cases hlt : k < l.length
    · obtain ⟨g1, rfl⟩ : ∃ g1, gk = g1 + 1 := ⟨gk - 1, by omega⟩
      have r1 : decide (k < l.length) = true := decide_eq_true hlt
      have r2 : (k < l.length) = True := eq_true hlt
      obtain ⟨ad, rfl, x0, x1⟩ := at_it (Kd.C_below HNR.out HB.out) k hlt
      have hf := HF.out
      rw [drop_succ zIt l k hlt] at hf
      obtain ⟨x, hx⟩ : ∃ x, x = itAt l k := ⟨_, rfl⟩
      rw [show l.getD k zIt = x from hx.symm] at hf
      rw [← hx] at x0 x1
      obtain ⟨g, q, e1, hput, hcase⟩ := fillO_inv hf
      have b2 := al1 (o := .cells #[.int .i64 x.k, .int .i64 x.v] 26) b0
      have b3 := al1 (o := .cells #[.int .i64 x.k, .int .i64 x.v] 26) b1
      have HPU := Aside0.mk (fun (W : World) (hb : Below wr.heap.size wr W) => growPut_walk A' c' hk g rk x.k x.v q e1 false f W (Kd.C_below HC.out.2 hb) HC.out.1 hput)
      have HK := Aside0.mk (And.intro hlt hkk)
      have HW := Aside0.mk (show wrap64 ((k : Int) + 1) = ((k + 1 : Nat) : Int) by unfold wrap64; omega)
      rcases hcase with ⟨h0, hrest⟩ | ⟨h0, eh, ep, ee⟩
      · subst h0
        have HRE := Aside0.mk hrest
        clear hf hx hlt hkk hput hrest
        go_upto_region 7 with (first | (go_at_call 13; (with_reducible refine (HPU.out _ (by repeat (first | (with_reducible exact Below.refl _ _) | (with_reducible refine below_alloc ?_ _) | (with_reducible refine below_drew1 ?_) | (with_reducible refine pw_below_drewN ?_ _) | (with_reducible exact Below.refl _ _)))).mono ?_); rintro e w2 ⟨B2, c2, rfl, hc2, hr2, hb2⟩; have HB2 := Aside0.mk (show Below wr.heap.size wr w2 from below_step (by repeat (first | (with_reducible exact Below.refl _ _) | (with_reducible refine below_alloc ?_ _) | (with_reducible refine below_drew1 ?_) | (with_reducible refine pw_below_drewN ?_ _) | (with_reducible exact Below.refl _ _))) hb2); have HR2 := Aside0.mk (And.intro hc2 hr2); clear hc2 hr2 hb2; have d0 := (blk_cell (blk_below HH.out HB2.out) 0).trans (show _ = some (Value.slice A' hk.c.length c') from rfl); have d1 := (blk_cell (blk_below HH.out HB2.out) 1).trans (show _ = some (Value.int .i64 hk.keep) from rfl); have d2 := (blk_cell (blk_below HZ.out HB2.out) 0).trans (show _ = some (Value.slice none 0 0) from rfl); have d3 := (blk_cell (blk_below HZ.out HB2.out) 1).trans (show _ = some (Value.int .i64 0) from rfl)) | fail)
        obtain ⟨W3, hW3⟩ : ∃ W3, W3 = w2.alloc (.cells #[.slice B2 g.c.length c2, .int .i64 g.keep] 24) := ⟨_, rfl⟩
        have hbb : Below wr.heap.size wr W3 := by rw [hW3]; exact below_alloc HB2.out _
        have HV3 := Aside0.mk (show W3.heap[w2.heap.size]? = some (.cells #[.slice B2 g.c.length c2, .int .i64 g.keep] 24) by rw [hW3]; exact blk_new w2 _)
        have HC2 := Aside0.mk (show kCl.C W3 B2 g.c.length g.c by rw [hW3]; exact Kd.C_alloc HR2.out.2 _)
        rw [← hW3]
        clear hW3 d0 d1 d2 d3 b0 b1 b2 b3
        have f0 := blk_frozen (blk_below HH.out hbb) 0
        have f1 := blk_frozen (blk_below HH.out hbb) 1
        have d0 := (blk_cell (blk_below HH.out hbb) 0).trans (show _ = some (Value.slice A' hk.c.length c') from rfl)
        have d1 := (blk_cell (blk_below HH.out hbb) 1).trans (show _ = some (Value.int .i64 hk.keep) from rfl)
        have d2 := (blk_cell HV3.out 0).trans (show _ = some (Value.slice B2 g.c.length c2) from rfl)
        have d3 := (blk_cell HV3.out 1).trans (show _ = some (Value.int .i64 g.keep) from rfl)
        have hblk := blk_below HH.out hbb
        have hz := blk_below HZ.out hbb
        have HQ := Aside0.mk (And.intro hblk hz)
        have HB3 := Aside0.mk (below_step HB.out hbb)
        clear hbb hblk hz x0 x1
        go_wp2
        go_roundg g1
        case measure => omega
        case rel => exact ⟨k + 1, g, q, B2, c2, by rw [HW.out], rfl, by have := HK.out.2; omega, HRE, ⟨hb_store HQ.out.1⟩, ⟨HR2.out.1, cl_store HC2.out HQ.out.1⟩, ⟨blk_far (blk_far HQ.out.2 (by show w.heap.size + 1 ≠ w.heap.size; omega) _) (by show w.heap.size + 1 ≠ w.heap.size; omega) _⟩, ⟨below_set (below_set HB3.out (Nat.le_refl _)) (Nat.le_refl _)⟩⟩
      · have q1 := bne_t h0
        have EQ0 := Aside0.mk (And.intro eh (And.intro ep ee))
        clear hf hx hlt hkk hput h0 eh ep ee
        go_upto_region 6 with (first | (go_at_call 13; (with_reducible refine (HPU.out _ (by repeat (first | (with_reducible exact Below.refl _ _) | (with_reducible refine below_alloc ?_ _) | (with_reducible refine below_drew1 ?_) | (with_reducible refine pw_below_drewN ?_ _) | (with_reducible exact Below.refl _ _)))).mono ?_); rintro e w2 ⟨B2, c2, rfl, hc2, hr2, hb2⟩; have HB2 := Aside0.mk (show Below wr.heap.size wr w2 from below_step (by repeat (first | (with_reducible exact Below.refl _ _) | (with_reducible refine below_alloc ?_ _) | (with_reducible refine below_drew1 ?_) | (with_reducible refine pw_below_drewN ?_ _) | (with_reducible exact Below.refl _ _))) hb2); have HR2 := Aside0.mk (And.intro hc2 hr2); clear hc2 hr2 hb2; have d0 := (blk_cell (blk_below HH.out HB2.out) 0).trans (show _ = some (Value.slice A' hk.c.length c') from rfl); have d1 := (blk_cell (blk_below HH.out HB2.out) 1).trans (show _ = some (Value.int .i64 hk.keep) from rfl); have d2 := (blk_cell (blk_below HZ.out HB2.out) 0).trans (show _ = some (Value.slice none 0 0) from rfl); have d3 := (blk_cell (blk_below HZ.out HB2.out) 1).trans (show _ = some (Value.int .i64 0) from rfl)) | fail)
        obtain ⟨W3, hW3⟩ : ∃ W3, W3 = w2.alloc (.cells #[.slice B2 g.c.length c2, .int .i64 g.keep] 24) := ⟨_, rfl⟩
        have hbb : Below wr.heap.size wr W3 := by rw [hW3]; exact below_alloc HB2.out _
        rw [← hW3]
        clear hW3 d0 d1 d2 d3 b0 b1 b2 b3
        have HZ2 := Aside0.mk (blk_below HZ.out hbb)
        have HB3 := Aside0.mk hbb
        have f0 := blk_frozen HZ2.out 0
        have f1 := blk_frozen HZ2.out 1
        have d0 := (blk_cell (blk_below HH.out hbb) 0).trans (show _ = some (Value.slice A' hk.c.length c') from rfl)
        have d1 := (blk_cell (blk_below HH.out hbb) 1).trans (show _ = some (Value.int .i64 hk.keep) from rfl)
        have d2 := (blk_cell HZ2.out 0).trans (show _ = some (Value.slice none 0 0) from rfl)
        have d3 := (blk_cell HZ2.out 1).trans (show _ = some (Value.int .i64 0) from rfl)
        have HEQ := EQ0
        clear hbb
        go_wp2
        refine bodyPost_ret (results_ctt rfl _ _ (w.heap.size + 1) 24 #[.slice A' hk.c.length c', .int .i64 hk.keep] (0, 0) _ rfl (hb_store HZ2.out) Try.underlying24 rfl (by kernel_rfl)) rfl ?_
        rw [HEQ.out.1, HEQ.out.2.1, HEQ.out.2.2]
        exact ⟨A', c', rfl, HC.out.1, cl_store (Kd.C_below HC.out.2 HB3.out) HZ2.out, below_set (below_set (below_step HB.out HB3.out) (by omega)) (by omega)⟩
    · have r1 : decide (k < l.length) = false := decide_eq_false hlt
      have r2 : (k < l.length) = False := eq_false hlt
      have hf := HF.out
      rw [List.drop_eq_nil_of_le (by omega)] at hf
      unfold fillO at hf
      simp only [Option.some.injEq, Prod.mk.injEq] at hf
      obtain ⟨rfl, rfl, rfl⟩ := hf
      have f0 := blk_frozen HZ.out 0
      have f1 := blk_frozen HZ.out 1
      have z0 := (blk_cell HZ.out 0).trans (show _ = some (Value.slice none 0 0) from rfl)
      have z1 := (blk_cell HZ.out 1).trans (show _ = some (Value.int .i64 0) from rfl)
      clear hlt hkk
      go_wp2
      refine bodyPost_ret (results_ctt rfl _ _ (w.heap.size + 1) 24 #[.slice A' hk.c.length c', .int .i64 hk.keep] (0, 0) _ rfl (hb_store HZ.out) Try.underlying24 rfl (by kernel_rfl)) rfl ?_
      exact ⟨A', c', rfl, HC.out.1, cl_store HC.out.2 HZ.out, below_set (below_set HB.out (by omega)) (by omega)⟩
end Go.Proofs.Ytopkoganfnabgaa.H
