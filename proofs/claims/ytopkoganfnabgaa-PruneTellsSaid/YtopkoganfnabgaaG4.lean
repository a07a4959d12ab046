import Derived.Test.YtopkoganfnabgaaG3
import Derived.Test.YtopkoganfnabgaaG1
import Derived.Test.YtopkoganfnabgaaG2
namespace Go.Proofs.Ytopkoganfnabgaa.H
open Go.RowKit Go.Proofs.YtopkoganfnabgaaW.PrintWords Go.Proofs.YtopkoganfnabgaaW.PrintLast Go.Proofs.YtopkoganfnabgaaW.PrintMore
attribute [local go_sem] max2_int min2_int max_two min_two max_three min_three max_four min_four
set_option linter.unusedVariables false
set_option linter.unusedSimpArgs false
/-- What the reference's Alloc finds. -/
structure RaSt (w W1 : World) (A B : Option Addr) (c cb : Nat) (h : Hp) (lf : Bool) (n : Nat) : Prop where
  b0 : Below w.heap.size w W1
  bh : W1.heap[w.heap.size]? = some (.cells #[.slice A h.c.length c, .int .i64 h.keep] 24 (0, 0))
  bn : W1.heap[w.heap.size + 1]? = some (.cells #[.bool lf, .slice B n cb] 77 (0, 0))
  br : W1.heap[w.heap.size + 1 + 1]? = some (.cells #[.slice none 0 0, .int .i64 0] 24 (0, 0))
theorem rast (w : World) (A B : Option Addr) (c cb : Nat) (h : Hp) (lf : Bool) (n : Nat) :
    RaSt w (((w.alloc (.cells #[.slice A h.c.length c, .int .i64 h.keep] 24)).alloc (.cells #[.bool lf, .slice B n cb] 77)).alloc (.cells #[.slice none 0 0, .int .i64 0] 24)) A B c cb h lf n :=
  ⟨below_alloc (below_alloc (below_alloc (Below.refl _ _) _) _) _, blk_alloc (blk_alloc (blk_new w _) _) _, blk_alloc (blk2 w _ _) _, blk3 w _ _ _⟩
theorem RaSt.step {w W1 W2 : World} {A B : Option Addr} {c cb : Nat} {h : Hp} {lf : Bool} {n : Nat} (s : RaSt w W1 A B c cb h lf n) (hb : Below W1.heap.size W1 W2) : RaSt w W2 A B c cb h lf n := ⟨below_step s.b0 hb, blk_below s.bh hb, blk_below s.bn hb, blk_below s.br hb⟩
set_option maxHeartbeats 2000000 in
set_option maxRecDepth 100000 in
theorem raArg_walk (A B D : Option Addr) (c cb d : Nat) (h : Hp) (n : Nd) (held : List Int) (w0 w : World) (hr0 : kCl.C w0 A h.c.length h.c) (hb0 : Below w0.heap.size w0 w) (hcc : h.c.length ≤ c) (hn : kIt.C w B n.it.length n.it) (hbad : (nodeRight n && leadsB h n) = false) :
    Calls Try.prog 47 #[.agg #[.slice A h.c.length c, .int .i64 h.keep], .agg #[.bool n.leaf, .slice B n.it.length cb], .slice D held.length d] w fun e w' => ∃ B' cb', e = .returned (.tuple #[.agg #[.slice B' h.c.length cb', .int .i64 h.keep], .int .i64 0, .int .i64 1]) ∧ h.c.length ≤ cb' ∧ Lv w0 w w' B' h.c ∧ Below w.heap.size w w' := by
  obtain ⟨lf, l⟩ := n
  show Calls Try.prog 47 #[.agg #[.slice A h.c.length c, .int .i64 h.keep], .agg #[.bool lf, .slice B l.length cb], .slice D held.length d] w _
  replace hn : kIt.C w B l.length l := hn
  have hr := Kd.C_below hr0 hb0
  have HR0 := Aside0.mk (And.intro hr0 hb0)
  have HNR := Aside0.mk (fun (W : World) (hb : Below w.heap.size w W) => ref04Right_walk B cb ⟨lf, l⟩ W (Kd.C_below hn hb))
  have HLD := Aside0.mk (fun (W : World) (hb : Below w.heap.size w W) => refLeads_walk A B c cb h ⟨lf, l⟩ W (Kd.C_below hr hb) (Kd.C_below hn hb))
  have HCC := Aside0.mk hcc
  obtain ⟨u, hu⟩ : ∃ u, u = nodeRight ⟨lf, l⟩ := ⟨_, rfl⟩
  obtain ⟨v, hv⟩ : ∃ v, v = leadsB h ⟨lf, l⟩ := ⟨_, rfl⟩
  rw [← hu, ← hv] at hbad
  rw [← hu] at HNR
  rw [← hv] at HLD
  clear hr hr0 hb0 hn hcc hu hv
  (obtain ⟨W1, hW1⟩ : ∃ W1, W1 = ((w.alloc (.cells #[.slice A h.c.length c, .int .i64 h.keep] 24)).alloc (.cells #[.bool lf, .slice B l.length cb] 77)).alloc (.cells #[.slice none 0 0, .int .i64 0] 24) := ⟨_, rfl⟩; have S1 := Aside0.mk (show RaSt w W1 A B c cb h lf l.length by (rw [hW1]; exact rast w A B c cb h lf l.length)); have c0 := (blk_cell S1.out.bh 0).trans (show _ = some (Value.slice A h.c.length c) from rfl); have c1 := (blk_cell S1.out.bh 1).trans (show _ = some (Value.int .i64 h.keep) from rfl); have n0 := (blk_cell S1.out.bn 0).trans (show _ = some (Value.bool lf) from rfl); have n1 := (blk_cell S1.out.bn 1).trans (show _ = some (Value.slice B l.length cb) from rfl); have hW1' := Aside0.mk hW1; clear hW1)
  cases u with
  | false =>
    clear hbad
    go_enter Try.func47, Try.ntmps47
    go_upto_region 1 with (fail)
    rw [← hW1'.out]
    go_upto_region 3 with (first | (go_at_call 71; (with_reducible refine (HNR.out _ S1.out.b0).mono ?_); rintro e w2 ⟨rfl, hb2⟩; have S2 := Aside0.mk (S1.out.step hb2); have d0 := bcell hb2 c0; have d1 := bcell hb2 c1; have m0 := bcell hb2 n0; have m1 := bcell hb2 n1; clear hb2) | fail)
    have e0 := (blk_cell S2.out.br 0).trans (show _ = some (Value.slice none 0 0) from rfl)
    have e1 := (blk_cell S2.out.br 1).trans (show _ = some (Value.int .i64 0) from rfl)
    have f0 := blk_frozen S2.out.br 0
    have f1 := blk_frozen S2.out.br 1
    go_wp2
    refine bodyPost_ret (results_ctt rfl _ _ (w.heap.size + 1 + 1) 24 #[.slice A h.c.length c, .int .i64 h.keep] (0, 0) _ rfl (hb_store S2.out.br) Try.underlying24 rfl (by kernel_rfl)) rfl ?_
    have hbf : Below w.heap.size w ((w2.setCell ⟨w.heap.size + 1 + 1, 0, none⟩ (.slice A h.c.length c)).setCell ⟨w.heap.size + 1 + 1, 1, none⟩ (.int .i64 h.keep)) := below_set (below_set S2.out.b0 (by omega)) (by omega)
    exact ⟨A, c, rfl, HCC.out, Lv_old HR0.out.1 (below_step HR0.out.2 hbf), hbf⟩
  | true =>
    obtain rfl : v = false := by simpa using hbad
    clear hbad
    go_enter Try.func47, Try.ntmps47
    go_upto_region 1 with (fail)
    rw [← hW1'.out]
    go_upto_region 3 with (first | (go_at_call 71; (with_reducible refine (HNR.out _ S1.out.b0).mono ?_); rintro e w2 ⟨rfl, hb2⟩; have S2 := Aside0.mk (S1.out.step hb2); have d0 := bcell hb2 c0; have d1 := bcell hb2 c1; have m0 := bcell hb2 n0; have m1 := bcell hb2 n1; clear hb2) | (go_at_call 72; (with_reducible refine (HLD.out _ S2.out.b0).mono ?_); rintro e w3 ⟨rfl, hb3⟩; have S3 := Aside0.mk (S2.out.step hb3); clear hb3) | fail)
    have g0 := (blk_cell S3.out.bh 0).trans (show _ = some (Value.slice A h.c.length c) from rfl)
    have g1 := (blk_cell S3.out.bh 1).trans (show _ = some (Value.int .i64 h.keep) from rfl)
    have e0 := (blk_cell S3.out.br 0).trans (show _ = some (Value.slice none 0 0) from rfl)
    have e1 := (blk_cell S3.out.br 1).trans (show _ = some (Value.int .i64 0) from rfl)
    have f0 := blk_frozen S3.out.br 0
    have f1 := blk_frozen S3.out.br 1
    go_wp2
    refine bodyPost_ret (results_ctt rfl _ _ (w.heap.size + 1 + 1) 24 #[.slice A h.c.length c, .int .i64 h.keep] (0, 0) _ rfl (hb_store S3.out.br) Try.underlying24 rfl (by kernel_rfl)) rfl ?_
    have hbf : Below w.heap.size w ((w3.setCell ⟨w.heap.size + 1 + 1, 0, none⟩ (.slice A h.c.length c)).setCell ⟨w.heap.size + 1 + 1, 1, none⟩ (.int .i64 h.keep)) := below_set (below_set S3.out.b0 (by omega)) (by omega)
    exact ⟨A, c, rfl, HCC.out, Lv_old HR0.out.1 (below_step HR0.out.2 hbf), hbf⟩
theorem firstH_at {h : Hp} {k : Nat} (hk : k < h.c.length) (h1 : ∀ i, i < k → freeB (h.c.getD i zCl) = false) (h2 : freeB (h.c.getD k zCl) = true) : firstH h = k := (tw_len freeB zCl h.c k hk h1 h2).1
theorem firstH_end {h : Hp} (h1 : ∀ i, i < h.c.length → freeB (h.c.getD i zCl) = false) : firstH h = h.c.length := (tw_all freeB zCl h.c h1).1
theorem firstH_le (h : Hp) : firstH h ≤ h.c.length := by unfold firstH; exact (List.takeWhile_sublist _).length_le
theorem posB_at {h : Hp} (hp : posB h = true) (k : Nat) (hk : k < h.c.length) : 0 ≤ (h.c.getD k zCl).ref := by
  unfold posB at hp
  have := List.all_eq_true.1 hp (h.c.getD k zCl) (by rw [List.getD_eq_getElem?_getD, List.getElem?_eq_getElem hk]; exact List.getElem_mem hk)
  simpa using this
set_option maxHeartbeats 4000000 in
set_option maxRecDepth 100000 in
theorem raFull_walk (A B D : Option Addr) (c cb d : Nat) (h : Hp) (n : Nd) (held : List Int) (w0 w : World) (hr0 : kCl.C w0 A h.c.length h.c) (hb0 : Below w0.heap.size w0 w) (hcc : h.c.length ≤ c) (hn : kIt.C w B n.it.length n.it) (hl : h.c.length ≤ 2000) (hnr : nodeRight n = true) (hld : leadsB h n = true) (hpos : posB h = true) (hf : ¬ firstH h < h.c.length) :
    Calls Try.prog 47 #[.agg #[.slice A h.c.length c, .int .i64 h.keep], .agg #[.bool n.leaf, .slice B n.it.length cb], .slice D held.length d] w fun e w' => ∃ B' cb', e = .returned (.tuple #[.agg #[.slice B' h.c.length cb', .int .i64 h.keep], .int .i64 0, .int .i64 3]) ∧ h.c.length ≤ cb' ∧ Lv w0 w w' B' h.c ∧ Below w.heap.size w w' := by
  obtain ⟨lf, l⟩ := n
  show Calls Try.prog 47 #[.agg #[.slice A h.c.length c, .int .i64 h.keep], .agg #[.bool lf, .slice B l.length cb], .slice D held.length d] w _
  replace hn : kIt.C w B l.length l := hn
  have hr := Kd.C_below hr0 hb0
  have HR0 := Aside0.mk (And.intro hr0 (And.intro hb0 hr))
  have HNR := Aside0.mk (fun (W : World) (hb : Below w.heap.size w W) => ref04Right_walk B cb ⟨lf, l⟩ W (Kd.C_below hn hb))
  have HLD := Aside0.mk (fun (W : World) (hb : Below w.heap.size w W) => refLeads_walk A B c cb h ⟨lf, l⟩ W (Kd.C_below hr hb) (Kd.C_below hn hb))
  rw [hnr] at HNR
  rw [hld] at HLD
  have HCC := Aside0.mk (And.intro hcc (And.intro hl (And.intro hpos hf)))
  clear hr hr0 hb0 hn hcc hnr hld hl hpos hf
  (obtain ⟨W1, hW1⟩ : ∃ W1, W1 = ((w.alloc (.cells #[.slice A h.c.length c, .int .i64 h.keep] 24)).alloc (.cells #[.bool lf, .slice B l.length cb] 77)).alloc (.cells #[.slice none 0 0, .int .i64 0] 24) := ⟨_, rfl⟩; have S1 := Aside0.mk (show RaSt w W1 A B c cb h lf l.length by (rw [hW1]; exact rast w A B c cb h lf l.length)); have c0 := (blk_cell S1.out.bh 0).trans (show _ = some (Value.slice A h.c.length c) from rfl); have c1 := (blk_cell S1.out.bh 1).trans (show _ = some (Value.int .i64 h.keep) from rfl); have n0 := (blk_cell S1.out.bn 0).trans (show _ = some (Value.bool lf) from rfl); have n1 := (blk_cell S1.out.bn 1).trans (show _ = some (Value.slice B l.length cb) from rfl); have hW1' := Aside0.mk hW1; clear hW1)
  go_enter Try.func47, Try.ntmps47
  go_upto_region 1 with (fail)
  rw [← hW1'.out]
  go_upto_region 4 with (first | (go_at_call 71; (with_reducible refine (HNR.out _ S1.out.b0).mono ?_); rintro e w2 ⟨rfl, hb2⟩; have S2 := Aside0.mk (S1.out.step hb2); have d0 := bcell hb2 c0; have d1 := bcell hb2 c1; have m0 := bcell hb2 n0; have m1 := bcell hb2 n1; clear hb2) | (go_at_call 72; (with_reducible refine (HLD.out _ S2.out.b0).mono ?_); rintro e w3 ⟨rfl, hb3⟩; have S3 := Aside0.mk (S2.out.step hb3); clear hb3) | fail)
  clear c0 c1 n0 n1 d0 d1 m0 m1
  have g0 := (blk_cell S3.out.bh 0).trans (show _ = some (Value.slice A h.c.length c) from rfl)
  have g1 := (blk_cell S3.out.bh 1).trans (show _ = some (Value.int .i64 h.keep) from rfl)
  go_upto_block 0 with (fail)
  go_cut [10] from 25 to 48 (fun v10 wc => v10 = .int .i64 (firstH h : Nat) ∧ w3 = wc)
  case first =>
    have HRC := Aside0.mk (Kd.C_below HR0.out.2.2 S3.out.b0)
    go_wp2
    go_loopg [10] h.c.length (fun g s10 wr => ∃ k : Nat, s10 = .int .i64 k ∧ k + g = h.c.length ∧ Aside0 (∀ i, i < k → freeB (h.c.getD i zCl) = false) ∧ Aside0 (w3 = wr))
    case atStart => exact ⟨0, rfl, by omega, ⟨fun i h => by omega⟩, ⟨rfl⟩⟩
    case round =>
      obtain ⟨k, rfl, hk, HO, HE⟩ := hrel
      have he := HE.out
      subst he
      by_cases hlt : k < h.c.length
      · obtain ⟨g9, rfl⟩ : ∃ g9, gk = g9 + 1 := ⟨gk - 1, by omega⟩
        have r1 : decide (k < h.c.length) = true := decide_eq_true hlt
        have r2 : (k < h.c.length) = True := eq_true hlt
        obtain ⟨ad, B2, cb2, hade, x0, x1, _⟩ := at_cl HRC.out k hlt
        rw [hade] at g0
        have hp0 := posB_at HCC.out.2.2.1 k hlt
        obtain ⟨x, hx⟩ : ∃ x, x = h.c.getD k zCl := ⟨_, rfl⟩
        rw [← hx] at x0 x1 hp0
        have HX := Aside0.mk hx
        have HA9 := Aside0.mk hade
        have HK := Aside0.mk (And.intro hlt hk)
        have HW := Aside0.mk (show wrap64 ((k : Int) + 1) = ((k + 1 : Nat) : Int) by have := HCC.out.2.1; unfold wrap64; omega)
        have hfr : freeB x = (decide (x.ref = 0) && !x.pin) := rfl
        by_cases e0 : x.ref = 0
        · have p1 : decide (0 < x.ref) = false := decide_eq_false (by omega)
          have p2 : (0 < x.ref) = False := eq_false (by omega)
          rw [decide_eq_true e0, Bool.true_and] at hfr
          obtain ⟨pin, hpin⟩ : ∃ pin, pin = x.pin := ⟨_, rfl⟩
          rw [← hpin] at x1 hfr
          cases pin with
          | true =>
            have HN := Aside0.mk (show freeB (h.c.getD k zCl) = false by rw [← HX.out]; exact hfr)
            clear hx hlt hk hp0 hfr e0 hpin hade
            go_wp2
            go_roundg g9
            case measure => omega
            case rel => exact ⟨k + 1, by rw [HW.out], by have := HK.out; omega, ⟨fun i hi => by rcases Nat.lt_or_ge i k with h | h; exact HO.out i h; obtain rfl : i = k := (by omega); exact HN.out⟩, ⟨rfl⟩⟩
          | false =>
            have HFI := Aside0.mk (firstH_at hlt HO.out (by rw [← HX.out]; exact hfr))
            clear hx hlt hk hp0 hfr e0 hpin hade
            go_wp2
            go_meet
            case rel => exact ⟨by rw [HFI.out], rfl⟩
        · have p1 : decide (0 < x.ref) = true := decide_eq_true (by omega)
          have p2 : (0 < x.ref) = True := eq_true (by omega)
          have HN := Aside0.mk (show freeB (h.c.getD k zCl) = false by rw [← HX.out, hfr, decide_eq_false e0]; rfl)
          clear hx hlt hk hp0 hfr e0 hade
          go_wp2
          go_roundg g9
          case measure => omega
          case rel => exact ⟨k + 1, by rw [HW.out], by have := HK.out; omega, ⟨fun i hi => by rcases Nat.lt_or_ge i k with h | h; exact HO.out i h; obtain rfl : i = k := (by omega); exact HN.out⟩, ⟨rfl⟩⟩
      · have r1 : decide (k < h.c.length) = false := decide_eq_false hlt
        have r2 : (k < h.c.length) = False := eq_false hlt
        have HFI := Aside0.mk (show firstH h = k from (firstH_end (fun i hi => HO.out i (by omega))).trans (by omega))
        clear hlt hk
        go_wp2
        go_meet
        case rel => exact ⟨by rw [HFI.out], rfl⟩
  case rest =>
    obtain ⟨rfl, hw⟩ := hcut
    subst hw
    have q0 : ((firstH h : Nat) : Int) = (h.c.length : Int) := by have := firstH_le h; have := HCC.out.2.2.2; omega
    obtain ⟨fh, hfh⟩ : ∃ fh, fh = firstH h := ⟨_, rfl⟩
    rw [← hfh] at q0 ⊢
    have q1 : (fh == h.c.length) = true := beq_iff_eq.mpr (by omega)
    have q2 : ((fh : Int) == (h.c.length : Int)) = true := beq_iff_eq.mpr q0
    clear q0 hfh
    have e0 := (blk_cell S3.out.br 0).trans (show _ = some (Value.slice none 0 0) from rfl)
    have e1 := (blk_cell S3.out.br 1).trans (show _ = some (Value.int .i64 0) from rfl)
    have f0 := blk_frozen S3.out.br 0
    have f1 := blk_frozen S3.out.br 1
    go_wp2
    refine bodyPost_ret (results_ctt rfl _ _ (w.heap.size + 1 + 1) 24 #[.slice A h.c.length c, .int .i64 h.keep] (0, 0) _ rfl (hb_store S3.out.br) Try.underlying24 rfl (by kernel_rfl)) rfl ?_
    have hbf : Below w.heap.size w ((w3.setCell ⟨w.heap.size + 1 + 1, 0, none⟩ (.slice A h.c.length c)).setCell ⟨w.heap.size + 1 + 1, 1, none⟩ (.int .i64 h.keep)) := below_set (below_set S3.out.b0 (by omega)) (by omega)
    exact ⟨A, c, rfl, HCC.out.1, Lv_old HR0.out.1 (below_step HR0.out.2.1 hbf), hbf⟩
end Go.Proofs.Ytopkoganfnabgaa.H
namespace Go.Proofs.Ytopkoganfnabgaa.H
open Go.RowKit Go.Proofs.YtopkoganfnabgaaW.PrintWords Go.Proofs.YtopkoganfnabgaaW.PrintLast Go.Proofs.YtopkoganfnabgaaW.PrintMore
attribute [local go_sem] max2_int min2_int max_two min_two max_three min_three max_four min_four
set_option linter.unusedVariables false
set_option linter.unusedSimpArgs false
set_option maxHeartbeats 4000000 in
set_option maxRecDepth 100000 in
theorem raOk_walk (A B D : Option Addr) (c cb d : Nat) (h : Hp) (n : Nd) (held : List Int) (w0 w : World) (hr0 : kCl.C w0 A h.c.length h.c) (hb0 : Below w0.heap.size w0 w) (hcc : h.c.length ≤ c) (hn0 : kIt.C w0 B n.it.length n.it) (hnb : n.it.length ≤ cb) (hd : (Kd.int .i64).C w D held.length held) (hl : h.c.length ≤ 2000) (hnr : nodeRight n = true) (hld : leadsB h n = true) (hpos : posB h = true) (hf : firstH h < h.c.length) :
    Calls Try.prog 47 #[.agg #[.slice A h.c.length c, .int .i64 h.keep], .agg #[.bool n.leaf, .slice B n.it.length cb], .slice D held.length d] w fun e w' => ∃ B' cb', e = .returned (.tuple #[.agg #[.slice B' (setH (if n.leaf then h else holdL h held n.it) (firstH h : Nat) ⟨1, false, n⟩).c.length cb', .int .i64 (setH (if n.leaf then h else holdL h held n.it) (firstH h : Nat) ⟨1, false, n⟩).keep], .int .i64 (firstH h : Nat), .int .i64 0]) ∧ (setH (if n.leaf then h else holdL h held n.it) (firstH h : Nat) ⟨1, false, n⟩).c.length ≤ cb' ∧ Lv w0 w w' B' (setH (if n.leaf then h else holdL h held n.it) (firstH h : Nat) ⟨1, false, n⟩).c ∧ Below w.heap.size w w' := by
  obtain ⟨lf, l⟩ := n
  obtain ⟨hF, hhF⟩ : ∃ hF, hF = setH (if lf = true then h else holdL h held l) (firstH h : Nat) ⟨1, false, ⟨lf, l⟩⟩ := ⟨_, rfl⟩
  show Calls Try.prog 47 #[.agg #[.slice A h.c.length c, .int .i64 h.keep], .agg #[.bool lf, .slice B l.length cb], .slice D held.length d] w fun e w' => ∃ B' cb', e = .returned (.tuple #[.agg #[.slice B' (setH (if lf then h else holdL h held l) (firstH h : Nat) ⟨1, false, ⟨lf, l⟩⟩).c.length cb', .int .i64 (setH (if lf then h else holdL h held l) (firstH h : Nat) ⟨1, false, ⟨lf, l⟩⟩).keep], .int .i64 (firstH h : Nat), .int .i64 0]) ∧ (setH (if lf then h else holdL h held l) (firstH h : Nat) ⟨1, false, ⟨lf, l⟩⟩).c.length ≤ cb' ∧ Lv w0 w w' B' (setH (if lf then h else holdL h held l) (firstH h : Nat) ⟨1, false, ⟨lf, l⟩⟩).c ∧ Below w.heap.size w w'
  rw [← hhF]
  have HHF := Aside0.mk hhF
  replace hn0 : kIt.C w0 B l.length l := hn0
  replace hnb : l.length ≤ cb := hnb
  have hr := Kd.C_below hr0 hb0
  have hn := Kd.C_below hn0 hb0
  have HR0 := Aside0.mk (And.intro hr0 (And.intro hb0 hr))
  have HN0 := Aside0.mk (And.intro hn0 (And.intro hnb (And.intro hn hd)))
  have HLD2 := Aside0.mk hld
  have HNR := Aside0.mk (fun (W : World) (hb : Below w.heap.size w W) => ref04Right_walk B cb ⟨lf, l⟩ W (Kd.C_below hn hb))
  have HLD := Aside0.mk (fun (W : World) (hb : Below w.heap.size w W) => refLeads_walk A B c cb h ⟨lf, l⟩ W (Kd.C_below hr hb) (Kd.C_below hn hb))
  rw [hnr] at HNR
  rw [hld] at HLD
  have HCC := Aside0.mk (And.intro hcc (And.intro hl (And.intro hpos hf)))
  clear hr hr0 hb0 hn hn0 hnb hd hcc hnr hld hl hpos hf hhF
  (obtain ⟨W1, hW1⟩ : ∃ W1, W1 = ((w.alloc (.cells #[.slice A h.c.length c, .int .i64 h.keep] 24)).alloc (.cells #[.bool lf, .slice B l.length cb] 77)).alloc (.cells #[.slice none 0 0, .int .i64 0] 24) := ⟨_, rfl⟩; have S1 := Aside0.mk (show RaSt w W1 A B c cb h lf l.length by (rw [hW1]; exact rast w A B c cb h lf l.length)); have c0 := (blk_cell S1.out.bh 0).trans (show _ = some (Value.slice A h.c.length c) from rfl); have c1 := (blk_cell S1.out.bh 1).trans (show _ = some (Value.int .i64 h.keep) from rfl); have n0 := (blk_cell S1.out.bn 0).trans (show _ = some (Value.bool lf) from rfl); have n1 := (blk_cell S1.out.bn 1).trans (show _ = some (Value.slice B l.length cb) from rfl); have hW1' := Aside0.mk hW1; clear hW1)
  go_enter Try.func47, Try.ntmps47
  go_upto_region 1 with (fail)
  rw [← hW1'.out]
  go_upto_region 4 with (first | (go_at_call 71; (with_reducible refine (HNR.out _ S1.out.b0).mono ?_); rintro e w2 ⟨rfl, hb2⟩; have S2 := Aside0.mk (S1.out.step hb2); have d0 := bcell hb2 c0; have d1 := bcell hb2 c1; have m0 := bcell hb2 n0; have m1 := bcell hb2 n1; clear hb2) | (go_at_call 72; (with_reducible refine (HLD.out _ S2.out.b0).mono ?_); rintro e w3 ⟨rfl, hb3⟩; have S3 := Aside0.mk (S2.out.step hb3); clear hb3) | fail)
  clear c0 c1 n0 n1 d0 d1 m0 m1
  have g0 := (blk_cell S3.out.bh 0).trans (show _ = some (Value.slice A h.c.length c) from rfl)
  have g1 := (blk_cell S3.out.bh 1).trans (show _ = some (Value.int .i64 h.keep) from rfl)
  go_upto_block 0 with (fail)
  go_cut [10] from 25 to 48 (fun v10 wc => v10 = .int .i64 (firstH h : Nat) ∧ w3 = wc)
  case first =>
    have HRC := Aside0.mk (Kd.C_below HR0.out.2.2 S3.out.b0)
    go_wp2
    go_loopg [10] h.c.length (fun g s10 wr => ∃ k : Nat, s10 = .int .i64 k ∧ k + g = h.c.length ∧ Aside0 (∀ i, i < k → freeB (h.c.getD i zCl) = false) ∧ Aside0 (w3 = wr))
    case atStart => exact ⟨0, rfl, by omega, ⟨fun i h => by omega⟩, ⟨rfl⟩⟩
    case round =>
      obtain ⟨k, rfl, hk, HO, HE⟩ := hrel
      have he := HE.out
      subst he
      by_cases hlt : k < h.c.length
      · obtain ⟨g9, rfl⟩ : ∃ g9, gk = g9 + 1 := ⟨gk - 1, by omega⟩
        have r1 : decide (k < h.c.length) = true := decide_eq_true hlt
        have r2 : (k < h.c.length) = True := eq_true hlt
        obtain ⟨ad, B2, cb2, hade, x0, x1, _⟩ := at_cl HRC.out k hlt
        rw [hade] at g0
        have hp0 := posB_at HCC.out.2.2.1 k hlt
        obtain ⟨x, hx⟩ : ∃ x, x = h.c.getD k zCl := ⟨_, rfl⟩
        rw [← hx] at x0 x1 hp0
        have HX := Aside0.mk hx
        have HA9 := Aside0.mk hade
        have HK := Aside0.mk (And.intro hlt hk)
        have HW := Aside0.mk (show wrap64 ((k : Int) + 1) = ((k + 1 : Nat) : Int) by have := HCC.out.2.1; unfold wrap64; omega)
        have hfr : freeB x = (decide (x.ref = 0) && !x.pin) := rfl
        by_cases e0 : x.ref = 0
        · have p1 : decide (0 < x.ref) = false := decide_eq_false (by omega)
          have p2 : (0 < x.ref) = False := eq_false (by omega)
          rw [decide_eq_true e0, Bool.true_and] at hfr
          obtain ⟨pin, hpin⟩ : ∃ pin, pin = x.pin := ⟨_, rfl⟩
          rw [← hpin] at x1 hfr
          cases pin with
          | true =>
            have HN := Aside0.mk (show freeB (h.c.getD k zCl) = false by rw [← HX.out]; exact hfr)
            clear hx hlt hk hp0 hfr e0 hpin hade
            go_wp2
            go_roundg g9
            case measure => omega
            case rel => exact ⟨k + 1, by rw [HW.out], by have := HK.out; omega, ⟨fun i hi => by rcases Nat.lt_or_ge i k with h | h; exact HO.out i h; obtain rfl : i = k := (by omega); exact HN.out⟩, ⟨rfl⟩⟩
          | false =>
            have HFI := Aside0.mk (firstH_at hlt HO.out (by rw [← HX.out]; exact hfr))
            clear hx hlt hk hp0 hfr e0 hpin hade
            go_wp2
            go_meet
            case rel => exact ⟨by rw [HFI.out], rfl⟩
        · have p1 : decide (0 < x.ref) = true := decide_eq_true (by omega)
          have p2 : (0 < x.ref) = True := eq_true (by omega)
          have HN := Aside0.mk (show freeB (h.c.getD k zCl) = false by rw [← HX.out, hfr, decide_eq_false e0]; rfl)
          clear hx hlt hk hp0 hfr e0 hade
          go_wp2
          go_roundg g9
          case measure => omega
          case rel => exact ⟨k + 1, by rw [HW.out], by have := HK.out; omega, ⟨fun i hi => by rcases Nat.lt_or_ge i k with h | h; exact HO.out i h; obtain rfl : i = k := (by omega); exact HN.out⟩, ⟨rfl⟩⟩
      · have r1 : decide (k < h.c.length) = false := decide_eq_false hlt
        have r2 : (k < h.c.length) = False := eq_false hlt
        have HFI := Aside0.mk (show firstH h = k from (firstH_end (fun i hi => HO.out i (by omega))).trans (by omega))
        clear hlt hk
        go_wp2
        go_meet
        case rel => exact ⟨by rw [HFI.out], rfl⟩
  case rest =>
    obtain ⟨rfl, hw⟩ := hcut
    subst hw
    obtain ⟨fh, hfh⟩ : ∃ fh, fh = firstH h := ⟨_, rfl⟩
    have hfl : fh < h.c.length := by have := HCC.out.2.2.2; omega
    have HFL := Aside0.mk hfl
    have HFH := Aside0.mk hfh
    rw [← hfh] at HHF ⊢
    have q1 : (fh == h.c.length) = false := beq_eq_false_iff_ne.mpr (by omega)
    have q2 : ((fh : Int) == (h.c.length : Int)) = false := beq_eq_false_iff_ne.mpr (by omega)
    obtain ⟨W4, hW4⟩ : ∃ W4, W4 = w3.alloc (.cells #[.slice A h.c.length c, .int .i64 h.keep] 24) := ⟨_, rfl⟩
    have hb4 : Below w3.heap.size w3 W4 := by rw [hW4]; exact below_alloc (Below.refl _ _) _
    have S4 := Aside0.mk (S3.out.step hb4)
    have HX4 := Aside0.mk (show W4.heap[w3.heap.size]? = some (.cells #[.slice A h.c.length c, .int .i64 h.keep] 24) by rw [hW4]; exact blk_new w3 _)
    obtain ⟨X, hX⟩ : ∃ X, X = w3.heap.size := ⟨_, rfl⟩
    have HXW := Aside0.mk (show w.heap.size + 1 + 1 < X by rw [hX]; exact blk_lt S3.out.br)
    have hW4' := Aside0.mk hW4
    clear hfh hfl hW4 hb4
    go_upto_region 10 with (fail)
    rw [← hW4'.out]
    rw [← hX] at HX4 ⊢
    clear g0 g1 q1 q2 hX
    go_upto_block 2 with (fail)
    go_cut [12] from 56 to 85 (fun v12 wc => ∃ (hk : Hp) (A' : Option Addr) (c' : Nat), Aside0 (hF = setH hk (fh : Int) ⟨1, false, ⟨lf, l⟩⟩) ∧ Aside0 (wc.heap[X]? = some (.cells #[.slice A' hk.c.length c', .int .i64 hk.keep] 24 (0, 0))) ∧ Aside0 (hk.c.length = h.c.length ∧ Ls w0 w wc A' hk.c) ∧ Aside0 (wc.heap[w.heap.size + 1]? = some (.cells #[.bool lf, .slice B l.length cb] 77 (0, 0)) ∧ wc.heap[w.heap.size + 1 + 1]? = some (.cells #[.slice none 0 0, .int .i64 0] 24 (0, 0))) ∧ Aside0 (Below w.heap.size w wc))
    case first =>
      have n0 := (blk_cell S4.out.bn 0).trans (show _ = some (Value.bool lf) from rfl)
      have n1 := (blk_cell S4.out.bn 1).trans (show _ = some (Value.slice B l.length cb) from rfl)
      have HLS := Aside0.mk (Ls_old (a := w) HR0.out.1 (below_step HR0.out.2.1 S4.out.b0))
      cases lf with
      | true =>
        by_cases h0 : 0 < l.length
        · have r1 : decide (0 < l.length) = true := decide_eq_true h0
          have r2 : (0 < l.length) = True := eq_true h0
          have r3 : decide ((0 : Int) < (l.length : Int)) = true := decide_eq_true (by omega)
          clear h0
          go_wp2
          refine wp_loop_rounds 1 ?_
          rw [rounds_succ]; go_wp2
          go_meet
          case rel => exact ⟨h, A, c, ⟨HHF.out⟩, HX4, ⟨rfl, HLS.out⟩, ⟨S4.out.bn, S4.out.br⟩, ⟨S4.out.b0⟩⟩
        · have r1 : decide (0 < l.length) = false := decide_eq_false h0
          have r2 : (0 < l.length) = False := eq_false h0
          have r3 : decide ((0 : Int) < (l.length : Int)) = false := decide_eq_false (by omega)
          clear h0
          go_wp2
          refine wp_loop_rounds 1 ?_
          rw [rounds_succ]; go_wp2
          go_meet
          case rel => exact ⟨h, A, c, ⟨HHF.out⟩, HX4, ⟨rfl, HLS.out⟩, ⟨S4.out.bn, S4.out.br⟩, ⟨S4.out.b0⟩⟩
      | false =>
        clear n0 n1
        go_wp2
        go_loopg [12] l.length (fun g s12 wr => ∃ (k : Nat) (hk : Hp) (A' : Option Addr) (c' : Nat), s12 = .int .i64 k ∧ k + g = l.length ∧ Aside0 (holdL hk held (l.drop k) = holdL h held l) ∧ Aside0 (wr.heap[X]? = some (.cells #[.slice A' hk.c.length c', .int .i64 hk.keep] 24 (0, 0))) ∧ Aside0 (hk.c.length = h.c.length ∧ Ls w0 w wr A' hk.c) ∧ Aside0 (wr.heap[w.heap.size + 1]? = some (.cells #[.bool false, .slice B l.length cb] 77 (0, 0)) ∧ wr.heap[w.heap.size + 1 + 1]? = some (.cells #[.slice none 0 0, .int .i64 0] 24 (0, 0))) ∧ Aside0 (Below w.heap.size w wr))
        case atStart => exact ⟨0, h, A, c, rfl, by omega, ⟨rfl⟩, HX4, ⟨rfl, HLS.out⟩, ⟨S4.out.bn, S4.out.br⟩, ⟨S4.out.b0⟩⟩
        case round =>
          obtain ⟨k, hk, A', c', rfl, hkk, HFO, HXB, HLK, HBL, HBW⟩ := hrel
          have n0 := (blk_cell HBL.out.1 0).trans (show _ = some (Value.bool false) from rfl)
          have n1 := (blk_cell HBL.out.1 1).trans (show _ = some (Value.slice B l.length cb) from rfl)
          have x0 := (blk_cell HXB.out 0).trans (show _ = some (Value.slice A' hk.c.length c') from rfl)
          have x1 := (blk_cell HXB.out 1).trans (show _ = some (Value.int .i64 hk.keep) from rfl)
          by_cases hlt : k < l.length
          · obtain ⟨g9, rfl⟩ : ∃ g9, gk = g9 + 1 := ⟨gk - 1, by omega⟩
            have r1 : decide (k < l.length) = true := decide_eq_true hlt
            have r2 : (k < l.length) = True := eq_true hlt
            have hm := Kd.C_max HN0.out.2.2.1
            obtain ⟨ad, hade, _, z1⟩ := at_it (Kd.C_below HN0.out.2.2.1 HBW.out) k hlt
            subst hade
            have hu := HLD2.out
            unfold leadsB at hu
            rw [Bool.false_or] at hu
            have hux := List.all_eq_true.1 hu (itAt l k) (by unfold itAt; rw [List.getD_eq_getElem?_getD, List.getElem?_eq_getElem hlt]; exact List.getElem_mem hlt)
            unfold usedB at hux
            rw [Bool.and_eq_true] at hux
            obtain ⟨v, hv, hvl⟩ := inB_nat hux.1
            have hfo := HFO.out
            rw [drop_succ zIt l k hlt] at hfo
            have hfo2 : holdL (if inL held (itAt l k).v then hk else moreH hk (itAt l k).v) held (l.drop (k + 1)) = holdL h held l := hfo
            rw [hv] at z1 hfo2
            have HF2 := Aside0.mk hfo2
            have HIN := Aside0.mk (refIn_walk D d held (v : Int) wr (Kd.C_below HN0.out.2.2.2 HBW.out))
            have HVL := Aside0.mk (show v < hk.c.length ∧ hk.c.length ≤ 1000000 by have := HLK.out.1; have := HCC.out.2.1; omega)
            have HMO := Aside0.mk (fun (W : World) (hb : Below wr.heap.size wr W) => refMore_walk A' c' hk v w0 w W (HLK.out.2.below hb) (below_step HBW.out hb).size HVL.out.1 HVL.out.2)
            have HK := Aside0.mk (And.intro hlt hkk)
            have HW := Aside0.mk (show wrap64 ((k : Int) + 1) = ((k + 1 : Nat) : Int) by unfold wrap64; omega)
            obtain ⟨u, huu⟩ : ∃ u, u = inL held (v : Int) := ⟨_, rfl⟩
            rw [← huu] at HIN HF2
            clear hu hux hvl hfo hfo2 hlt hkk huu hv hm
            cases u with
            | true =>
              go_wp2_with (first | (go_at_call 73; (with_reducible refine HIN.out.mono ?_); rintro e w5 ⟨rfl, rfl⟩) | fail)
              go_roundg g9
              case measure => omega
              case rel => exact ⟨k + 1, hk, A', c', by rw [HW.out], by have := HK.out.2; omega, ⟨HF2.out⟩, HXB, HLK, HBL, HBW⟩
            | false =>
              obtain ⟨hq, hhq⟩ : ∃ hq, hq = moreH hk (v : Int) := ⟨_, rfl⟩
              have hql : hq.c.length = hk.c.length := by rw [hhq]; unfold moreH setH; simp
              have HQL := Aside0.mk hql
              have hf2 := HF2.out
              rw [if_neg (by decide), ← hhq] at hf2
              have HF3 := Aside0.mk hf2
              rw [← hhq] at HMO
              clear hf2 hql hhq
              go_upto_region 15 with (first | (go_at_call 73; (with_reducible refine HIN.out.mono ?_); rintro e w5 ⟨rfl, hw5⟩; have hw6 := hw5.symm; subst hw6; clear hw5) | fail)
              go_still_tail 7, (by kernel_rfl)
              go_wp2_with (first | (go_at_call 74; (with_reducible refine (HMO.out _ (by repeat (first | (with_reducible exact Below.refl _ _) | (with_reducible refine below_alloc ?_ _) | (with_reducible refine below_drew1 ?_) | (with_reducible refine pw_below_drewN ?_ _) | fail))).mono ?_); rintro e w6 ⟨B6, c6, rfl, hc6, hl6, hb6⟩; have HB6 := Aside0.mk (show Below wr.heap.size wr w6 from below_step (by repeat (first | (with_reducible exact Below.refl _ _) | (with_reducible refine below_alloc ?_ _) | (with_reducible refine below_drew1 ?_) | (with_reducible refine pw_below_drewN ?_ _) | fail)) hb6); have HX6 := Aside0.mk (blk_below HXB.out HB6.out); have y0 := (blk_cell HX6.out 0).trans (show _ = some (Value.slice A' hk.c.length c') from rfl); have y1 := (blk_cell HX6.out 1).trans (show _ = some (Value.int .i64 hk.keep) from rfl); have f0 := blk_frozen HX6.out 0; have f1 := blk_frozen HX6.out 1; have HL6 := Aside0.mk (And.intro hc6 hl6); clear hc6 hl6 hb6) | fail)
              go_roundg g9
              case measure => omega
              case rel =>
                have hXw : w.heap.size ≤ X := by have := HXW.out; omega
                have hne1 : w.heap.size + 1 ≠ X := by have := HXW.out; omega
                have hne2 : w.heap.size + 1 + 1 ≠ X := by have := HXW.out; omega
                exact ⟨k + 1, hq, B6, c6, by rw [HW.out], by have := HK.out.2; omega, HF3, ⟨hb_store HX6.out⟩, ⟨HQL.out.trans HLK.out.1, HL6.out.2.store HX6.out (by have := HR0.out.2.1.size; omega)⟩, ⟨blk_far (blk_far (blk_below HBL.out.1 HB6.out) hne1 _) hne1 _, blk_far (blk_far (blk_below HBL.out.2 HB6.out) hne2 _) hne2 _⟩, ⟨below_set (below_set (below_step HBW.out HB6.out) hXw) hXw⟩⟩
          · have r1 : decide (k < l.length) = false := decide_eq_false hlt
            have r2 : (k < l.length) = False := eq_false hlt
            have hfo := HFO.out
            rw [List.drop_eq_nil_of_le (by omega)] at hfo
            have hfo2 : hk = holdL h held l := hfo
            have HE2 := Aside0.mk (show hF = setH hk (fh : Int) ⟨1, false, ⟨false, l⟩⟩ by rw [HHF.out, if_neg (by decide), hfo2])
            clear hlt hkk hfo hfo2
            go_wp2
            go_meet
            case rel => exact ⟨hk, A', c', HE2, HXB, HLK, HBL, HBW⟩
    case rest =>
      obtain ⟨hk, A', c', HE2, HXB, HLK, HBL, HBW⟩ := hcut
      have n0 := (blk_cell HBL.out.1 0).trans (show _ = some (Value.bool lf) from rfl)
      have n1 := (blk_cell HBL.out.1 1).trans (show _ = some (Value.slice B l.length cb) from rfl)
      have x0 := (blk_cell HXB.out 0).trans (show _ = some (Value.slice A' hk.c.length c') from rfl)
      have x1 := (blk_cell HXB.out 1).trans (show _ = some (Value.int .i64 hk.keep) from rfl)
      have hst := refSet_walk A' B c' cb hk fh ⟨1, false, ⟨lf, l⟩⟩ w0 w wc HLK.out.2 HBW.out.size HN0.out.1 HN0.out.2.1 (by have := HLK.out.1; have := HFL.out; omega) (by have := HLK.out.1; have := HCC.out.2.1; omega)
      rw [← HE2.out] at hst
      have HST := Aside0.mk hst
      clear hst
      go_wp2_with (first | (go_at_call 75; (with_reducible refine HST.out.mono ?_); rintro e w7 ⟨B7, c7, rfl, hc7, hl7, hb7⟩; have HL7 := Aside0.mk (And.intro hc7 hl7); have HB7 := Aside0.mk hb7; have HZ7 := Aside0.mk (blk_below HBL.out.2 hb7); have y0 := (blk_cell HZ7.out 0).trans (show _ = some (Value.slice none 0 0) from rfl); have y1 := (blk_cell HZ7.out 1).trans (show _ = some (Value.int .i64 0) from rfl); have f0 := blk_frozen HZ7.out 0; have f1 := blk_frozen HZ7.out 1; clear hc7 hl7 hb7) | fail)
      refine bodyPost_ret (results_ctt rfl _ _ (w.heap.size + 1 + 1) 24 #[.slice B7 hF.c.length c7, .int .i64 hF.keep] (0, 0) _ rfl (hb_store HZ7.out) Try.underlying24 rfl (by kernel_rfl)) rfl ?_
      rw [← HFH.out]
      exact ⟨B7, c7, rfl, HL7.out.1, (HL7.out.2.store HZ7.out (by have := HR0.out.2.1.size; omega)).lv, below_set (below_set (below_step HBW.out HB7.out) (by omega)) (by omega)⟩
end Go.Proofs.Ytopkoganfnabgaa.H
namespace Go.Proofs.Ytopkoganfnabgaa.H
open Go.RowKit Go.Proofs.YtopkoganfnabgaaW.PrintWords Go.Proofs.YtopkoganfnabgaaW.PrintLast Go.Proofs.YtopkoganfnabgaaW.PrintMore
attribute [local go_sem] max2_int min2_int max_two min_two max_three min_three max_four min_four
set_option linter.unusedVariables false
set_option linter.unusedSimpArgs false
/-- The reference's Alloc. -/
theorem refAlloc_walk (A B D : Option Addr) (c cb d : Nat) (h h' : Hp) (n : Nd) (held : List Int) (p er : Int) (w0 w : World) (hr0 : kCl.C w0 A h.c.length h.c) (hb0 : Below w0.heap.size w0 w) (hcc : h.c.length ≤ c) (hn0 : kIt.C w0 B n.it.length n.it) (hnb : n.it.length ≤ cb) (hd : (Kd.int .i64).C w D held.length held) (e : allocO h n held = some (h', p, er)) :
    Calls Try.prog 47 #[.agg #[.slice A h.c.length c, .int .i64 h.keep], .agg #[.bool n.leaf, .slice B n.it.length cb], .slice D held.length d] w fun e w' => ∃ B' cb', e = .returned (.tuple #[.agg #[.slice B' h'.c.length cb', .int .i64 h'.keep], .int .i64 p, .int .i64 er]) ∧ h'.c.length ≤ cb' ∧ Lv w0 w w' B' h'.c ∧ Below w.heap.size w w' := by
  unfold allocO at e
  split at e
  · rename_i hl
    split at e
    · rename_i hg
      rw [Bool.and_eq_true] at hg
      split at e
      · rename_i hpos
        split at e
        · rename_i hf
          simp only [Option.some.injEq, Prod.mk.injEq] at e
          obtain ⟨e1, e2, e3⟩ := e
          subst e1 e2 e3
          exact raOk_walk A B D c cb d h n held w0 w hr0 hb0 hcc hn0 hnb hd hl hg.1 hg.2 hpos hf
        · rename_i hf
          simp only [Option.some.injEq, Prod.mk.injEq] at e
          obtain ⟨e1, e2, e3⟩ := e
          subst e1 e2 e3
          exact raFull_walk A B D c cb d h n held w0 w hr0 hb0 hcc (Kd.C_below hn0 hb0) hl hg.1 hg.2 hpos hf
      · cases e
    · rename_i hg
      simp only [Option.some.injEq, Prod.mk.injEq] at e
      obtain ⟨e1, e2, e3⟩ := e
      subst e1 e2 e3
      exact raArg_walk A B D c cb d h n held w0 w hr0 hb0 hcc (Kd.C_below hn0 hb0) (by simpa using hg)
  · cases e
end Go.Proofs.Ytopkoganfnabgaa.H
namespace Go.Proofs.Ytopkoganfnabgaa.H
open Go.RowKit Go.Proofs.YtopkoganfnabgaaW.PrintWords Go.Proofs.YtopkoganfnabgaaW.PrintLast Go.Proofs.YtopkoganfnabgaaW.PrintMore
attribute [local go_sem] max2_int min2_int max_two min_two max_three min_three max_four min_four
set_option linter.unusedVariables false
set_option linter.unusedSimpArgs false
theorem vL_len (l : List It) : (vL l).length = l.length := by unfold vL; simp
theorem vL_get (l : List It) (i : Nat) (hi : i < l.length) : (vL l)[i]? = some (itAt l i).v := by
  unfold vL itAt
  rw [List.getElem?_map, List.getD_eq_getElem?_getD, List.getElem?_eq_getElem hi]
  rfl
end Go.Proofs.Ytopkoganfnabgaa.H
namespace Go.Proofs.Ytopkoganfnabgaa.H
open Go.RowKit Go.Proofs.YtopkoganfnabgaaW.PrintWords Go.Proofs.YtopkoganfnabgaaW.PrintLast Go.Proofs.YtopkoganfnabgaaW.PrintMore
attribute [local go_sem] max2_int min2_int max_two min_two max_three min_three max_four min_four
set_option linter.unusedVariables false
set_option linter.unusedSimpArgs false
theorem vL_take (l : List It) (k : Nat) (hk : k < l.length) : (vL l).take (k + 1) = (vL l).take k ++ [(itAt l k).v] := by
  have hv := vL_get l k hk
  rw [List.take_add_one, hv]
  rfl
set_option maxHeartbeats 4000000 in
set_option maxRecDepth 100000 in
/-- The reference's V: what items tell. -/
theorem refV_walk (B : Option Addr) (cb : Nat) (l : List It) (w : World) (hn : kIt.C w B l.length l) (hl : l.length ≤ 1000) :
    Calls Try.prog 52 #[.slice B l.length cb] w fun e w' => ∃ D d, e = .returned (.slice D (vL l).length d) ∧ (∀ W', Kept w' W' (fun k => k < w.heap.size) → (Kd.int .i64).C W' D (vL l).length (vL l)) ∧ Below w.heap.size w w' := by
  have HN := Aside0.mk hn
  have HL := Aside0.mk hl
  clear hn hl
  go_enter Try.func52, Try.ntmps52
  go_wp2
  go_loopg [3, 4] l.length (fun g s3 s4 wr => ∃ k : Nat, s4 = .int .i64 k ∧ k + g = l.length ∧ Aside0 (Kd.R (Kd.int .i64) 3 wr w.heap.size (fun k => w.heap.size ≤ k) s3 ((vL l).take k)) ∧ Aside0 (Below w.heap.size w wr))
  case atStart => exact ⟨0, rfl, by omega, ⟨Kd.R_nil _ _ _ _ _⟩, ⟨Below.refl _ _⟩⟩
  case round =>
    obtain ⟨k, rfl, hk, HR, HB⟩ := hrel
    by_cases hlt : k < l.length
    · have r1 : decide (k < l.length) = true := decide_eq_true hlt
      have r2 : (k < l.length) = True := eq_true hlt
      obtain ⟨g1, rfl⟩ : ∃ g1, gk = g1 + 1 := ⟨gk - 1, by omega⟩
      obtain ⟨ad, rfl, _, x1⟩ := at_it (Kd.C_below HN.out HB.out) k hlt
      have hs := vL_take l k hlt
      obtain ⟨x, hx⟩ : ∃ x, x = (itAt l k).v := ⟨_, rfl⟩
      rw [← hx] at x1 hs
      have HS := Aside0.mk hs
      have HK := Aside0.mk (And.intro hlt hk)
      have HTL := Aside0.mk (show ((vL l).take k).length ≤ 1000 by rw [List.length_take, vL_len]; have := HL.out; omega)
      have HW := Aside0.mk (show wrap64 ((k : Int) + 1) = ((k + 1 : Nat) : Int) by have := HL.out; unfold wrap64; omega)
      clear hs hx hlt hk
      go_wp2_with (first | ((with_reducible refine gate_builtin (b := .append) (xs := #[.tmp 11, .tmp 17]) rfl ?_); at_builtin; refine Kd.R_append (Kd.int .i64) (w0 := w) w.heap.size rfl (.tmp 11) (.tmp 17) 41 3 (.int .i64 0) 8 rfl Try.underlying41 info_int rfl (by decide) (by decide) _ ((vL l).take k) x [.int .i64 x] (fun k => w.heap.size ≤ k) (fun _ => False) rfl rfl rfl (fun _ h => h.elim) (fun _ h => Nat.le_trans HB.out.size h) HR.out HB.out HB.out.size (by have := HTL.out; omega) ?_; intro v1 w5 ho hb hg hat; have HO5 := Aside0.mk ho; have HB5 := Aside0.mk hb; clear ho hb hg hat) | fail)
      go_roundg g1
      case measure => omega
      case rel => exact ⟨k + 1, by rw [HW.out], by have := HK.out; omega, ⟨by rw [HS.out]; exact HO5.out⟩, HB5⟩
    · have r1 : decide (k < l.length) = false := decide_eq_false hlt
      have r2 : (k < l.length) = False := eq_false hlt
      have hr := HR.out
      rw [List.take_of_length_le (by rw [vL_len]; omega)] at hr
      obtain ⟨D, d, rfl⟩ := Kd.R_slice hr
      have HF := Aside0.mk (Kd.C_kept_own (S := fun k => k < w.heap.size) hr (fun k hk h => by omega))
      clear hlt hk hr
      go_wp2
      go_ret
      exact ⟨D, d, rfl, HF.out, HB.out⟩
set_option maxHeartbeats 4000000 in
set_option maxRecDepth 100000 in
/-- The reference's Over. -/
theorem refOver_walk (A B : Option Addr) (c cb : Nat) (h h' : Hp) (l : List It) (p er : Int) (w : World) (hr : kCl.C w A h.c.length h.c) (hcc : h.c.length ≤ c) (hn : kIt.C w B l.length l) (hnb : l.length ≤ cb) (hl : l.length ≤ 1000) (e : overO h l = some (h', p, er)) :
    Calls Try.prog 16 #[.agg #[.slice A h.c.length c, .int .i64 h.keep], .slice B l.length cb] w fun e w' => ∃ B' cb', e = .returned (.tuple #[.agg #[.slice B' h'.c.length cb', .int .i64 h'.keep], .int .i64 p, .int .i64 er]) ∧ h'.c.length ≤ cb' ∧ kCl.C w' B' h'.c.length h'.c ∧ Below w.heap.size w w' := by
  obtain ⟨W1, hW1⟩ : ∃ W1, W1 = (w.alloc (.cells #[.slice A h.c.length c, .int .i64 h.keep] 24)).alloc (.cells #[.slice none 0 0, .int .i64 0] 24) := ⟨_, rfl⟩
  have HB0 := Aside0.mk (show Below w.heap.size w W1 by rw [hW1]; exact below_alloc (below_alloc (Below.refl _ _) _) _)
  have HH1 := Aside0.mk (show W1.heap[w.heap.size]? = some (.cells #[.slice A h.c.length c, .int .i64 h.keep] 24) by rw [hW1]; exact blk_alloc (blk_new w _) _)
  have HR1 := Aside0.mk (show W1.heap[w.heap.size + 1]? = some (.cells #[.slice none 0 0, .int .i64 0] 24) by rw [hW1]; exact blk2 w _ _)
  have c0 := (blk_cell HH1.out 0).trans (show _ = some (Value.slice A h.c.length c) from rfl)
  have c1 := (blk_cell HH1.out 1).trans (show _ = some (Value.int .i64 h.keep) from rfl)
  have HPL := Aside0.mk (fun (W : World) (hb : Below W1.heap.size W1 W) => refV_walk B cb l W (Kd.C_below hn (below_step HB0.out hb)) hl)
  have HAL := Aside0.mk (fun (D : Option Addr) (d : Nat) (W : World) (hb : Below W1.heap.size W1 W) (hd : (Kd.int .i64).C W D (vL l).length (vL l)) => show Calls Try.prog 47 #[.agg #[.slice A h.c.length c, .int .i64 h.keep], .agg #[.bool false, .slice B l.length cb], .slice D (vL l).length d] W (fun e w' => ∃ B' cb', e = .returned (.tuple #[.agg #[.slice B' h'.c.length cb', .int .i64 h'.keep], .int .i64 p, .int .i64 er]) ∧ h'.c.length ≤ cb' ∧ Lv w W w' B' h'.c ∧ Below W.heap.size W w') from refAlloc_walk A B D c cb d h h' ⟨false, l⟩ (vL l) p er w W hr (below_step HB0.out hb) hcc hn hnb hd e)
  have hW1' := Aside0.mk hW1
  have HNE := Aside0.mk (show w.heap.size ≠ w.heap.size + 1 by omega)
  clear hW1 hr hcc hn hnb hl e
  go_enter Try.func16, Try.ntmps16
  go_upto_region 1 with (fail)
  rw [← hW1'.out]
  go_region_held3 (fun w' => w'.cell? ⟨w.heap.size, 0, none⟩ = some (.slice A h.c.length c) ∧ w'.cell? ⟨w.heap.size, 1, none⟩ = some (.int .i64 h.keep)) (first | exact ⟨c0, c1⟩ | exact ⟨bcell HB3.out c0, bcell HB3.out c1⟩ | exact ⟨(cell_far HNE.out _).trans ((cell_far HNE.out _).trans (bcell HB3.out c0)), (cell_far HNE.out _).trans ((cell_far HNE.out _).trans (bcell HB3.out c1))⟩ | exact (fun (h : Below W1.heap.size W1 _) => ⟨bcell h c0, bcell h c1⟩) (by repeat (first | (with_reducible exact Below.refl _ _) | (with_reducible refine below_alloc ?_ _) | (with_reducible refine below_drew1 ?_) | (with_reducible refine pw_below_drewN ?_ _) | (with_reducible exact HB2.out)))) (first | (go_at_call 52; (with_reducible refine (HPL.out _ (by repeat (first | (with_reducible exact Below.refl _ _) | (with_reducible refine below_alloc ?_ _) | (with_reducible refine below_drew1 ?_) | (with_reducible refine pw_below_drewN ?_ _) | (with_reducible exact Below.refl _ _)))).mono ?_); rintro e w2 ⟨D, d, rfl, hd, hb2⟩; have HD := Aside0.mk hd; have HB2 := Aside0.mk (show Below W1.heap.size W1 w2 from below_step (by repeat (first | (with_reducible exact Below.refl _ _) | (with_reducible refine below_alloc ?_ _) | (with_reducible refine below_drew1 ?_) | (with_reducible refine pw_below_drewN ?_ _) | (with_reducible exact Below.refl _ _))) hb2); clear hd hb2) | (go_at_call 47; (with_reducible refine (HAL.out D d _ (by repeat (first | (with_reducible exact Below.refl _ _) | (with_reducible refine below_alloc ?_ _) | (with_reducible refine below_drew1 ?_) | (with_reducible refine pw_below_drewN ?_ _) | (with_reducible exact HB2.out))) (HD.out _ (by first | exact Kept.refl _ _ | exact Kept.of_below (below_drew (Below.refl _ _)) _))).mono ?_); rintro e w3 ⟨A', c', rfl, hc', hs', hb3⟩; have HB3 := Aside0.mk (show Below W1.heap.size W1 w3 from below_step (by repeat (first | (with_reducible exact Below.refl _ _) | (with_reducible refine below_alloc ?_ _) | (with_reducible refine below_drew1 ?_) | (with_reducible refine pw_below_drewN ?_ _) | (with_reducible exact HB2.out))) hb3); have HS := Aside0.mk (And.intro hc' hs'.now); have HBR := Aside0.mk (blk_below HR1.out HB3.out); have e0 := (blk_cell HBR.out 0).trans (show _ = some (Value.slice none 0 0) from rfl); have e1 := (blk_cell HBR.out 1).trans (show _ = some (Value.int .i64 0) from rfl); have f0 := blk_frozen HBR.out 0; have f1 := blk_frozen HBR.out 1; clear hc' hs' hb3) | fail)
  all_goals
    go_wp2
    refine bodyPost_ret (results_ctt rfl _ _ (w.heap.size + 1) 24 #[.slice A' h'.c.length c', .int .i64 h'.keep] (0, 0) _ rfl (hb_store HBR.out) Try.underlying24 rfl (by kernel_rfl)) rfl ?_
    exact ⟨A', c', rfl, HS.out.1, cl_store HS.out.2 HBR.out, below_set (below_set (below_step HB0.out HB3.out) (by omega)) (by omega)⟩
end Go.Proofs.Ytopkoganfnabgaa.H
namespace Go.Proofs.Ytopkoganfnabgaa.H
open Go.RowKit Go.Proofs.YtopkoganfnabgaaW.PrintWords Go.Proofs.YtopkoganfnabgaaW.PrintLast Go.Proofs.YtopkoganfnabgaaW.PrintMore
attribute [local go_sem] max2_int min2_int max_two min_two max_three min_three max_four min_four
set_option linter.unusedVariables false
set_option linter.unusedSimpArgs false
theorem looseO_len : ∀ (f : Nat) (h h' : Hp) (p : Int), looseO f h p = some h' → h'.c.length = h.c.length
  | 0, h, h', p, e => by simp [looseO] at e
  | f + 1, h, h', p, e => by
    unfold looseO at e
    have hs : ∀ x, (setH h p x).c.length = h.c.length := fun x => by unfold setH; simp
    split at e
    · split at e
      · simp only [Option.some.injEq] at e; rw [← e]
      · split at e
        · simp only [Option.some.injEq] at e; rw [← e]; exact hs _
        · split at e
          · simp only [Option.some.injEq] at e; rw [← e]; exact hs _
          · have key : ∀ (l : List It) (g g' : Hp), l.foldlM (fun h x => looseO f h x.v) g = some g' → g'.c.length = g.c.length := by
              intro l
              induction l with
              | nil => intro g g' e; simp at e; rw [e]
              | cons x l ih =>
                intro g g' e
                rw [List.foldlM_cons] at e
                cases hq : looseO f g x.v with
                | none => rw [hq] at e; cases e
                | some g1 =>
                  rw [hq] at e
                  exact (ih g1 g' e).trans (looseO_len f g g1 x.v hq)
            exact (key _ _ _ e).trans (hs _)
    · cases e
theorem looseO_pos {f : Nat} {h h' : Hp} {p : Int} (e : looseO f h p = some h') : inB h p = true ∧ 0 ≤ (clAt h p).ref ∧ (clAt h p).ref ≤ 1000000000000 ∧ ((clAt h p).ref = 0 → h' = h) := by
  cases f with
  | zero => simp [looseO] at e
  | succ f =>
    unfold looseO at e
    split at e
    · rename_i hc
      refine ⟨hc.1, hc.2.1, hc.2.2.1, fun h0 => ?_⟩
      rw [if_pos h0] at e
      simp only [Option.some.injEq] at e
      exact e.symm
    · cases e
theorem looseH_of {f : Nat} {h g : Hp} {p : Int} (e : looseO f h p = some g) : ∃ er, looseH f h p = some (g, er) := by
  obtain ⟨h1, h2, _, h3⟩ := looseO_pos e
  unfold looseH
  cases hu : usedB h p with
  | true => rw [if_pos rfl, e]; exact ⟨0, rfl⟩
  | false =>
    have h0 : (clAt h p).ref = 0 := by
      unfold usedB at hu
      rw [h1, Bool.true_and] at hu
      have := of_decide_eq_false hu
      omega
    rw [h3 h0]
    exact ⟨4, by simp⟩
/-- What the reference's Loose finds. -/
structure RlSt (w W1 : World) (A : Option Addr) (c : Nat) (h : Hp) : Prop where
  b0 : Below w.heap.size w W1
  bh : W1.heap[w.heap.size]? = some (.cells #[.slice A h.c.length c, .int .i64 h.keep] 24 (0, 0))
  br : W1.heap[w.heap.size + 1]? = some (.cells #[.slice none 0 0, .int .i64 0] 24 (0, 0))
  cl : kCl.C W1 A h.c.length h.c ∧ h.c.length ≤ c
theorem RlSt.step {w W1 W2 : World} {A : Option Addr} {c : Nat} {h : Hp} (s : RlSt w W1 A c h) (hb : Below W1.heap.size W1 W2) : RlSt w W2 A c h := ⟨below_step s.b0 hb, blk_below s.bh hb, blk_below s.br hb, Kd.C_below s.cl.1 hb, s.cl.2⟩
set_option maxHeartbeats 4000000 in
set_option maxRecDepth 100000 in
theorem refLoose_none (A : Option Addr) (c : Nat) (h : Hp) (p : Int) (w : World) (hr : kCl.C w A h.c.length h.c) (hcc : h.c.length ≤ c) (hu : usedB h p = false) :
    Calls Try.prog 49 #[.agg #[.slice A h.c.length c, .int .i64 h.keep], .int .i64 p] w fun e w' => ∃ B cb, e = .returned (.tuple #[.agg #[.slice B h.c.length cb, .int .i64 h.keep], .int .i64 4]) ∧ h.c.length ≤ cb ∧ kCl.C w' B h.c.length h.c ∧ Below w.heap.size w w' := by
  obtain ⟨W1, hW1⟩ : ∃ W1, W1 = (w.alloc (.cells #[.slice A h.c.length c, .int .i64 h.keep] 24)).alloc (.cells #[.slice none 0 0, .int .i64 0] 24) := ⟨_, rfl⟩
  have S1 := Aside0.mk (show RlSt w W1 A c h by rw [hW1]; exact ⟨below_alloc (below_alloc (Below.refl _ _) _) _, blk_alloc (blk_new w _) _, blk2 w _ _, Kd.C_alloc (Kd.C_alloc hr _) _, hcc⟩)
  have c0 := (blk_cell S1.out.bh 0).trans (show _ = some (Value.slice A h.c.length c) from rfl)
  have c1 := (blk_cell S1.out.bh 1).trans (show _ = some (Value.int .i64 h.keep) from rfl)
  have HUS := Aside0.mk (fun (W : World) (hb : Below W1.heap.size W1 W) => refUsed_walk A c h p W (Kd.C_below S1.out.cl.1 hb))
  have hW1' := Aside0.mk hW1
  rw [hu] at HUS
  clear hW1 hr hcc hu
  go_enter Try.func49, Try.ntmps49
  go_upto_region 1 with (fail)
  rw [← hW1'.out]
  go_upto_region 3 with (first | (go_at_call 67; (with_reducible refine (HUS.out _ (by repeat (first | (with_reducible exact Below.refl _ _) | (with_reducible refine below_alloc ?_ _) | (with_reducible refine below_drew1 ?_) | (with_reducible refine pw_below_drewN ?_ _) | (with_reducible exact Below.refl _ _)))).mono ?_); rintro e w2 ⟨rfl, hb2⟩; have S2 := Aside0.mk (S1.out.step hb2); clear hb2) | fail)
  clear c0 c1
  have c0 := (blk_cell S2.out.bh 0).trans (show _ = some (Value.slice A h.c.length c) from rfl)
  have c1 := (blk_cell S2.out.bh 1).trans (show _ = some (Value.int .i64 h.keep) from rfl)
  have e0 := (blk_cell S2.out.br 0).trans (show _ = some (Value.slice none 0 0) from rfl)
  have e1 := (blk_cell S2.out.br 1).trans (show _ = some (Value.int .i64 0) from rfl)
  have f0 := blk_frozen S2.out.br 0
  have f1 := blk_frozen S2.out.br 1
  go_wp2
  refine bodyPost_ret (results_ct rfl _ _ (w.heap.size + 1) 24 #[.slice A h.c.length c, .int .i64 h.keep] (0, 0) _ rfl (hb_store S2.out.br) Try.underlying24 rfl (by kernel_rfl)) rfl ?_
  exact ⟨A, c, rfl, S2.out.cl.2, cl_store S2.out.cl.1 S2.out.br, below_set (below_set S2.out.b0 (by omega)) (by omega)⟩
/-- What is done when something refers to the cell. -/
theorem looseO_used {f : Nat} {h g : Hp} {q : Nat} (hu : usedB h (q : Int) = true) (e : looseO (f + 1) h (q : Int) = some g) :
    0 < (h.c.getD q zCl).ref ∧ (h.c.getD q zCl).ref ≤ 1000000000000 ∧ ((1 < (h.c.getD q zCl).ref ∧ g = setH h (q : Int) ⟨(h.c.getD q zCl).ref - 1, false, (h.c.getD q zCl).n⟩) ∨ ((h.c.getD q zCl).ref = 1 ∧ (((h.c.getD q zCl).n.leaf = true ∧ g = setH h (q : Int) ⟨0, true, zNd⟩) ∨ ((h.c.getD q zCl).n.leaf = false ∧ (h.c.getD q zCl).n.it.foldlM (fun h x => looseO f h x.v) (setH h (q : Int) ⟨0, true, zNd⟩) = some g)))) := by
  have hcl : clAt h (q : Int) = h.c.getD q zCl := by unfold clAt; rw [Int.toNat_natCast]
  unfold usedB at hu
  rw [Bool.and_eq_true, hcl] at hu
  have hp : 0 < (h.c.getD q zCl).ref := by simpa using hu.2
  unfold looseO at e
  rw [hcl] at e
  split at e
  · rename_i hc
    refine ⟨hp, hc.2.2.1, ?_⟩
    rw [if_neg (by omega)] at e
    split at e
    · rename_i h1
      simp only [Option.some.injEq] at e
      exact Or.inl ⟨h1, e.symm⟩
    · rename_i h1
      refine Or.inr ⟨by omega, ?_⟩
      split at e
      · rename_i h2
        simp only [Option.some.injEq] at e
        exact Or.inl ⟨h2, e.symm⟩
      · rename_i h2
        exact Or.inr ⟨by simpa using h2, e⟩
  · cases e
set_option maxHeartbeats 8000000 in
set_option maxRecDepth 100000 in
/-- The reference's Loose. -/
theorem refLoose_walk : ∀ (f : Nat) (A : Option Addr) (c : Nat) (h h' : Hp) (p er : Int) (w : World), kCl.C w A h.c.length h.c → h.c.length ≤ c → h.c.length ≤ 1000000 → looseH f h p = some (h', er) →
    Calls Try.prog 49 #[.agg #[.slice A h.c.length c, .int .i64 h.keep], .int .i64 p] w fun e w' => ∃ B cb, e = .returned (.tuple #[.agg #[.slice B h'.c.length cb, .int .i64 h'.keep], .int .i64 er]) ∧ h'.c.length ≤ cb ∧ kCl.C w' B h'.c.length h'.c ∧ Below w.heap.size w w' := by
  intro f
  induction f with
  | zero =>
    intro A c h h' p er w hr hcc hl e
    unfold looseH at e
    cases hu : usedB h p with
    | false =>
      rw [hu] at e
      simp only [Bool.false_eq_true, if_false, Option.some.injEq, Prod.mk.injEq] at e
      obtain ⟨rfl, rfl⟩ := e
      exact refLoose_none A c h p w hr hcc hu
    | true => rw [hu, if_pos rfl] at e; simp [looseO] at e
  | succ f ih =>
    intro A c h h' p er w hr hcc hl e
    unfold looseH at e
    cases hu : usedB h p with
    | false =>
      rw [hu] at e
      simp only [Bool.false_eq_true, if_false, Option.some.injEq, Prod.mk.injEq] at e
      obtain ⟨rfl, rfl⟩ := e
      exact refLoose_none A c h p w hr hcc hu
    | true =>
      rw [hu, if_pos rfl] at e
      cases hlo : looseO (f + 1) h p with
      | none => rw [hlo] at e; cases e
      | some g =>
        rw [hlo] at e
        simp only [Option.map_some, Option.some.injEq, Prod.mk.injEq] at e
        obtain ⟨rfl, rfl⟩ := e
        have hin : inB h p = true := (looseO_pos hlo).1
        obtain ⟨q, rfl, hq⟩ := inB_nat hin
        obtain ⟨hp0, hp1, hcase⟩ := looseO_used hu hlo
        obtain ⟨W1, hW1⟩ : ∃ W1, W1 = (w.alloc (.cells #[.slice A h.c.length c, .int .i64 h.keep] 24)).alloc (.cells #[.slice none 0 0, .int .i64 0] 24) := ⟨_, rfl⟩
        have S1 := Aside0.mk (show RlSt w W1 A c h by rw [hW1]; exact ⟨below_alloc (below_alloc (Below.refl _ _) _) _, blk_alloc (blk_new w _) _, blk2 w _ _, Kd.C_alloc (Kd.C_alloc hr _) _, hcc⟩)
        have c0 := (blk_cell S1.out.bh 0).trans (show _ = some (Value.slice A h.c.length c) from rfl)
        have c1 := (blk_cell S1.out.bh 1).trans (show _ = some (Value.int .i64 h.keep) from rfl)
        have HUS := Aside0.mk (fun (W : World) (hb : Below W1.heap.size W1 W) => refUsed_walk A c h (q : Int) W (Kd.C_below S1.out.cl.1 hb))
        rw [hu] at HUS
        have hW1' := Aside0.mk hW1
        obtain ⟨rc, hrc, hccw⟩ := rw_of_cl hr
        obtain ⟨ad, hade, x0, x1, x2, x3⟩ := at_rw hrc q hq
        subst hade
        obtain ⟨E1, E2, E3, E4, hcb, hB0⟩ := hccw.2 q hq
        rw [E1] at x0
        rw [E2] at x1
        rw [E3] at x2
        rw [E4] at x3
        obtain ⟨B, cb, hB, hcbb⟩ : ∃ B cb, B = (rc.getD q zRw).tr.1 ∧ cb = (rc.getD q zRw).tr.2.2 := ⟨_, _, rfl, rfl⟩
        rw [← hB] at x3 hB0
        rw [← hcbb] at x3 hcb
        obtain ⟨x, hx⟩ : ∃ x, x = h.c.getD q zCl := ⟨_, rfl⟩
        rw [← hx] at x0 x1 x2 x3 hcb hB0 hcase hp0 hp1
        have HX0 := Aside0.mk (And.intro x0 (And.intro x1 (And.intro x2 x3)))
        have HN := Aside0.mk (And.intro hr (And.intro hB0 hcb))
        have HL := Aside0.mk (And.intro hl (And.intro hq (And.intro hp0 hp1)))
        have q1 : (q < h.c.length) = True := eq_true hq
        clear hW1 hr hcc hl hu hlo hin hq hrc hccw E1 E2 E3 E4 hB hcbb hcb hB0 x0 x1 x2 x3 hx
        rcases hcase with ⟨h1, hg⟩ | ⟨h1, hcase⟩
        · have r1 : decide (1 < x.ref) = true := decide_eq_true h1
          have r2 : (1 < x.ref) = True := eq_true h1
          have hw : wrap64 (x.ref - 1) = x.ref - 1 := by unfold wrap64; omega
          have HST := Aside0.mk (fun (W : World) (hb : Below w.heap.size w W) => refSet_walk (some ad) B c cb h q ⟨x.ref - 1, false, x.n⟩ w w W (Ls_old HN.out.1 hb) hb.size HN.out.2.1 HN.out.2.2 HL.out.2.1 HL.out.1)
          rw [← hg] at HST
          clear ih hp0 hp1 h1 hg
          go_enter Try.func49, Try.ntmps49
          go_upto_region 1 with (fail)
          rw [← hW1'.out]
          go_upto_region 4 with (first | (go_at_call 67; (with_reducible refine (HUS.out _ (by repeat (first | (with_reducible exact Below.refl _ _) | (with_reducible refine below_alloc ?_ _) | (with_reducible refine below_drew1 ?_) | (with_reducible refine pw_below_drewN ?_ _) | (with_reducible exact Below.refl _ _)))).mono ?_); rintro e w2 ⟨rfl, hb2⟩; have S2 := Aside0.mk (S1.out.step hb2); clear hb2) | fail)
          clear c0 c1
          have c0 := (blk_cell S2.out.bh 0).trans (show _ = some (Value.slice (some ad) h.c.length c) from rfl)
          have c1 := (blk_cell S2.out.bh 1).trans (show _ = some (Value.int .i64 h.keep) from rfl)
          have y0 := bcell S2.out.b0 HX0.out.1
          have y1 := bcell S2.out.b0 HX0.out.2.1
          have y2 := bcell S2.out.b0 HX0.out.2.2.1
          have y3 := bcell S2.out.b0 HX0.out.2.2.2
          have d0 := al1 (o := .cells #[.int .i64 x.ref, .bool x.pin, .bool x.n.leaf, .slice B x.n.it.length cb] 79) c0
          have d1 := al1 (o := .cells #[.int .i64 x.ref, .bool x.pin, .bool x.n.leaf, .slice B x.n.it.length cb] 79) c1
          go_wp2_with (first | (go_at_call 75; (with_reducible refine (HST.out _ (below_step S2.out.b0 (by repeat (first | (with_reducible exact Below.refl _ _) | (with_reducible refine below_alloc ?_ _) | (with_reducible refine below_drew1 ?_) | (with_reducible refine pw_below_drewN ?_ _) | fail)))).mono ?_); rintro e w3 ⟨B', cb', rfl, hcb', hlv, hb3⟩; have S3 := Aside0.mk (S2.out.step (below_step (by repeat (first | (with_reducible exact Below.refl _ _) | (with_reducible refine below_alloc ?_ _) | (with_reducible refine below_drew1 ?_) | (with_reducible refine pw_below_drewN ?_ _) | fail)) hb3)); have HLV := Aside0.mk (And.intro hcb' hlv.now); have e0 := (blk_cell S3.out.br 0).trans (show _ = some (Value.slice none 0 0) from rfl); have e1 := (blk_cell S3.out.br 1).trans (show _ = some (Value.int .i64 0) from rfl); have f0 := blk_frozen S3.out.br 0; have f1 := blk_frozen S3.out.br 1; clear hcb' hlv hb3) | fail)
          refine bodyPost_ret (results_ct rfl _ _ (w.heap.size + 1) 24 #[.slice B' g.c.length cb', .int .i64 g.keep] (0, 0) _ rfl (hb_store S3.out.br) Try.underlying24 rfl (by kernel_rfl)) rfl ?_
          exact ⟨B', cb', rfl, HLV.out.1, cl_store HLV.out.2 S3.out.br, below_set (below_set S3.out.b0 (by omega)) (by omega)⟩
        · have r1 : decide (1 < x.ref) = false := decide_eq_false (by omega)
          have r2 : (1 < x.ref) = False := eq_false (by omega)
          obtain ⟨hz, hhz⟩ : ∃ hz, hz = setH h (q : Int) ⟨0, true, zNd⟩ := ⟨_, rfl⟩
          have HST := Aside0.mk (fun (W : World) (hb : Below w.heap.size w W) => show Calls Try.prog 75 #[.agg #[.slice (some ad) h.c.length c, .int .i64 h.keep], .int .i64 (q : Int), .agg #[.int .i64 0, .bool true, .bool false, .slice none 0 0]] W (fun e w' => ∃ B' cb', e = .returned (.agg #[.slice B' (setH h (q : Int) ⟨0, true, zNd⟩).c.length cb', .int .i64 (setH h (q : Int) ⟨0, true, zNd⟩).keep]) ∧ (setH h (q : Int) ⟨0, true, zNd⟩).c.length ≤ cb' ∧ Ls w w w' B' (setH h (q : Int) ⟨0, true, zNd⟩).c ∧ Below W.heap.size W w') from refSet_walk (some ad) none c 0 h q ⟨0, true, zNd⟩ w w W (Ls_old HN.out.1 hb) hb.size (Kd.C_nil _ _) (Nat.le_refl _) HL.out.2.1 HL.out.1)
          rw [← hhz] at HST hcase
          have HZL := Aside0.mk (show hz.c.length = h.c.length by rw [hhz]; unfold setH; simp)
          have HIH0 := Aside0.mk ih
          obtain ⟨lf, hlf⟩ : ∃ lf, lf = x.n.leaf := ⟨_, rfl⟩
          obtain ⟨l, hll⟩ : ∃ l, l = x.n.it := ⟨_, rfl⟩
          rw [← hlf, ← hll] at HX0 hcase
          rw [← hll] at HN
          have HCS := Aside0.mk hcase
          clear ih hp0 hp1 h1 hhz hlf hll hcase
          go_enter Try.func49, Try.ntmps49
          go_upto_region 1 with (fail)
          rw [← hW1'.out]
          go_upto_region 4 with (first | (go_at_call 67; (with_reducible refine (HUS.out _ (by repeat (first | (with_reducible exact Below.refl _ _) | (with_reducible refine below_alloc ?_ _) | (with_reducible refine below_drew1 ?_) | (with_reducible refine pw_below_drewN ?_ _) | (with_reducible exact Below.refl _ _)))).mono ?_); rintro e w2 ⟨rfl, hb2⟩; have S2 := Aside0.mk (S1.out.step hb2); clear hb2) | fail)
          clear c0 c1
          have c0 := (blk_cell S2.out.bh 0).trans (show _ = some (Value.slice (some ad) h.c.length c) from rfl)
          have c1 := (blk_cell S2.out.bh 1).trans (show _ = some (Value.int .i64 h.keep) from rfl)
          have y0 := bcell S2.out.b0 HX0.out.1
          have y1 := bcell S2.out.b0 HX0.out.2.1
          have y2 := bcell S2.out.b0 HX0.out.2.2.1
          have y3 := bcell S2.out.b0 HX0.out.2.2.2
          obtain ⟨W3, hW3⟩ : ∃ W3, W3 = w2.alloc (.cells #[.int .i64 x.ref, .bool x.pin, .bool lf, .slice B l.length cb] 79) := ⟨_, rfl⟩
          have hb3 : Below w2.heap.size w2 W3 := by rw [hW3]; exact below_alloc (Below.refl _ _) _
          have S3 := Aside0.mk (S2.out.step hb3)
          obtain ⟨C, hC⟩ : ∃ C, C = w2.heap.size := ⟨_, rfl⟩
          have HC3 := Aside0.mk (show W3.heap[C]? = some (.cells #[.int .i64 x.ref, .bool x.pin, .bool lf, .slice B l.length cb] 79) by rw [hW3, hC]; exact blk_new w2 _)
          have HCW := Aside0.mk (show w.heap.size + 1 < C by rw [hC]; exact blk_lt S2.out.br)
          have hW3' := Aside0.mk hW3
          clear hW3 hb3
          go_upto_region 5 with (fail)
          rw [← hW3'.out, ← hC]
          clear c0 c1 y0 y1 y2 y3 hC
          have c0 := (blk_cell S3.out.bh 0).trans (show _ = some (Value.slice (some ad) h.c.length c) from rfl)
          have c1 := (blk_cell S3.out.bh 1).trans (show _ = some (Value.int .i64 h.keep) from rfl)
          have z0 := (blk_cell HC3.out 0).trans (show _ = some (Value.int .i64 x.ref) from rfl)
          go_upto_region 7 with (fail)
          go_upto_region 8 with (first | (go_at_call 75; (with_reducible refine (HST.out _ S3.out.b0).mono ?_); rintro e w4 ⟨B4, cb4, rfl, hcb4, hlv, hb4⟩; have HB4 := Aside0.mk hb4; have S4 := Aside0.mk (S3.out.step hb4); have HLV := Aside0.mk (And.intro hcb4 hlv.now); have HC4 := Aside0.mk (blk_below HC3.out hb4); have u0 := (blk_cell S4.out.bh 0).trans (show _ = some (Value.slice (some ad) h.c.length c) from rfl); have u1 := (blk_cell S4.out.bh 1).trans (show _ = some (Value.int .i64 h.keep) from rfl); have g0 := blk_frozen S4.out.bh 0; have g1 := blk_frozen S4.out.bh 1; clear hcb4 hlv hb4) | fail)
          obtain ⟨W5, hW5⟩ : ∃ W5, W5 = ((w4.setCell ⟨w.heap.size, 0, none⟩ (.slice B4 hz.c.length cb4)).setCell ⟨w.heap.size, 1, none⟩ (.int .i64 hz.keep)) := ⟨_, rfl⟩
          have HH5 := Aside0.mk (show W5.heap[w.heap.size]? = some (.cells #[.slice B4 hz.c.length cb4, .int .i64 hz.keep] 24 (0, 0)) by rw [hW5]; exact hb_store S4.out.bh)
          have HZ5 := Aside0.mk (show hz.c.length ≤ cb4 ∧ kCl.C W5 B4 hz.c.length hz.c by rw [hW5]; exact ⟨HLV.out.1, cl_store HLV.out.2 S4.out.bh⟩)
          have HBL5 := Aside0.mk (show W5.heap[C]? = some (.cells #[.int .i64 x.ref, .bool x.pin, .bool lf, .slice B l.length cb] 79 (0, 0)) ∧ W5.heap[w.heap.size + 1]? = some (.cells #[.slice none 0 0, .int .i64 0] 24 (0, 0)) by
            have hne : C ≠ w.heap.size := by have := HCW.out; omega
            have hne2 : w.heap.size + 1 ≠ w.heap.size := by omega
            rw [hW5]; exact ⟨blk_far (blk_far HC4.out hne _) hne _, blk_far (blk_far S4.out.br hne2 _) hne2 _⟩)
          have HB5 := Aside0.mk (show Below w.heap.size w W5 by rw [hW5]; exact below_set (below_set S4.out.b0 (Nat.le_refl _)) (Nat.le_refl _))
          rw [← hW5]
          clear c0 c1 z0 u0 u1 g0 g1 hW5
          cases lf with
          | true =>
            have hg : g = hz := by
              rcases HCS.out with ⟨_, h2⟩ | ⟨h2, _⟩
              · exact h2
              · cases h2
            subst hg
            have n0 := (blk_cell HBL5.out.1 2).trans (show _ = some (Value.bool true) from rfl)
            have n1 := (blk_cell HBL5.out.1 3).trans (show _ = some (Value.slice B l.length cb) from rfl)
            have x0 := (blk_cell HH5.out 0).trans (show _ = some (Value.slice B4 g.c.length cb4) from rfl)
            have x1 := (blk_cell HH5.out 1).trans (show _ = some (Value.int .i64 g.keep) from rfl)
            have HBL := HBL5
            (have e0 := (blk_cell HBL.out.2 0).trans (show _ = some (Value.slice none 0 0) from rfl); have e1 := (blk_cell HBL.out.2 1).trans (show _ = some (Value.int .i64 0) from rfl); have f0 := blk_frozen HBL.out.2 0; have f1 := blk_frozen HBL.out.2 1)
            by_cases h0 : 0 < l.length
            · have r3 : decide (0 < l.length) = true := decide_eq_true h0
              have r4 : (0 < l.length) = True := eq_true h0
              have r5 : decide ((0 : Int) < (l.length : Int)) = true := decide_eq_true (by omega)
              clear h0
              go_wp2
              refine wp_loop_rounds 1 ?_
              rw [rounds_succ]; go_wp2
              refine bodyPost_ret (results_ct rfl _ _ (w.heap.size + 1) 24 #[.slice B4 g.c.length cb4, .int .i64 g.keep] (0, 0) _ rfl (hb_store HBL.out.2) Try.underlying24 rfl (by kernel_rfl)) rfl ?_
              exact ⟨B4, cb4, rfl, HZ5.out.1, cl_store HZ5.out.2 HBL.out.2, below_set (below_set HB5.out (by omega)) (by omega)⟩
            · have r3 : decide (0 < l.length) = false := decide_eq_false h0
              have r4 : (0 < l.length) = False := eq_false h0
              have r5 : decide ((0 : Int) < (l.length : Int)) = false := decide_eq_false (by omega)
              clear h0
              go_wp2
              refine wp_loop_rounds 1 ?_
              rw [rounds_succ]; go_wp2
              refine bodyPost_ret (results_ct rfl _ _ (w.heap.size + 1) 24 #[.slice B4 g.c.length cb4, .int .i64 g.keep] (0, 0) _ rfl (hb_store HBL.out.2) Try.underlying24 rfl (by kernel_rfl)) rfl ?_
              exact ⟨B4, cb4, rfl, HZ5.out.1, cl_store HZ5.out.2 HBL.out.2, below_set (below_set HB5.out (by omega)) (by omega)⟩
          | false =>
            have hfold : l.foldlM (fun h x => looseO f h x.v) hz = some g := by
              rcases HCS.out with ⟨h2, _⟩ | ⟨_, h2⟩
              · cases h2
              · exact h2
            have HFO0 := Aside0.mk hfold
            clear hfold
            go_wp2
            go_loopg [8] l.length (fun gg s8 wr => ∃ (k : Nat) (hk : Hp) (A' : Option Addr) (c' : Nat), s8 = .int .i64 k ∧ k + gg = l.length ∧ Aside0 ((l.drop k).foldlM (fun h x => looseO f h x.v) hk = some g) ∧ Aside0 (wr.heap[w.heap.size]? = some (.cells #[.slice A' hk.c.length c', .int .i64 hk.keep] 24 (0, 0))) ∧ Aside0 (hk.c.length = h.c.length ∧ hk.c.length ≤ c' ∧ kCl.C wr A' hk.c.length hk.c) ∧ Aside0 (wr.heap[C]? = some (.cells #[.int .i64 x.ref, .bool x.pin, .bool false, .slice B l.length cb] 79 (0, 0)) ∧ wr.heap[w.heap.size + 1]? = some (.cells #[.slice none 0 0, .int .i64 0] 24 (0, 0))) ∧ Aside0 (Below w.heap.size w wr))
            case atStart => exact ⟨0, hz, B4, cb4, rfl, by omega, ⟨by rw [List.drop_zero]; exact HFO0.out⟩, HH5, ⟨HZL.out, HZ5.out.1, HZ5.out.2⟩, HBL5, HB5⟩
            case round =>
              obtain ⟨k, hk, A', c', rfl, hkk, HFO, HXB, HLK, HBL, HBW⟩ := hrel
              have n0 := (blk_cell HBL.out.1 2).trans (show _ = some (Value.bool false) from rfl)
              have n1 := (blk_cell HBL.out.1 3).trans (show _ = some (Value.slice B l.length cb) from rfl)
              have k0 := (blk_cell HXB.out 0).trans (show _ = some (Value.slice A' hk.c.length c') from rfl)
              have k1 := (blk_cell HXB.out 1).trans (show _ = some (Value.int .i64 hk.keep) from rfl)
              by_cases hlt : k < l.length
              · obtain ⟨g9, rfl⟩ : ∃ g9, gk = g9 + 1 := ⟨gk - 1, by omega⟩
                have r1 : decide (k < l.length) = true := decide_eq_true hlt
                have r2 : (k < l.length) = True := eq_true hlt
                have hm := Kd.C_max HN.out.2.1
                obtain ⟨bd, hbd, _, k3⟩ := at_it (Kd.C_below HN.out.2.1 HBW.out) k hlt
                subst hbd
                have hfo := HFO.out
                rw [drop_succ zIt l k hlt, List.foldlM_cons] at hfo
                cases hq0 : looseO f hk (itAt l k).v with
                | none =>
                  rw [show l.getD k zIt = itAt l k from rfl, hq0] at hfo
                  cases hfo
                | some hq =>
                  rw [show l.getD k zIt = itAt l k from rfl, hq0] at hfo
                  have HF2 := Aside0.mk (show (l.drop (k + 1)).foldlM (fun h x => looseO f h x.v) hq = some g from hfo)
                  obtain ⟨er, hlh⟩ := looseH_of hq0
                  have HQL := Aside0.mk ((looseO_len f hk hq _ hq0).trans HLK.out.1)
                  have HIH := Aside0.mk (fun (W : World) (hb : Below wr.heap.size wr W) => HIH0.out A' c' hk hq (itAt l k).v er W (Kd.C_below HLK.out.2.2 hb) HLK.out.2.1 (by have := HLK.out.1; have := HL.out.1; omega) hlh)
                  obtain ⟨v, hv⟩ : ∃ v, v = (itAt l k).v := ⟨_, rfl⟩
                  rw [← hv] at HIH k3
                  have HK := Aside0.mk (And.intro hlt hkk)
                  have HW := Aside0.mk (show wrap64 ((k : Int) + 1) = ((k + 1 : Nat) : Int) by unfold wrap64; omega)
                  have k2 := n1
                  clear hfo hq0 hlh hv hlt hkk hm
                  go_upto_region 11 with (fail)
                  go_cut [9, 10] from 52 to 63 (fun v9 v10 wx => ∃ (XN : Nat) (A9 : Option Addr) (c9 : Nat), v9 = .pointer (some ⟨XN, 0, none⟩) ∧ Aside0 (wx.heap[XN]? = some (.cells #[.slice A9 hq.c.length c9, .int .i64 hq.keep] 24 (0, 0))) ∧ Aside0 (hq.c.length ≤ c9 ∧ kCl.C wx A9 hq.c.length hq.c) ∧ Aside0 (Below wr.heap.size wr wx))
                  case first =>
                    clear n0 n1
                    go_region_held3 (fun w' => w'.cell? ⟨w.heap.size, 0, none⟩ = some (.slice A' hk.c.length c') ∧ w'.cell? ⟨w.heap.size, 1, none⟩ = some (.int .i64 hk.keep) ∧ w'.cell? ⟨C, 3, none⟩ = some (.slice (some bd) l.length cb) ∧ w'.cell? ⟨(bd.add (k * 2)).block, (bd.add (k * 2)).off + 1, none⟩ = some (.int .i64 v)) (first | exact ⟨k0, k1, k2, k3⟩ | exact (fun (hb : Below wr.heap.size wr _) => ⟨bcell hb k0, bcell hb k1, bcell hb k2, bcell hb k3⟩) (by repeat (first | (with_reducible exact Below.refl _ _) | (with_reducible refine below_alloc ?_ _) | (with_reducible refine below_drew1 ?_) | (with_reducible refine pw_below_drewN ?_ _) | (with_reducible exact HB2.out) | (with_reducible refine below_set ?_ (Nat.le_refl _))))) (first | (go_at_call 49; (with_reducible refine (HIH.out _ (by repeat (first | (with_reducible exact Below.refl _ _) | (with_reducible refine below_alloc ?_ _) | (with_reducible refine below_drew1 ?_) | (with_reducible refine pw_below_drewN ?_ _) | fail))).mono ?_); rintro e w9 ⟨A9, c9, rfl, hc9, hk9, hb9⟩; have HB2 := Aside0.mk (show Below wr.heap.size wr w9 from below_step (by repeat (first | (with_reducible exact Below.refl _ _) | (with_reducible refine below_alloc ?_ _) | (with_reducible refine below_drew1 ?_) | (with_reducible refine pw_below_drewN ?_ _) | fail)) hb9); have HK9 := Aside0.mk (And.intro hc9 hk9); (first | (have qx := blk_below (blk_drew (blk_new wr (.cells #[.slice none 0 0, .int .i64 0] 24))) hb9; have QX := Aside0.mk qx; have qx0 := (blk_cell qx 0).trans (show _ = some (Value.slice none 0 0) from rfl); have qx1 := (blk_cell qx 1).trans (show _ = some (Value.int .i64 0) from rfl); have qf0 := blk_frozen qx 0; have qf1 := blk_frozen qx 1; clear qx) | skip); clear hc9 hk9 hb9) | fail)
                    · go_wp2
                      go_meet
                      case rel => exact ⟨w9.heap.size, A9, c9, rfl, ⟨blk_new _ _⟩, ⟨HK9.out.1, Kd.C_alloc HK9.out.2 _⟩, ⟨below_alloc HB2.out _⟩⟩
                    · go_wp2
                      go_meet
                      case rel => exact ⟨wr.heap.size, A9, c9, rfl, ⟨hb_store QX.out⟩, ⟨HK9.out.1, cl_store HK9.out.2 QX.out⟩, ⟨below_set (below_set HB2.out (Nat.le_refl _)) (Nat.le_refl _)⟩⟩
                  case rest =>
                    obtain ⟨XN, A9, c9, rfl, HXN, HK9, HB2⟩ := hcut
                    clear n0 n1 k0 k1 k2 k3
                    have HXB2 := Aside0.mk (blk_below HXB.out HB2.out)
                    have HBL2 := Aside0.mk (And.intro (blk_below HBL.out.1 HB2.out) (blk_below HBL.out.2 HB2.out))
                    have x0 := (blk_cell HXN.out 0).trans (show _ = some (Value.slice A9 hq.c.length c9) from rfl)
                    have x1 := (blk_cell HXN.out 1).trans (show _ = some (Value.int .i64 hq.keep) from rfl)
                    have k0 := (blk_cell HXB2.out 0).trans (show _ = some (Value.slice A' hk.c.length c') from rfl)
                    have k1 := (blk_cell HXB2.out 1).trans (show _ = some (Value.int .i64 hk.keep) from rfl)
                    have f0 := blk_frozen HXB2.out 0
                    have f1 := blk_frozen HXB2.out 1
                    go_wp2
                    go_roundg g9
                    case measure => omega
                    case rel =>
                      have hne : C ≠ w.heap.size := by have := HCW.out; omega
                      have hne2 : w.heap.size + 1 ≠ w.heap.size := by omega
                      exact ⟨k + 1, hq, A9, c9, by rw [HW.out], by have := HK.out.2; omega, HF2, ⟨hb_store HXB2.out⟩, ⟨HQL.out, HK9.out.1, cl_store HK9.out.2 HXB2.out⟩, ⟨blk_far (blk_far HBL2.out.1 hne _) hne _, blk_far (blk_far HBL2.out.2 hne2 _) hne2 _⟩, ⟨below_set (below_set (below_step HBW.out HB2.out) (Nat.le_refl _)) (Nat.le_refl _)⟩⟩
              · have r1 : decide (k < l.length) = false := decide_eq_false hlt
                have r2 : (k < l.length) = False := eq_false hlt
                have hfo := HFO.out
                rw [List.drop_eq_nil_of_le (by omega)] at hfo
                have hfo2 : hk = g := by simpa using hfo
                have HE := Aside0.mk hfo2
                clear hlt hkk hfo hfo2
                (have e0 := (blk_cell HBL.out.2 0).trans (show _ = some (Value.slice none 0 0) from rfl); have e1 := (blk_cell HBL.out.2 1).trans (show _ = some (Value.int .i64 0) from rfl); have f0 := blk_frozen HBL.out.2 0; have f1 := blk_frozen HBL.out.2 1)
                go_wp2
                refine bodyPost_ret (results_ct rfl _ _ (w.heap.size + 1) 24 #[.slice A' hk.c.length c', .int .i64 hk.keep] (0, 0) _ rfl (hb_store HBL.out.2) Try.underlying24 rfl (by kernel_rfl)) rfl ?_
                rw [← HE.out]
                exact ⟨A', c', rfl, HLK.out.2.1, cl_store HLK.out.2.2 HBL.out.2, below_set (below_set HBW.out (by omega)) (by omega)⟩
end Go.Proofs.Ytopkoganfnabgaa.H
namespace Go.Proofs.Ytopkoganfnabgaa.H
open Go.RowKit Go.Proofs.YtopkoganfnabgaaW.PrintWords Go.Proofs.YtopkoganfnabgaaW.PrintLast Go.Proofs.YtopkoganfnabgaaW.PrintMore
attribute [local go_sem] max2_int min2_int max_two min_two max_three min_three max_four min_four
set_option linter.unusedVariables false
set_option linter.unusedSimpArgs false
/-- Nothing but the heap differs. -/
def S3 (w W : World) : Prop := W.os = w.os ∧ W.tape = w.tape ∧ W.output = w.output
theorem S3.refl (w : World) : S3 w w := ⟨rfl, rfl, rfl⟩
theorem S3.below {B : Nat} {w W : World} (h : Below B w W) : S3 w W := ⟨h.os, h.tape, h.output⟩
theorem S3.trans {a b c : World} (h : S3 a b) (k : S3 b c) : S3 a c := ⟨k.1.trans h.1, k.2.1.trans h.2.1, k.2.2.trans h.2.2⟩
theorem S3.set {w W : World} (h : S3 w W) (p : Addr) (u : Value) : S3 w (W.setCell p u) := h
theorem S3.grown {w W : World} {row : Option Nat} (h : w.grownBy W row) : S3 w W := S3.below ((Below.refl 0 w).grown h (Nat.zero_le _) (fun k _ => Nat.zero_le _))
theorem keep_below {w W W2 : World} {b : Nat} (h : Below w.heap.size w W) (hk : KeepBut W W2 b none) (hs : S3 W W2) (hb : w.heap.size ≤ b) : Below w.heap.size w W2 :=
  ⟨hs.1.trans h.os, hs.2.1.trans h.tape, hs.2.2.trans h.output, Nat.le_trans h.size hk.1, fun i hi => (hk.2 i (Nat.lt_of_lt_of_le hi h.size) (by omega) (by simp)).trans (h.block i hi)⟩
end Go.Proofs.Ytopkoganfnabgaa.H
namespace Go.Proofs.Ytopkoganfnabgaa.H
open Go.RowKit Go.Proofs.YtopkoganfnabgaaW.PrintWords Go.Proofs.YtopkoganfnabgaaW.PrintLast Go.Proofs.YtopkoganfnabgaaW.PrintMore
attribute [local go_sem] max2_int min2_int max_two min_two max_three min_three max_four min_four
set_option linter.unusedVariables false
set_option linter.unusedSimpArgs false
section
variable {P : Program} {α : Type}
/-- append to a row that is full (cap = len), whoever owns it: a new row. -/
theorem run_append_full (d : Kd α) (hKM : ∀ (w : World) (base : Nat) (ok : Nat → Prop) (x : α) (cs : List Value), d.K w x cs → d.M w base ok x cs) (t ty e : TypeId) (z : Value) (bytes : Nat) (ht : P.underlying t = some (.slice e))
    (hinfo : (P.info? e).map (fun i => (i.zero, i.size, i.bytes)) = some (some z, d.sz, bytes)) (hz : z.cells.size = d.sz) (hs0 : 0 < d.sz)
    (W : World) (A : Option Addr) (n : Nat) (xs : List α) (HA : d.C W A n xs) (B : Option Addr) (m c : Nat) (ys : List α) (HY : d.C W B m ys) (hm : 0 < m) (hb : n + m ≤ maxLen) (hl : (n + m) * bytes ≤ 140737488355328) (hnz : A = none → n = 0) :
    ∃ A' c' w', (Builtin.append_ #[t, t] ty #[.slice A n n, .slice B m c]).run P W = .ok (.slice A' (xs ++ ys).length c') w' ∧ (xs ++ ys).length ≤ c' ∧ d.R e w' W.heap.size (fun k => W.heap.size ≤ k) (.slice A' (xs ++ ys).length c') (xs ++ ys) ∧ Below W.heap.size W w' := by
  cases hi : P.info? e with
  | none => rw [hi] at hinfo; simp at hinfo
  | some i =>
    rw [hi] at hinfo
    simp only [Option.map_some, Option.some.injEq, Prod.mk.injEq] at hinfo
    obtain ⟨hz0, hz1, hz2⟩ := hinfo
    obtain ⟨bd, rfl, _⟩ := HY.2.2 hm
    obtain ⟨news, hn1, hn2⟩ := ReadsRow.inner_ HY
    have hxl : xs.length = n := HA.1
    have hyl : ys.length = m := HY.1
    have hone : ∀ {zs : List α} {cs : List Value}, Reps (d.K W) d.sz zs cs → ∀ u ∈ cs, u.oneCell' = true := by
      intro zs cs h u hu
      obtain ⟨q, hq, rfl⟩ := List.mem_iff_getElem.1 hu
      have hql : q / d.sz < zs.length := by
        rw [Nat.div_lt_iff_lt_mul hs0, ← h.1]; exact hq
      have hc := h.2 (q / d.sz) _ (List.getElem?_eq_getElem hql)
      refine d.K_one hc _ ?_
      rw [List.mem_iff_getElem?]
      refine ⟨q % d.sz, ?_⟩
      rw [List.getElem?_take, if_pos (Nat.mod_lt _ hs0), List.getElem?_drop, Nat.mul_comm, Nat.div_add_mod, List.getElem?_eq_getElem hq]
    have fin : ∀ v' w' (olds : List Value), Reps (d.K W) d.sz xs olds → w'.ownsRow W.heap.size e d.sz v' (n + m) (olds ++ news) → W.grownBy w' none → ∃ A' c', v' = .slice A' (xs ++ ys).length c' ∧ (xs ++ ys).length ≤ c' ∧ d.R e w' W.heap.size (fun k => W.heap.size ≤ k) (.slice A' (xs ++ ys).length c') (xs ++ ys) ∧ Below W.heap.size W w' := by
      intro v' w' olds ho h1 h2
      have hbl : Below W.heap.size W w' := (Below.refl _ W).grown h2 (Nat.le_refl _) (fun k hk => by cases hk)
      have hrow : OwnRow (d.M w' W.heap.size (fun k => W.heap.size ≤ k ∧ some k ≠ v'.ownBlock)) e d.sz w' W.heap.size v' (xs ++ ys) := ⟨olds ++ news, by rw [List.length_append, hxl, hyl]; exact h1, (Kd.reps_append ho hn1).imp_ (fun p c hp => hKM _ _ _ _ _ (d.K_below hbl hp))⟩
      have hR : d.R e w' W.heap.size (fun k => W.heap.size ≤ k) v' (xs ++ ys) := ⟨fun k hk => own_base h1 k hk, hrow⟩
      obtain ⟨A', c', e1, e2, e3⟩ := OwnRow.reads hrow
      subst e1
      exact ⟨A', c', rfl, e2, hR, hbl⟩
    cases A with
    | some b =>
      obtain ⟨olds, ho1, ho2⟩ := ReadsRow.inner_ HA
      obtain ⟨v', w', hrun, r1, r2⟩ := run_append_arg_grows (P := P) W t ty e i z d.sz bytes ht hi hz0 hz1 hz2 hz hs0 b n n olds (by rw [ho1.1, hxl]) ho2 bd m c news (by rw [hn1.1, hyl]) hn2 (by omega) hb hl
      obtain ⟨A', c', rfl, h3, h4, h5⟩ := fin v' w' olds ho1 r1 r2
      exact ⟨A', c', w', hrun, h3, h4, h5⟩
    | none =>
      obtain rfl := hnz rfl
      obtain rfl : xs = [] := List.eq_nil_of_length_eq_zero hxl
      obtain ⟨v', w', hrun, r1, r2, _⟩ := run_append_own (P := P) W W.heap.size t ty e i z d.sz bytes ht hi hz0 hz1 hz2 hz hs0 (.slice none 0 0) 0 [] (World.ownsRow_nil W _ e d.sz) bd m c news (by rw [hn1.1, hyl]) hn2 (hone hn1) hb hl (Nat.le_refl _)
      obtain ⟨A', c', rfl, h3, h4, h5⟩ := fin v' w' [] (Reps.none _ _) r1 r2
      exact ⟨A', c', w', hrun, h3, h4, h5⟩
theorem append_full_step (d : Kd α) (hKM : ∀ (w : World) (base : Nat) (ok : Nat → Prop) (x : α) (cs : List Value), d.K w x cs → d.M w base ok x cs) {ops : Array Oper} {o : Oper} {a : Act} {W : World} {Kc : Act → World → Prop} {Q : Exit → Act → World → Prop} {E : Prop} (hgd : o.guard = none) (s x : Operand) (t e : TypeId) (z : Value) (bytes : Nat)
    (ho : o.op = .call { callee := .builtin .append, args := #[s, x], argTypes := #[t, t] }) (ht : P.underlying t = some (.slice e))
    (hinfo : (P.info? e).map (fun i => (i.zero, i.size, i.bytes)) = some (some z, d.sz, bytes)) (hz : z.cells.size = d.sz) (hs0 : 0 < d.sz)
    (A : Option Addr) (n : Nat) (xs : List α) (B : Option Addr) (m c : Nat) (ys : List α) (hs : a.eval s = .slice A n n) (hx : a.eval x = .slice B m c) (HA : d.C W A n xs) (HY : d.C W B m ys) (hm : 0 < m) (hb : n + m ≤ maxLen) (hl : (n + m) * bytes ≤ 140737488355328) (hnz : A = none → n = 0)
    (h : ∀ A' c' w', (xs ++ ys).length ≤ c' → d.R e w' W.heap.size (fun k => W.heap.size ≤ k) (.slice A' (xs ++ ys).length c') (xs ++ ys) → Below W.heap.size W w' → Kc (a.put o.dst (.slice A' (xs ++ ys).length c')) w') :
    if Region.wanted o (yielded ops a.tmps) = true then Oper.wp P o a W Kc Q else E := by
  have hw : Region.wanted o (yielded ops a.tmps) = true := by simp [Region.wanted, hgd]
  rw [if_pos hw]
  obtain ⟨A', c', w', hrun, h1, h2, h3⟩ := run_append_full d hKM t o.type e z bytes ht hinfo hz hs0 W A n xs HA B m c ys HY hm hb hl hnz
  unfold Oper.wp
  simp [execOp, ho, resolve, invoke, builtin, hs, hx, hrun, Result.andThen]
  have := h A' c' w' h1 h2 h3
  rw [List.length_append] at this
  exact this
end
end Go.Proofs.Ytopkoganfnabgaa.H
namespace Go.Proofs.Ytopkoganfnabgaa.H
open Go.RowKit Go.Proofs.YtopkoganfnabgaaW.PrintWords Go.Proofs.YtopkoganfnabgaaW.PrintLast Go.Proofs.YtopkoganfnabgaaW.PrintMore
attribute [local go_sem] max2_int min2_int max_two min_two max_three min_three max_four min_four
set_option linter.unusedVariables false
set_option linter.unusedSimpArgs false
theorem cap_cut {A : Option Addr} {c n : Nat} {l : List It} {w : World} (hr : kIt.C w A l.length l) (hc : l.length ≤ c) (h5 : 5 ≤ l.length) : kIt.C w (A.map (·.add (3 * 2))) (l.length - 3) (l.drop 3) := by
  have h := Kd.C_drop (m := 3) (c := c) hr (by omega) hc
  rw [if_neg (by omega), List.length_drop] at h
  exact h
theorem take3 {A : Option Addr} {l : List It} {w : World} (hr : kIt.C w A l.length l) (h5 : 5 ≤ l.length) : kIt.C w A 3 (l.take 3) := by
  have h := Kd.C_take (m := 3) hr (by omega)
  rw [List.length_take, show min 3 l.length = 3 by omega] at h
  exact h
theorem rows_two {A B : Option Addr} {c k : Nat} {l : List It} {w w1 : World} (h1 : kIt.C w A 3 (l.take 3)) (h2 : kIt.C w B (l.length - 3) (l.drop 3)) (h5 : 5 ≤ l.length) (hc : l.length ≤ c) (hk : 3 ≤ k) (hb : Below w.heap.size w w1) :
    RowsC w1 [(A, 3, k), (B, l.length - 3, c - 3)] [l.take 3, l.drop 3] := by
  have e1 : (l.take 3).length = 3 := by rw [List.length_take]; omega
  have e2 : (l.drop 3).length = l.length - 3 := List.length_drop
  exact ⟨⟨e1.symm, by rw [e1]; exact hk, by rw [e1]; exact Kd.C_below h1 hb⟩, ⟨e2.symm, by rw [e2]; show l.length - 3 ≤ c - 3; omega, by rw [e2]; exact Kd.C_below h2 hb⟩, trivial⟩
set_option maxHeartbeats 4000000 in
set_option maxRecDepth 100000 in
theorem refSplit_big (A : Option Addr) (c : Nat) (l : List It) (w : World) (hr : kIt.C w A l.length l) (hc : l.length ≤ c) (h5 : 5 ≤ l.length) (h7 : l.length ≤ 7) :
    Calls Try.prog 78 #[.slice A l.length c] w fun e w' => ∃ B cb ts, e = .returned (.slice B 2 cb) ∧ 2 ≤ cb ∧ kSl.C w' B 2 ts ∧ RowsC w' ts [l.take 3, l.drop 3] ∧ Below w.heap.size w w' := by
  have ht := take3 hr h5
  have hd := cap_cut (n := 0) hr hc h5
  obtain ⟨ad, rfl, _⟩ := at_it0 hr (by omega)
  have q1 : ((l.length : Int) == 0) = false := beq_eq_false_iff_ne.mpr (by omega)
  have q2 : (l.length == 0) = false := beq_eq_false_iff_ne.mpr (by omega)
  have q3 : decide ((l.length : Int) ≤ 4) = false := decide_eq_false (by omega)
  have q4 : decide (l.length ≤ 4) = false := decide_eq_false (by omega)
  have f1 : (3 : Int) ≤ (l.length : Int) := by omega
  have f2 : (3 : Int) ≤ (c : Int) := by omega
  have f3 : (l.length : Int) ≤ (c : Int) := by omega
  have f4 : 3 ≤ l.length := by omega
  have f5 : 3 ≤ c := by omega
  have f6 : (c = 3) = False := eq_false (by omega)
  have hln : (l.drop 3).length = l.length - 3 := by simp
  have e6 : ad.add (3 * 2) = (⟨ad.block, ad.off + 6, none⟩ : Addr) := by simp [Addr.add]
  replace hd : kIt.C w (some (ad.add (3 * 2))) (l.length - 3) (l.drop 3) := hd
  rw [e6] at hd
  have HS := Aside0.mk (fun (W : World) (hb : Below w.heap.size w W) => refSplit_small (some ⟨ad.block, ad.off + 6, none⟩) (c - 3) (l.drop 3) W (by rw [hln]; exact Kd.C_below hd hb) (by rw [hln]; omega) (by rw [hln]; omega) (by rw [hln]; omega))
  rw [hln] at HS
  have HT := Aside0.mk ht
  have HD := Aside0.mk hd
  have HL := Aside0.mk (And.intro hc (And.intro h5 h7))
  clear ht hd hln e6 hr hc h5 h7
  go_enter Try.func78, Try.ntmps78
  go_wp2
  go_region_held3 (fun w' => True) (exact trivial) (first | (go_at_call 78; (with_reducible refine (HS.out _ (by repeat (first | (with_reducible exact Below.refl _ _) | (with_reducible refine below_alloc ?_ _) | (with_reducible refine below_drew1 ?_) | (with_reducible refine pw_below_drewN ?_ _) | fail))).mono ?_); rintro e w2 ⟨B2, rfl, hB2, hb2⟩; have HS2 := Aside0.mk hB2; have HB2 := Aside0.mk (show Below w.heap.size w w2 from below_step (by repeat (first | (with_reducible exact Below.refl _ _) | (with_reducible refine below_alloc ?_ _) | (with_reducible refine below_drew1 ?_) | (with_reducible refine pw_below_drewN ?_ _) | fail)) hb2); (first | (have HK1 := Aside0.mk (Kd.C_below (Kd.C_drew (sl_one w (some ad, 3, c))) hb2)) | skip); clear hb2 hB2) | (refine append_full_step kSl (fun _ _ _ _ _ h => h) rfl (.tmp 13) (.tmp 16) 112 27 (.slice none 0 0) 24 rfl Try.underlying112 info_sl rfl (by decide) _ 1 [(some ad, 3, c)] _ 1 1 [(some ⟨ad.block, ad.off + 6, none⟩, l.length - 3, c - 3)] rfl rfl ?ha ?hy (by decide) (by unfold maxLen; decide) (by decide) (fun h => by cases h) ?_; (case ha => first | (with_reducible exact HK1.out) | exact sl_one _ _); (case hy => first | (with_reducible exact HS2.out) | (with_reducible exact Kd.C_alloc HS2.out _)); intro A' c' w5 h1 h2 h3; have HO5 := Aside0.mk h2; have HC5 := Aside0.mk h1; have HB5 := Aside0.mk (show Below w.heap.size w w5 from below_step (by repeat (first | (with_reducible exact Below.refl _ _) | (with_reducible refine below_alloc ?_ _) | (with_reducible refine below_drew1 ?_) | (with_reducible refine pw_below_drewN ?_ _) | (with_reducible exact HB2.out))) h3); clear h1 h2 h3) | fail)
  all_goals
    go_wp2
    go_ret
    exact ⟨A', c', _, rfl, HC5.out, (Kd.R_reads' HO5.out).2.2, rows_two HT.out HD.out HL.out.2.1 HL.out.1 (by have := HL.out; omega) HB5.out, HB5.out⟩
theorem refSplit_walk (A : Option Addr) (c : Nat) (l : List It) (rows : List (List It)) (w : World) (hr : kIt.C w A l.length l) (hc : l.length ≤ c) (e : splitO l = some rows) :
    Calls Try.prog 78 #[.slice A l.length c] w fun e w' => ∃ B cb ts, e = .returned (.slice B rows.length cb) ∧ kSl.C w' B rows.length ts ∧ RowsC w' ts rows ∧ Below w.heap.size w w' := by
  unfold splitO at e
  by_cases h0 : l.length = 0
  · rw [if_pos h0] at e
    obtain rfl : [] = rows := by simpa using e
    have q1 : ((l.length : Int) == 0) = true := beq_iff_eq.mpr (by omega)
    have q2 : (l.length == 0) = true := beq_iff_eq.mpr h0
    clear h0 e hr hc
    go_enter Try.func78, Try.ntmps78
    go_wp2
    go_ret
    exact ⟨none, 0, [], rfl, ⟨rfl, by decide, fun h => absurd h (by decide)⟩, trivial, Below.refl _ _⟩
  · rw [if_neg h0] at e
    by_cases h4 : l.length ≤ 4
    · rw [if_pos h4] at e
      obtain rfl : [l] = rows := by simpa using e
      refine (refSplit_small A c l w hr hc (by omega) h4).mono fun e w' ⟨B, he, hB, hb⟩ => ⟨B, 1, _, he, hB, ⟨⟨rfl, hc, Kd.C_below hr hb⟩, trivial⟩, hb⟩
    · rw [if_neg h4] at e
      by_cases h7 : l.length ≤ 7
      · rw [if_pos h7] at e
        obtain rfl : [l.take 3, l.drop 3] = rows := by simpa using e
        exact (refSplit_big A c l w hr hc (by omega) h7).mono fun e w' ⟨B, cb, ts, he, _, hB, hR, hb⟩ => ⟨B, cb, ts, he, hB, hR, hb⟩
      · rw [if_neg h7] at e; cases e
end Go.Proofs.Ytopkoganfnabgaa.H
namespace Go.Proofs.Ytopkoganfnabgaa.H
open Go.RowKit Go.Proofs.YtopkoganfnabgaaW.PrintWords Go.Proofs.YtopkoganfnabgaaW.PrintLast Go.Proofs.YtopkoganfnabgaaW.PrintMore
attribute [local go_sem] max2_int min2_int max_two min_two max_three min_three max_four min_four
set_option linter.unusedVariables false
set_option linter.unusedSimpArgs false
theorem own_empty (w : World) : Kd.R kIt 26 (w.alloc (.cells #[] 26)) w.heap.size (fun _ => True) (.slice (some ⟨w.heap.size, 0, none⟩) 0 0) [] :=
  ⟨fun _ _ => trivial, [], ⟨rfl, Or.inr ⟨w.heap.size, 0, #[], rfl, Nat.le_refl _, blk_new w _, Nat.zero_le _, by unfold maxLen; decide, rfl, rfl⟩⟩, Reps.none _ _⟩
/-- Items with others instead of some. -/
theorem nodeWith_walk (A0 A3 : Option Addr) (c0 c3 a g : Nat) (l0 l3 r : List It) (w : World) (hr0 : kIt.C w A0 l0.length l0) (hc0 : l0.length ≤ c0) (hr3 : kIt.C w A3 l3.length l3) (e : withO l0 a g l3 = some r) :
    Calls Try.prog 59 #[.slice A0 l0.length c0, .int .i64 (a : Int), .int .i64 (g : Int), .slice A3 l3.length c3] w fun e w' => ∃ B cb, e = .returned (.slice B r.length cb) ∧ r.length ≤ cb ∧ kIt.C w' B r.length r ∧ Below w.heap.size w w' := by
  unfold withO at e
  by_cases h : a + g ≤ l0.length ∧ l0.length ≤ 1000 ∧ l3.length ≤ 1000
  · rw [if_pos h] at e
    obtain rfl : l0.take a ++ l3 ++ l0.drop (a + g) = r := by simpa using e
    refine (with_walk A0 A3 c0 c3 a g l0 l3 w hr0 hc0 hr3 h.2.1 h.2.2 h.1).mono ?_
    rintro e w' ⟨v, rfl, hv, hb⟩
    obtain ⟨B, cb, rfl⟩ := Kd.R_slice hv
    exact ⟨B, cb, rfl, (Kd.R_reads' hv).2.1, (Kd.R_reads' hv).2.2, hb⟩
  · rw [if_neg h] at e; cases e
set_option maxHeartbeats 4000000 in
set_option maxRecDepth 100000 in
theorem refWith_walk (A0 A3 : Option Addr) (c0 c3 a g : Nat) (l0 l3 r : List It) (w : World) (hr0 : kIt.C w A0 l0.length l0) (hc0 : l0.length ≤ c0) (hr3 : kIt.C w A3 l3.length l3) (e : withO l0 a g l3 = some r) :
    Calls Try.prog 79 #[.slice A0 l0.length c0, .int .i64 (a : Int), .int .i64 (g : Int), .slice A3 l3.length c3] w fun e w' => ∃ B cb, e = .returned (.slice B r.length cb) ∧ r.length ≤ cb ∧ kIt.C w' B r.length r ∧ Below w.heap.size w w' := by
  unfold withO at e
  by_cases h : a + g ≤ l0.length ∧ l0.length ≤ 1000 ∧ l3.length ≤ 1000
  · rw [if_pos h] at e
    obtain rfl : l0.take a ++ l3 ++ l0.drop (a + g) = r := by simpa using e
    have k1 := Kd.C_take (m := a) hr0 (by omega)
    have k2 := Kd.C_drop (m := a + g) (c := c0) hr0 (by omega) hc0
    have e1 : (l0.take a).length = a := by rw [List.length_take]; omega
    have e2 : (l0.drop (a + g)).length = l0.length - (a + g) := List.length_drop
    rw [e1] at k1
    rw [e2] at k2
    obtain ⟨j, hj⟩ : ∃ j, j = a + g := ⟨_, rfl⟩
    have w1 : wrap64 ((a : Int) + (g : Int)) = (j : Int) := by unfold wrap64; omega
    rw [← hj] at k2
    have f1 : (a : Int) ≤ (l0.length : Int) := by omega
    have f2 : (a : Int) ≤ (c0 : Int) := by omega
    have f3 : (j : Int) ≤ (l0.length : Int) := by omega
    have f4 : (j : Int) ≤ (c0 : Int) := by omega
    have f5 : (0 : Int) ≤ (a : Int) := by omega
    have f6 : (0 : Int) ≤ (j : Int) := by omega
    have f7 : (l0.length : Int) ≤ (c0 : Int) := by omega
    have HL := Aside0.mk (And.intro h (And.intro hc0 hj))
    have HR := Aside0.mk (show l0.take a ++ l3 ++ l0.drop (a + g) = [] ++ l0.take a ++ l3 ++ l0.drop j by rw [hj]; simp)
    have HK1 := Aside0.mk k1
    have HR3 := Aside0.mk hr3
    have HE := Aside0.mk (own_empty w)
    have HBE := Aside0.mk (below_alloc (Below.refl w.heap.size w) (.cells #[] 26))
    rw [HR.out]
    clear e h e1 e2 hj k1 hr0 hr3 hc0
    by_cases hcj : c0 = j
    · rw [if_pos hcj] at k2
      have HK2 := Aside0.mk k2
      have f8 : (c0 = j) = True := eq_true hcj
      clear k2 hcj
      go_enter Try.func79, Try.ntmps79
      go_wp2_with (first | ((with_reducible refine gate_builtin (b := .append) (xs := #[.tmp 10, .tmp 13]) rfl ?_); at_builtin; refine Kd.R_append_rows kIt (w0 := w) w.heap.size rfl (.tmp 10) (.tmp 13) 27 26 (.agg #[.int .i64 0, .int .i64 0]) 16 rfl Try.underlying27 info_it rfl (by decide) (by omega) _ ([]) (l0.take a) _ _ _ (fun _ => True) (fun _ => False) rfl rfl HE.out (Kd.C_alloc HK1.out _) (fun _ _ h => h) (fun _ h => h.elim) (fun _ _ => trivial) HBE.out (below_size HBE.out) (by have := HL.out; simp; omega) ?_; intro v1 w1 ho hb hg hat; have HO1 := Aside0.mk ho; have HB1 := Aside0.mk hb; clear ho hb hg hat) | ((with_reducible refine gate_builtin (b := .append) (xs := #[.tmp 14, .tmp 15]) rfl ?_); at_builtin; refine Kd.R_append_rows kIt (w0 := w) w.heap.size rfl (.tmp 14) (.tmp 15) 27 26 (.agg #[.int .i64 0, .int .i64 0]) 16 rfl Try.underlying27 info_it rfl (by decide) (by omega) _ ([] ++ l0.take a) (l3) _ _ _ (fun _ => True) (fun _ => False) rfl rfl HO1.out (Kd.C_below HR3.out HB1.out) (fun _ _ h => h) (fun _ h => h.elim) (fun _ _ => trivial) HB1.out (below_size HB1.out) (by have := HL.out; simp; omega) ?_; intro v2 w2 ho hb hg hat; have HO2 := Aside0.mk ho; have HB2 := Aside0.mk hb; clear ho hb hg hat) | ((with_reducible refine gate_builtin (b := .append) (xs := #[.tmp 17, .tmp 22]) rfl ?_); at_builtin; refine Kd.R_append_rows kIt (w0 := w) w.heap.size rfl (.tmp 17) (.tmp 22) 27 26 (.agg #[.int .i64 0, .int .i64 0]) 16 rfl Try.underlying27 info_it rfl (by decide) (by omega) _ ([] ++ l0.take a ++ l3) (l0.drop j) _ _ _ (fun _ => True) (fun _ => False) rfl rfl HO2.out (Kd.C_below HK2.out HB2.out) (fun _ _ h => h) (fun _ h => h.elim) (fun _ _ => trivial) HB2.out (below_size HB2.out) (by have := HL.out; simp; omega) ?_; intro v3 w3 ho hb hg hat; have HO3 := Aside0.mk ho; have HB3 := Aside0.mk hb; clear ho hb hg hat) | fail)
      go_ret
      obtain ⟨B, cb, rfl⟩ := Kd.R_slice HO3.out
      exact ⟨B, cb, rfl, (Kd.R_reads' HO3.out).2.1, (Kd.R_reads' HO3.out).2.2, HB3.out⟩
    · rw [if_neg hcj] at k2
      have HK2 : Aside0 (kIt.C w (Option.map (fun x => x.add (j * 2)) A0) (l0.length - j) (l0.drop j)) := Aside0.mk k2
      have f8 : (c0 = j) = False := eq_false hcj
      clear k2 hcj
      go_enter Try.func79, Try.ntmps79
      go_wp2_with (first | ((with_reducible refine gate_builtin (b := .append) (xs := #[.tmp 10, .tmp 13]) rfl ?_); at_builtin; refine Kd.R_append_rows kIt (w0 := w) w.heap.size rfl (.tmp 10) (.tmp 13) 27 26 (.agg #[.int .i64 0, .int .i64 0]) 16 rfl Try.underlying27 info_it rfl (by decide) (by omega) _ ([]) (l0.take a) _ _ _ (fun _ => True) (fun _ => False) rfl rfl HE.out (Kd.C_alloc HK1.out _) (fun _ _ h => h) (fun _ h => h.elim) (fun _ _ => trivial) HBE.out (below_size HBE.out) (by have := HL.out; simp; omega) ?_; intro v1 w1 ho hb hg hat; have HO1 := Aside0.mk ho; have HB1 := Aside0.mk hb; clear ho hb hg hat) | ((with_reducible refine gate_builtin (b := .append) (xs := #[.tmp 14, .tmp 15]) rfl ?_); at_builtin; refine Kd.R_append_rows kIt (w0 := w) w.heap.size rfl (.tmp 14) (.tmp 15) 27 26 (.agg #[.int .i64 0, .int .i64 0]) 16 rfl Try.underlying27 info_it rfl (by decide) (by omega) _ ([] ++ l0.take a) (l3) _ _ _ (fun _ => True) (fun _ => False) rfl rfl HO1.out (Kd.C_below HR3.out HB1.out) (fun _ _ h => h) (fun _ h => h.elim) (fun _ _ => trivial) HB1.out (below_size HB1.out) (by have := HL.out; simp; omega) ?_; intro v2 w2 ho hb hg hat; have HO2 := Aside0.mk ho; have HB2 := Aside0.mk hb; clear ho hb hg hat) | ((with_reducible refine gate_builtin (b := .append) (xs := #[.tmp 17, .tmp 22]) rfl ?_); at_builtin; refine Kd.R_append_rows kIt (w0 := w) w.heap.size rfl (.tmp 17) (.tmp 22) 27 26 (.agg #[.int .i64 0, .int .i64 0]) 16 rfl Try.underlying27 info_it rfl (by decide) (by omega) _ ([] ++ l0.take a ++ l3) (l0.drop j) _ _ _ (fun _ => True) (fun _ => False) rfl rfl HO2.out (Kd.C_below HK2.out HB2.out) (fun _ _ h => h) (fun _ h => h.elim) (fun _ _ => trivial) HB2.out (below_size HB2.out) (by have := HL.out; simp; omega) ?_; intro v3 w3 ho hb hg hat; have HO3 := Aside0.mk ho; have HB3 := Aside0.mk hb; clear ho hb hg hat) | fail)
      go_ret
      obtain ⟨B, cb, rfl⟩ := Kd.R_slice HO3.out
      exact ⟨B, cb, rfl, (Kd.R_reads' HO3.out).2.1, (Kd.R_reads' HO3.out).2.2, HB3.out⟩
  · rw [if_neg h] at e; cases e
end Go.Proofs.Ytopkoganfnabgaa.H
namespace Go.Proofs.Ytopkoganfnabgaa.H
open Go.RowKit Go.Proofs.YtopkoganfnabgaaW.PrintWords Go.Proofs.YtopkoganfnabgaaW.PrintLast Go.Proofs.YtopkoganfnabgaaW.PrintMore
attribute [local go_sem] max2_int min2_int max_two min_two max_three min_three max_four min_four
set_option linter.unusedVariables false
set_option linter.unusedSimpArgs false
theorem one_it (W : World) (x : It) : kIt.C (W.alloc (.cells #[.int .i64 x.k, .int .i64 x.v] 26)) (some ⟨W.heap.size, 0, none⟩) 1 [x] := by
  refine ⟨rfl, by decide, fun _ => ⟨_, rfl, fun j p hj => ?_⟩⟩
  have hj0 : j = 0 := by
    have := (List.getElem?_eq_some_iff.1 hj).1
    simp at this
    exact this
  subst hj0
  cases hj
  refine ⟨[.int .i64 x.k, .int .i64 x.v], rfl, ⟨[.int .i64 x.k], [.int .i64 x.v], rfl, rfl, rfl⟩, fun i u hu => ?_⟩
  have hadd : (({ block := W.heap.size, off := 0 } : Addr).add (0 * kIt.sz + i)) = ⟨W.heap.size, i, none⟩ := by simp [Addr.add]; intro h; exact h.symm
  rw [hadd, blk_cell (blk_new W _) i, ← hu]
  simp
theorem withO_len {l more r : List It} {a g : Nat} (e : withO l a g more = some r) : more.length ≤ 1000 := by
  unfold withO at e
  split at e
  · rename_i h; exact h.2.2
  · cases e
theorem anewO_inv {f : Nat} {h h' : Hp} {p : Int} {x : It} {made : List It} (e : anewO (f + 1) h p x = some (h', made)) :
    inB h p = true ∧ ∃ (i : Nat) (is : Bool) (h1 : Hp) (more : List It) (gone : Nat) (held : List Int) (l1 : List It) (rows : List (List It)), atO (clAt h p).n.leaf (clAt h p).n.it x.k = some (i, is) ∧
      ((clAt h p).n.leaf = true → h1 = h ∧ more = [x] ∧ gone = (if is then 1 else 0) ∧ held = []) ∧
      ((clAt h p).n.leaf = false → i < (clAt h p).n.it.length ∧ anewO f h (itAt (clAt h p).n.it i).v x = some (h1, more) ∧ gone = 1 ∧ held = vL more) ∧
      withO (clAt h p).n.it i gone more = some l1 ∧ splitO l1 = some rows ∧ layO h1 (clAt h p).n.leaf held rows = some (h', made) := by
  unfold anewO at e
  by_cases hin : inB h p = true
  · rw [if_pos hin] at e
    simp only [Option.bind_eq_bind, Option.bind_eq_some_iff] at e
    obtain ⟨⟨i, is⟩, hat, e⟩ := e
    simp only at e
    refine ⟨hin, i, is, ?_⟩
    cases hlf : (clAt h p).n.leaf with
    | true =>
      rw [hlf] at e
      simp only [if_true, Option.bind_eq_some_iff] at e
      obtain ⟨l1, h1, rows, h2, h3⟩ := e
      exact ⟨h, [x], _, [], l1, rows, hlf ▸ hat, fun _ => ⟨rfl, rfl, rfl, rfl⟩, (fun h => by cases h), h1, h2, h3⟩
    | false =>
      rw [hlf] at e
      simp only [Bool.false_eq_true, if_false] at e
      by_cases hi : i < (clAt h p).n.it.length
      · rw [if_pos hi] at e
        simp only [Option.bind_eq_some_iff] at e
        obtain ⟨⟨g, more⟩, h0, l1, h1, rows, h2, h3⟩ := e
        exact ⟨g, more, 1, vL more, l1, rows, hlf ▸ hat, (fun h => by cases h), fun _ => ⟨hi, h0, rfl, rfl⟩, h1, h2, h3⟩
      · rw [if_neg hi] at e; cases e
  · rw [if_neg hin] at e; cases e
theorem layO_inv {h h' : Hp} {lf : Bool} {held : List Int} {x : It} {s : List It} {rows : List (List It)} {made : List It} (e : layO h lf held ((x :: s) :: rows) = some (h', made)) :
    ∃ g p er l, allocO h ⟨lf, x :: s⟩ held = some (g, p, er) ∧ layO g lf held rows = some (h', l) ∧ made = ⟨x.k, p⟩ :: l := by
  unfold layO at e
  simp only [Option.bind_eq_bind, Option.bind_eq_some_iff] at e
  obtain ⟨⟨g, p, er⟩, h1, ⟨g2, l⟩, h2, h3⟩ := e
  simp only [Option.some.injEq, Prod.mk.injEq] at h3
  obtain ⟨rfl, rfl⟩ := h3
  exact ⟨g, p, er, l, h1, h2, rfl⟩
theorem splitO_len {l : List It} {rows : List (List It)} (e : splitO l = some rows) : rows.length ≤ 2 := by
  unfold splitO at e
  split at e
  · cases e; simp
  · split at e
    · cases e; simp
    · split at e
      · cases e; simp
      · cases e
theorem itM (w : World) (base : Nat) (ok : Nat → Prop) (x : It) : kIt.M w base ok x [.int .i64 x.k, .int .i64 x.v] := ⟨[.int .i64 x.k], [.int .i64 x.v], rfl, rfl, rfl⟩
end Go.Proofs.Ytopkoganfnabgaa.H
