import Derived.Test.YtopkoganfnabgaaG3
import Derived.Test.YtopkoganfnabgaaG1
namespace Go.Proofs.Ytopkoganfnabgaa.H
open Go.RowKit Go.Proofs.YtopkoganfnabgaaW.PrintWords Go.Proofs.YtopkoganfnabgaaW.PrintLast Go.Proofs.YtopkoganfnabgaaW.PrintMore
attribute [local go_sem] max2_int min2_int max_two min_two max_three min_three max_four min_four
set_option linter.unusedVariables false
set_option linter.unusedSimpArgs false
theorem one_it (W : World) (x : It) : kIt.C (W.alloc (.cells #[.int .i64 x.k, .int .i64 x.v] 26)) (some ⟨W.heap.size, 0, none⟩) 1 [x] := by
  refine ⟨rfl, by decide, fun _ => ⟨_, rfl, fun j p hj => ?_⟩⟩
  have hj0 : j = 0 := by
    have := (List.getElem?_eq_some_iff.1 hj).1
    simp at this
    exact this
  subst hj0
  cases hj
  refine ⟨[.int .i64 x.k, .int .i64 x.v], rfl, ⟨[.int .i64 x.k], [.int .i64 x.v], rfl, rfl, rfl⟩, fun i u hu => ?_⟩
  have hadd : (({ block := W.heap.size, off := 0 } : Addr).add (0 * kIt.sz + i)) = ⟨W.heap.size, i, none⟩ := by simp [Addr.add]; intro h; exact h.symm
  rw [hadd, blk_cell (blk_new W _) i, ← hu]
  simp
theorem withO_len {l more r : List It} {a g : Nat} (e : withO l a g more = some r) : more.length ≤ 1000 := by
  unfold withO at e
  split at e
  · rename_i h; exact h.2.2
  · cases e
theorem anewO_inv {f : Nat} {h h' : Hp} {p : Int} {x : It} {made : List It} (e : anewO (f + 1) h p x = some (h', made)) :
    inB h p = true ∧ ∃ (i : Nat) (is : Bool) (h1 : Hp) (more : List It) (gone : Nat) (held : List Int) (l1 : List It) (rows : List (List It)), atO (clAt h p).n.leaf (clAt h p).n.it x.k = some (i, is) ∧
      ((clAt h p).n.leaf = true → h1 = h ∧ more = [x] ∧ gone = (if is then 1 else 0) ∧ held = []) ∧
      ((clAt h p).n.leaf = false → i < (clAt h p).n.it.length ∧ anewO f h (itAt (clAt h p).n.it i).v x = some (h1, more) ∧ gone = 1 ∧ held = vL more) ∧
      withO (clAt h p).n.it i gone more = some l1 ∧ splitO l1 = some rows ∧ layO h1 (clAt h p).n.leaf held rows = some (h', made) := by
  unfold anewO at e
  by_cases hin : inB h p = true
  · rw [if_pos hin] at e
    simp only [Option.bind_eq_bind, Option.bind_eq_some_iff] at e
    obtain ⟨⟨i, is⟩, hat, e⟩ := e
    simp only at e
    refine ⟨hin, i, is, ?_⟩
    cases hlf : (clAt h p).n.leaf with
    | true =>
      rw [hlf] at e
      simp only [if_true, Option.bind_eq_some_iff] at e
      obtain ⟨l1, h1, rows, h2, h3⟩ := e
      exact ⟨h, [x], _, [], l1, rows, hlf ▸ hat, fun _ => ⟨rfl, rfl, rfl, rfl⟩, (fun h => by cases h), h1, h2, h3⟩
    | false =>
      rw [hlf] at e
      simp only [Bool.false_eq_true, if_false] at e
      by_cases hi : i < (clAt h p).n.it.length
      · rw [if_pos hi] at e
        simp only [Option.bind_eq_some_iff] at e
        obtain ⟨⟨g, more⟩, h0, l1, h1, rows, h2, h3⟩ := e
        exact ⟨g, more, 1, vL more, l1, rows, hlf ▸ hat, (fun h => by cases h), fun _ => ⟨hi, h0, rfl, rfl⟩, h1, h2, h3⟩
      · rw [if_neg hi] at e; cases e
  · rw [if_neg hin] at e; cases e
theorem layO_inv {h h' : Hp} {lf : Bool} {held : List Int} {x : It} {s : List It} {rows : List (List It)} {made : List It} (e : layO h lf held ((x :: s) :: rows) = some (h', made)) :
    ∃ g p er l, allocO h ⟨lf, x :: s⟩ held = some (g, p, er) ∧ layO g lf held rows = some (h', l) ∧ made = ⟨x.k, p⟩ :: l := by
  unfold layO at e
  simp only [Option.bind_eq_bind, Option.bind_eq_some_iff] at e
  obtain ⟨⟨g, p, er⟩, h1, ⟨g2, l⟩, h2, h3⟩ := e
  simp only [Option.some.injEq, Prod.mk.injEq] at h3
  obtain ⟨rfl, rfl⟩ := h3
  exact ⟨g, p, er, l, h1, h2, rfl⟩
theorem splitO_len {l : List It} {rows : List (List It)} (e : splitO l = some rows) : rows.length ≤ 2 := by
  unfold splitO at e
  split at e
  · cases e; simp
  · split at e
    · cases e; simp
    · split at e
      · cases e; simp
      · cases e
/-- Two slices do not lie where a heap alone lies. -/
theorem Hb_sl {w : World} {g : Nat} (h : Hb w g) (ad : Addr) (t1 t2 : Tr) (e : ad.block = g) (e0 : w.cell? ad = some (trV t1)) (e1 : w.cell? (ad.add 1) = some (trV t2)) : False := by
  obtain ⟨X, a, b, k, t, hb⟩ := h
  obtain ⟨bl, off, inn⟩ := ad
  cases e
  have hb' : w.heap[bl]? = some (Obj.cells #[Value.slice X a b, Value.int IntKind.i64 k] t) := hb
  unfold World.cell? at e0 e1
  unfold Addr.add at e1
  unfold trV at e0 e1
  simp only [hb'] at e0 e1
  cases inn with
  | none =>
    match off with
    | 0 => simp [hb'] at e1
    | 1 => simp at e0
    | n + 2 => simp at e0
  | some j => simp at e0
theorem itM (w : World) (base : Nat) (ok : Nat → Prop) (x : It) : kIt.M w base ok x [.int .i64 x.k, .int .i64 x.v] := ⟨[.int .i64 x.k], [.int .i64 x.v], rfl, rfl, rfl⟩
set_option maxHeartbeats 8000000 in
set_option maxRecDepth 100000 in
/-- (*builder).anew. -/
theorem growAnew_walk : ∀ (f : Nat) (A : Option Addr) (c b : Nat) (h h' : Hp) (p : Int) (x : It) (made : List It) (w : World), w.heap[b]? = some (.cells #[.slice A h.c.length c, .int .i64 h.keep] 86 (0, 0)) → kCl.C w A h.c.length h.c → h.c.length ≤ c → anewO f h p x = some (h', made) →
    Calls Try.prog 44 #[.pointer (some ⟨b, 0, none⟩), .int .i64 p, .agg #[.int .i64 x.k, .int .i64 x.v]] w fun e w' => (∃ M cm, e = .returned (.slice M made.length cm) ∧ made.length ≤ cm ∧ kIt.C w' M made.length made) ∧ (∃ A' c', w'.heap[b]? = some (.cells #[.slice A' h'.c.length c', .int .i64 h'.keep] 86 (0, 0)) ∧ h'.c.length ≤ c' ∧ kCl.C w' A' h'.c.length h'.c) ∧ KeepBut w w' b none ∧ S3 w w' := by
  intro f
  induction f with
  | zero => intro A c b h h' p x made w _ _ _ e; simp [anewO] at e
  | succ f ih =>
    intro A c b h h' p x made w hbb hr hcc e
    obtain ⟨hin, i, is, h1, more, gone, held, l1, rows, hat, hT, hF, hwith, hsplit, hlay⟩ := anewO_inv e
    obtain ⟨q, rfl, hq⟩ := inB_nat hin
    have hcl : clAt h (q : Int) = h.c.getD q zCl := by unfold clAt; rw [Int.toNat_natCast]
    rw [hcl] at hat hT hF hwith hlay
    obtain ⟨ad, B, cb, rfl, _, _, x2, x3, hcb, hB⟩ := at_cl hr q hq
    obtain ⟨n, hn⟩ : ∃ n, n = (h.c.getD q zCl).n := ⟨_, rfl⟩
    rw [← hn] at hat hT hF hwith hlay x2 x3 hcb hB
    obtain ⟨lf, hlf⟩ : ∃ lf, lf = n.leaf := ⟨_, rfl⟩
    rw [← hlf] at hat hT hF hlay x2
    obtain ⟨W1, hW1⟩ : ∃ W1, W1 = (w.alloc (.cells #[.int .i64 x.k, .int .i64 x.v] 26)).alloc (.cells #[.bool lf, .slice B n.it.length cb] 77) := ⟨_, rfl⟩
    have HB0 := Aside0.mk (show Below w.heap.size w W1 by rw [hW1]; exact below_alloc (below_alloc (Below.refl _ _) _) _)
    have HX1 := Aside0.mk (show W1.heap[w.heap.size]? = some (.cells #[.int .i64 x.k, .int .i64 x.v] 26) by rw [hW1]; exact blk_alloc (blk_new w _) _)
    have HN1 := Aside0.mk (show W1.heap[w.heap.size + 1]? = some (.cells #[.bool lf, .slice B n.it.length cb] 77) by rw [hW1]; exact blk2 w _ _)
    have HBB := Aside0.mk (blk_below hbb HB0.out)
    have HROW := Aside0.mk (Kd.C_below hB HB0.out)
    have HBL := Aside0.mk (blk_lt hbb)
    have HAT := Aside0.mk (fun (W : World) (hb : Below W1.heap.size W1 W) => nodeAt_walk lf B cb n.it x.k i is W (Kd.C_below HROW.out hb) hat)
    have HR := Aside0.mk (Kd.C_below hr HB0.out)
    have HCC := Aside0.mk (And.intro hcc hcb)
    have HT := Aside0.mk hT
    have HF := Aside0.mk hF
    have HWL := Aside0.mk (And.intro hwith (And.intro hsplit hlay))
    have HIH := Aside0.mk ih
    have c0 := (blk_cell hbb 0).trans (show _ = some (Value.slice (some ad) h.c.length c) from rfl)
    have c1 := (blk_cell HN1.out 0).trans (show _ = some (Value.bool lf) from rfl)
    have c2 := (blk_cell HN1.out 1).trans (show _ = some (Value.slice B n.it.length cb) from rfl)
    have c3 := (blk_cell HX1.out 0).trans (show _ = some (Value.int .i64 x.k) from rfl)
    have c4 := (blk_cell HX1.out 1).trans (show _ = some (Value.int .i64 x.v) from rfl)
    have r1 : (q < h.c.length) = True := eq_true hq
    have hW1' := Aside0.mk hW1
    have y2 := al1 (o := .cells #[.int .i64 x.k, .int .i64 x.v] 26) x2
    have y3 := al1 (o := .cells #[.int .i64 x.k, .int .i64 x.v] 26) x3
    have y0 := al1 (o := .cells #[.int .i64 x.k, .int .i64 x.v] 26) c0
    clear hin hcl hB hn hlf hat hT hF hwith hsplit hlay hW1 hbb hr hcc e ih hcb hq x2 x3 c0
    go_enter Try.func44, Try.ntmps44
    go_upto_region 2 with (fail)
    rw [← hW1'.out]
    clear y0 y2 y3
    go_upto_region 3 with (first | (go_at_call 58; (with_reducible refine (HAT.out _ (by repeat (first | (with_reducible exact Below.refl _ _) | (with_reducible refine below_alloc ?_ _) | (with_reducible refine below_drew1 ?_) | (with_reducible refine pw_below_drewN ?_ _) | (with_reducible exact Below.refl _ _)))).mono ?_); rintro e w2 ⟨rfl, hb2⟩; have HB2 := Aside0.mk (show Below W1.heap.size W1 w2 from below_step (by repeat (first | (with_reducible exact Below.refl _ _) | (with_reducible refine below_alloc ?_ _) | (with_reducible refine below_drew1 ?_) | (with_reducible refine pw_below_drewN ?_ _) | fail)) hb2); clear hb2) | fail)
    have d1 := bcell HB2.out c1
    have d3 := bcell HB2.out c3
    have d4 := bcell HB2.out c4
    have d2 := bcell HB2.out c2
    go_upto_block 0 with (fail)
    obtain ⟨W3, hW3⟩ : ∃ W3, W3 = w2.alloc (.cells #[.int .i64 x.k, .int .i64 x.v] 26) := ⟨_, rfl⟩
    rw [← hW3]
    have HB3 := Aside0.mk (show Below W1.heap.size W1 W3 by rw [hW3]; exact below_alloc HB2.out _)
    have HONE := Aside0.mk (show kIt.C W3 (some ⟨w2.heap.size, 0, none⟩) [x].length [x] by rw [hW3]; exact one_it w2 x)
    have e1 := (blk_cell (blk_below HN1.out HB3.out) 0).trans (show _ = some (Value.bool lf) from rfl)
    have e2 := (blk_cell (blk_below HN1.out HB3.out) 1).trans (show _ = some (Value.slice B n.it.length cb) from rfl)
    have e3 := (blk_cell (blk_below HX1.out HB3.out) 0).trans (show _ = some (Value.int .i64 x.k) from rfl)
    have e4 := (blk_cell (blk_below HX1.out HB3.out) 1).trans (show _ = some (Value.int .i64 x.v) from rfl)
    clear d1 d2 d3 d4 c1 c2 c3 c4 hW3
    go_cut [10, 11, 12] from 34 to 50 (fun v10 v11 v12 wc => ∃ (h1 : Hp) (A1 : Option Addr) (c1 : Nat) (more : List It) (M : Option Addr) (cm gone : Nat) (held : List Int) (D : Option Addr) (d : Nat) (l1 : List It) (rows : List (List It)), v10 = .slice M more.length cm ∧ v11 = .int .i64 (gone : Int) ∧ v12 = .slice D held.length d ∧ Aside0 (withO n.it i gone more = some l1 ∧ splitO l1 = some rows ∧ layO h1 lf held rows = some (h', made)) ∧ Aside0 (wc.heap[b]? = some (.cells #[.slice A1 h1.c.length c1, .int .i64 h1.keep] 86 (0, 0))) ∧ Aside0 (h1.c.length ≤ c1 ∧ kCl.C wc A1 h1.c.length h1.c) ∧ Aside0 (kIt.C wc M more.length more) ∧ Aside0 (∀ W', KeepBut wc W' b none → (Kd.int .i64).C W' D held.length held) ∧ Aside0 (KeepBut W1 wc b none ∧ S3 W1 wc))
    case first =>
      cases lf with
      | true =>
        obtain ⟨t1, t2, t3, t4⟩ := HT.out rfl
        rw [t1, t2, t3, t4] at HWL
        clear t1 t2 t3 t4
        cases is with
        | true =>
          go_wp2
          go_meet
          case rel => exact ⟨h, some ad, c, [x], some ⟨w2.heap.size, 0, none⟩, 1, 1, [], none, 0, l1, rows, rfl, rfl, rfl, HWL, ⟨blk_below HBB.out HB3.out⟩, ⟨HCC.out.1, Kd.C_below HR.out HB3.out⟩, HONE, ⟨fun _ _ => Kd.C_nil _ _⟩, ⟨KeepBut.of_below HB3.out b none, S3.below HB3.out⟩⟩
        | false =>
          go_wp2
          go_meet
          case rel => exact ⟨h, some ad, c, [x], some ⟨w2.heap.size, 0, none⟩, 1, 0, [], none, 0, l1, rows, rfl, rfl, rfl, HWL, ⟨blk_below HBB.out HB3.out⟩, ⟨HCC.out.1, Kd.C_below HR.out HB3.out⟩, HONE, ⟨fun _ _ => Kd.C_nil _ _⟩, ⟨KeepBut.of_below HB3.out b none, S3.below HB3.out⟩⟩
      | false =>
        obtain ⟨t1, t2, t3, t4⟩ := HF.out rfl
        rw [t3, t4] at HWL
        obtain ⟨ad2, rfl, _, z1⟩ := at_it (Kd.C_below HROW.out HB3.out) i t1
        have q1 : (i < n.it.length) = True := eq_true t1
        obtain ⟨v, hv⟩ : ∃ v, v = (itAt n.it i).v := ⟨_, rfl⟩
        rw [← hv] at t2 z1
        have HCALL := Aside0.mk (fun (W : World) (hb : Below W3.heap.size W3 W) => HIH.out (some ad) c b h h1 v x more W (blk_below HBB.out (below_step HB3.out hb)) (Kd.C_below HR.out (below_step HB3.out hb)) HCC.out.1 t2)
        have HMM := Aside0.mk (withO_len HWL.out.1)
        clear t1 t2 t3 t4 hv
        go_upto_region 6 with (fail)
        go_still_tail 8, (by kernel_rfl)
        go_upto_region 7 with (first | (go_at_call 44; (with_reducible refine (HCALL.out _ (by repeat (first | (with_reducible exact Below.refl _ _) | (with_reducible refine below_alloc ?_ _) | (with_reducible refine below_drew1 ?_) | (with_reducible refine pw_below_drewN ?_ _) | fail))).mono ?_); rintro e w4 ⟨⟨M, cm, rfl, hcm, hM⟩, ⟨A1, c1', hb1, hc1', hr1⟩, hk, hs⟩; have HM := Aside0.mk (And.intro hcm hM); have HH1 := Aside0.mk (And.intro hb1 (And.intro hc1' hr1)); have HK4 := Aside0.mk (show KeepBut W1 w4 b none from keep_trans (KeepBut.of_below HB3.out b none) (keep_trans (KeepBut.of_below (by repeat (first | (with_reducible exact Below.refl _ _) | (with_reducible refine below_alloc ?_ _) | (with_reducible refine below_drew1 ?_) | (with_reducible refine pw_below_drewN ?_ _) | fail)) b none) hk)); have HS4 := Aside0.mk (show S3 W1 w4 from S3.trans (S3.below HB3.out) (S3.trans (S3.below (show Below W3.heap.size W3 _ by repeat (first | (with_reducible exact Below.refl _ _) | (with_reducible refine below_alloc ?_ _) | (with_reducible refine below_drew1 ?_) | (with_reducible refine pw_below_drewN ?_ _) | fail))) hs)); clear hs; clear hcm hM hb1 hc1' hr1 hk) | fail)
        go_wp2_with (first | (go_at_call 51; (with_reducible refine (growPlaces_walk M cm more _ HM.out.2 HMM.out).mono ?_); rintro e w5 ⟨D, d, rfl, hd, hb5⟩; have HD := Aside0.mk hd; have HB5 := Aside0.mk hb5; clear hd hb5) | fail)
        go_meet
        case rel => exact ⟨h1, A1, c1', more, M, cm, 1, vL more, D, d, l1, rows, rfl, rfl, rfl, HWL, ⟨blk_below HH1.out.1 HB5.out⟩, ⟨HH1.out.2.1, Kd.C_below HH1.out.2.2 HB5.out⟩, ⟨Kd.C_below HM.out.2 HB5.out⟩, ⟨fun W' hk => HD.out W' ⟨hk.1, fun i hi hn => hk.2 i hi (fun e => hn (by have := HBL.out; have := HB0.out.size; have := HK4.out.1; show i < _; omega)) (by simp)⟩⟩, ⟨keep_trans HK4.out (KeepBut.of_below HB5.out b none), S3.trans HS4.out (S3.below HB5.out)⟩⟩
    case rest =>
      clear HWL HT HF HIH HONE e1 e2 e3 e4 HAT r1
      obtain ⟨h2, A1, c1, more2, M, cm, gone2, held2, D, d, l2, rows2, rfl, rfl, rfl, HWL, HBBc, HHc, HMc, HDc, HKc0⟩ := hcut
      have HKc := Aside0.mk HKc0.out.1
      have hrowB := it_keep HROW.out (Hb_of HBB.out) HKc.out
      have HNc := Aside0.mk (show wc.heap[w.heap.size + 1]? = some (.cells #[.bool lf, .slice B n.it.length cb] 77) from (HKc.out.2 _ (blk_lt HN1.out) (by have := HBL.out; omega) (by simp)).trans HN1.out)
      have n0 := (blk_cell HNc.out 0).trans (show _ = some (Value.bool lf) from rfl)
      have n1 := (blk_cell HNc.out 1).trans (show _ = some (Value.slice B n.it.length cb) from rfl)
      have HWI := Aside0.mk (nodeWith_walk B M cb cm i gone2 n.it more2 l2 wc hrowB HCC.out.2 HMc.out HWL.out.1)
      have HSPL := Aside0.mk HWL.out.2.1
      clear hrowB
      go_wp2_with (first | (go_at_call 59; (with_reducible refine HWI.out.mono ?_); rintro e w4 ⟨Bw, cbw, rfl, hcw, hrw, hb4⟩; have HB4 := Aside0.mk hb4; have HRW := Aside0.mk (And.intro hcw hrw); clear hcw hrw hb4) | (go_at_call 70; (with_reducible refine (split_walk Bw cbw l2 rows2 _ HRW.out.2 HRW.out.1 HSPL.out).mono ?_); rintro e ws ⟨Bs, cbs, ts, rfl, hsl, hrc, hb5⟩; have HB5 := Aside0.mk (below_step HB4.out hb5); have HSL := Aside0.mk hsl; have HRC := Aside0.mk hrc; clear hsl hrc hb5) | fail)
      have HBBs := Aside0.mk (blk_below HBBc.out HB5.out)
      have HHs := Aside0.mk (Kd.C_below HHc.out.2 HB5.out)
      have HNs := Aside0.mk (blk_below HNc.out HB5.out)
      have hlay := HWL.out.2.2
      have hr2 := splitO_len HSPL.out
      have m0 := (blk_cell HNs.out 0).trans (show _ = some (Value.bool lf) from rfl)
      clear n0 n1
      rcases rows2 with _ | ⟨s1, rest⟩
      · unfold layO at hlay
        simp only [Option.some.injEq, Prod.mk.injEq] at hlay
        obtain ⟨rfl, rfl⟩ := hlay
        clear hr2
        refine wp_loop_rounds 1 ?_
        rw [rounds_succ]; go_wp2
        go_ret
        exact ⟨⟨none, 0, rfl, Nat.le_refl _, Kd.C_nil _ _⟩, ⟨A1, c1, HBBs.out, HHc.out.1, HHs.out⟩, keep_trans (KeepBut.of_below HB0.out b none) (keep_trans HKc.out (KeepBut.of_below HB5.out b none)), S3.trans (S3.below HB0.out) (S3.trans HKc0.out.2 (S3.below HB5.out))⟩
      rcases s1 with _ | ⟨x1, s1⟩
      · unfold layO at hlay; cases hlay
      obtain ⟨g1, p1, er1, l3, hal1, hlay2, rfl⟩ := layO_inv hlay
      rcases ts with _ | ⟨⟨B1, n1, cb1⟩, ts⟩
      · exact HRC.out.elim
      obtain ⟨⟨rfl, hcb1, hrow1⟩, hrc2⟩ := HRC.out
      have HRC2 := Aside0.mk hrc2
      have HLAY1 := Aside0.mk (growLay_walk A1 B1 D c1 cb1 d b h2 g1 lf x1 s1 held2 p1 er1 ws ws HBBs.out HHs.out (Below.refl _ _) HHc.out.1 hrow1 hcb1 (HDc.out ws (KeepBut.of_below HB5.out b none)) hal1)
      have HL2 := Aside0.mk hlay2
      have HR2 := Aside0.mk hr2
      obtain ⟨sa, tt, rfl, htt, hs0⟩ := at_sl HSL.out 0 (by simp)
      obtain rfl : (B1, (x1 :: s1).length, cb1) = tt := by simpa using htt
      have hs0' : ws.cell? sa = some (.slice B1 (x1 :: s1).length cb1) := by
        have e0 : sa.add 0 = sa := by simp [Addr.add]
        rw [e0] at hs0
        exact hs0
      obtain ⟨rl1, hrl1⟩ : ∃ rl1, rl1 = (x1 :: s1).length := ⟨_, rfl⟩
      rw [← hrl1] at HLAY1 hs0'
      rcases rest with _ | ⟨s2, rest⟩
      · unfold layO at hlay2
        simp only [Option.some.injEq, Prod.mk.injEq] at hlay2
        obtain ⟨rfl, rfl⟩ := hlay2
        clear hr2 hlay hal1 hrow1 hrc2 htt hs0 hrl1 hcb1
        refine wp_loop_rounds 2 ?_
        rw [rounds_succ]
        go_wp2_with (first | (go_at_call 43; (with_reducible refine HLAY1.out.mono ?_); rintro e w6 ⟨rfl, ⟨A3, c3', hb6, hc6, hl6⟩, hk6, hs6⟩; have HS6 := Aside0.mk hs6; clear hs6; have HH6 := Aside0.mk (And.intro hb6 (And.intro hc6 hl6)); have HK6 := Aside0.mk hk6; clear hb6 hc6 hl6 hk6) | ((with_reducible refine gate_builtin (b := .append) (xs := #[.tmp 63, .tmp 71]) rfl ?_); at_builtin; refine Kd.R_append kIt (w0 := w6) w6.heap.size rfl (.tmp 63) (.tmp 71) 27 26 (.agg #[.int .i64 0, .int .i64 0]) 16 rfl Try.underlying27 info_it rfl (by decide) (by decide) _ [] ⟨x1.k, p1⟩ [.int .i64 x1.k, .int .i64 p1] (fun k => w6.heap.size ≤ k) (fun _ => False) rfl rfl (itM _ _ _ ⟨x1.k, p1⟩) (fun _ h => h.elim) (fun _ h => h) (Kd.R_nil _ _ _ _ _) (Below.refl _ _) (Nat.le_refl _) (by simp) ?_; intro v1 w7 ho hb hg hat; have HO7 := Aside0.mk (show Kd.R kIt 26 w7 w6.heap.size (fun k => w6.heap.size ≤ k) v1 [⟨x1.k, p1⟩] from ho); have HB7 := Aside0.mk hb; clear ho hb hg hat) | fail)
        rw [rounds_succ]; go_wp2
        go_ret
        obtain ⟨M3, c3, rfl⟩ := Kd.R_slice HO7.out
        have h9 := Kd.R_reads' HO7.out
        exact ⟨⟨M3, c3, rfl, h9.2.1, h9.2.2⟩, ⟨A3, c3', blk_below HH6.out.1 HB7.out, HH6.out.2.1, Kd.C_below HH6.out.2.2.now HB7.out⟩, keep_trans (keep_trans (KeepBut.of_below HB0.out b none) (keep_trans HKc.out (KeepBut.of_below HB5.out b none))) (keep_trans HK6.out (KeepBut.of_below HB7.out b none)), S3.trans (S3.trans (S3.below HB0.out) (S3.trans HKc0.out.2 (S3.below HB5.out))) (S3.trans HS6.out (S3.below HB7.out))⟩
      rcases s2 with _ | ⟨x2, s2⟩
      · unfold layO at hlay2; cases hlay2
      obtain ⟨g2, p2, er2, l4, hal2, hlay3, rfl⟩ := layO_inv hlay2
      rcases rest with _ | ⟨s3, rest⟩
      · unfold layO at hlay3
        simp only [Option.some.injEq, Prod.mk.injEq] at hlay3
        obtain ⟨rfl, rfl⟩ := hlay3
        rcases ts with _ | ⟨⟨B2, n2, cb2⟩, ts⟩
        · exact HRC2.out.elim
        obtain ⟨⟨rfl, hcb2, hrow2⟩, _⟩ := HRC2.out
        obtain ⟨sa2, tt2, hsa, htt2, hs1⟩ := at_sl HSL.out 1 (by simp)
        cases hsa
        obtain rfl : (B2, (x2 :: s2).length, cb2) = tt2 := by simpa using htt2
        have hne : sa.block ≠ b := fun e => Hb_sl (Hb_of HBBs.out) sa (B1, rl1, cb1) (B2, (x2 :: s2).length, cb2) e hs0' hs1
        have HNE := Aside0.mk hne
        have HS1 := Aside0.mk hs1
        have HROW2 := Aside0.mk (And.intro hcb2 (And.intro hrow2 hal2))
        have HDD := Aside0.mk (fun (W : World) (hk : KeepBut ws W b none) => HDc.out W (keep_trans (KeepBut.of_below HB5.out b none) hk))
        obtain ⟨rl2, hrl2⟩ : ∃ rl2, rl2 = (x2 :: s2).length := ⟨_, rfl⟩
        have HRL2 := Aside0.mk hrl2
        clear hr2 hlay hal1 hrow1 hrc2 htt hs0 hrl1 hcb1 hcb2 hrow2 htt2 hs1 hne hlay2 hal2 hrl2
        refine wp_loop_rounds 3 ?_
        rw [rounds_succ]
        go_wp2_with (first | (go_at_call 43; (with_reducible refine HLAY1.out.mono ?_); rintro e w6 ⟨rfl, ⟨A3, c3', hb6, hc6, hl6⟩, hk6, hs6⟩; have HS6 := Aside0.mk hs6; clear hs6; have HH6 := Aside0.mk (And.intro hb6 (And.intro hc6 hl6)); have HK6 := Aside0.mk hk6; clear hb6 hc6 hl6 hk6) | ((with_reducible refine gate_builtin (b := .append) (xs := #[.tmp 63, .tmp 71]) rfl ?_); at_builtin; refine Kd.R_append kIt (w0 := w6) w6.heap.size rfl (.tmp 63) (.tmp 71) 27 26 (.agg #[.int .i64 0, .int .i64 0]) 16 rfl Try.underlying27 info_it rfl (by decide) (by decide) _ [] ⟨x1.k, p1⟩ [.int .i64 x1.k, .int .i64 p1] (fun k => w6.heap.size ≤ k) (fun _ => False) rfl rfl (itM _ _ _ ⟨x1.k, p1⟩) (fun _ h => h.elim) (fun _ h => h) (Kd.R_nil _ _ _ _ _) (Below.refl _ _) (Nat.le_refl _) (by simp) ?_; intro v1 w7 ho hb hg hat; have HO7 := Aside0.mk (show Kd.R kIt 26 w7 w6.heap.size (fun k => w6.heap.size ≤ k) v1 [⟨x1.k, p1⟩] from ho); have HB7 := Aside0.mk hb; clear ho hb hg hat) | fail)
        have hbl6 : b < w6.heap.size := by have h1 := blk_lt HH6.out.1; exact h1
        have HBL6 := Aside0.mk hbl6
        have u1 := bcell HB7.out (keep_cell HK6.out HS1.out (by rw [add_block]; exact HNE.out))
        have u2 := bcell HB7.out (keep_cell HK6.out m0 (by have := HBL.out; show w.heap.size + 1 ≠ b; omega))
        have hlay2 := growLay_walk A3 B2 D c3' cb2 d b g1 g2 lf x2 s2 held2 p2 er2 w6 w7 (blk_below HH6.out.1 HB7.out) HH6.out.2.2.now HB7.out HH6.out.2.1 (it_keep HROW2.out.2.1 (Hb_of HBBs.out) HK6.out) HROW2.out.1 (HDD.out w7 (keep_trans HK6.out (KeepBut.of_below HB7.out b none))) HROW2.out.2.2
        rw [← HRL2.out] at u1 hlay2
        rw [show sa.add 1 = ⟨sa.block, sa.off + 1, none⟩ by unfold Addr.add; simp] at u1
        have HLAY2 := Aside0.mk hlay2
        clear hlay2 hbl6 m0 hs0'
        rw [rounds_succ]
        go_wp2_with (first | (go_at_call 43; (with_reducible refine HLAY2.out.mono ?_); rintro e w8 ⟨rfl, ⟨A4, c4', hb8, hc8, hl8⟩, hk8, hs8⟩; have HS8 := Aside0.mk hs8; clear hs8; have HH8 := Aside0.mk (And.intro hb8 (And.intro hc8 hl8)); have HK8 := Aside0.mk hk8; clear hb8 hc8 hl8 hk8) | ((with_reducible refine gate_builtin (b := .append) (xs := #[.tmp 63, .tmp 71]) rfl ?_); at_builtin; refine Kd.R_append kIt (w0 := w8) w6.heap.size rfl (.tmp 63) (.tmp 71) 27 26 (.agg #[.int .i64 0, .int .i64 0]) 16 rfl Try.underlying27 info_it rfl (by decide) (by decide) _ [⟨x1.k, p1⟩] ⟨x2.k, p2⟩ [.int .i64 x2.k, .int .i64 p2] (fun k => w6.heap.size ≤ k) (fun _ => False) rfl rfl (itM _ _ _ ⟨x2.k, p2⟩) (fun _ h => h.elim) (fun k h => Nat.le_trans (Nat.le_trans HB7.out.size HK8.out.1) h) (Kd.R_kept HO7.out (S := fun k => k = b) ⟨HK8.out.1, fun i hi hn => HK8.out.2 i hi hn (by simp)⟩ (fun k hk e => by have := HBL6.out; omega)) (Below.refl _ _) (Nat.le_trans HB7.out.size HK8.out.1) (by simp) ?_; intro v2 w9 ho hb hg hat; have HO9 := Aside0.mk (show Kd.R kIt 26 w9 w6.heap.size (fun k => w6.heap.size ≤ k) v2 [⟨x1.k, p1⟩, ⟨x2.k, p2⟩] from ho); have HG9 := Aside0.mk hg; clear ho hb hg hat) | fail)
        rw [rounds_succ]; go_wp2
        go_ret
        obtain ⟨M3, c3, rfl⟩ := Kd.R_slice HO9.out
        have h9 := Kd.R_reads' HO9.out
        have hbo : some b ≠ v1.ownBlock := fun e => by have := Kd.R_base HO7.out b e.symm; have := HBL6.out; omega
        refine ⟨⟨M3, c3, rfl, h9.2.1, h9.2.2⟩, ⟨A4, c4', (HG9.out.block b (blk_lt HH8.out.1) hbo).trans HH8.out.1, HH8.out.2.1, HH8.out.2.2 w9 ⟨HG9.out.size, fun i hi hn => HG9.out.block i hi (fun e => hn ⟨Kd.R_base HO7.out i e.symm, Kd.R_lt HO7.out i e.symm⟩)⟩⟩, ?_, S3.trans (S3.trans (S3.trans (S3.below HB0.out) (S3.trans HKc0.out.2 (S3.below HB5.out))) (S3.trans HS6.out (S3.below HB7.out))) (S3.trans HS8.out (S3.grown HG9.out))⟩
        exact ⟨by
            have h1 := HB0.out.size; have h2 := HKc.out.1; have h3 := HB5.out.size; have h4 := HK6.out.1; have h5 := HB7.out.size; have h6 := HK8.out.1; have h7 := HG9.out.size; omega, fun i hi hn _ => by
            have hk8 : KeepBut w w8 b none := keep_trans (keep_trans (KeepBut.of_below HB0.out b none) (keep_trans HKc.out (KeepBut.of_below HB5.out b none))) (keep_trans HK6.out (keep_trans (KeepBut.of_below HB7.out b none) HK8.out))
            refine (HG9.out.block i (Nat.lt_of_lt_of_le hi hk8.1) (fun e => ?_)).trans (hk8.2 i hi hn (by simp))
            have h0 := Kd.R_base HO7.out i e.symm
            have h1 := HB0.out.size; have h2 := HKc.out.1; have h3 := HB5.out.size; have h4 := HK6.out.1; omega⟩
      · simp at hr2
end Go.Proofs.Ytopkoganfnabgaa.H
namespace Go.Proofs.Ytopkoganfnabgaa.H
open Go.RowKit Go.Proofs.YtopkoganfnabgaaW.PrintWords Go.Proofs.YtopkoganfnabgaaW.PrintLast Go.Proofs.YtopkoganfnabgaaW.PrintMore
attribute [local go_sem] max2_int min2_int max_two min_two max_three min_three max_four min_four
set_option linter.unusedVariables false
set_option linter.unusedSimpArgs false
end Go.Proofs.Ytopkoganfnabgaa.H
namespace Go.Proofs.Ytopkoganfnabgaa.H
open Go.RowKit Go.Proofs.YtopkoganfnabgaaW.PrintWords Go.Proofs.YtopkoganfnabgaaW.PrintLast Go.Proofs.YtopkoganfnabgaaW.PrintMore
attribute [local go_sem] max2_int min2_int max_two min_two max_three min_three max_four min_four
set_option linter.unusedVariables false
set_option linter.unusedSimpArgs false
end Go.Proofs.Ytopkoganfnabgaa.H
namespace Go.Proofs.Ytopkoganfnabgaa.H
open Go.RowKit Go.Proofs.YtopkoganfnabgaaW.PrintWords Go.Proofs.YtopkoganfnabgaaW.PrintLast Go.Proofs.YtopkoganfnabgaaW.PrintMore
attribute [local go_sem] max2_int min2_int max_two min_two max_three min_three max_four min_four
set_option linter.unusedVariables false
set_option linter.unusedSimpArgs false
set_option maxHeartbeats 4000000 in
set_option maxRecDepth 100000 in
/-- grow.settled: b is the builder's block. -/
theorem growSettled_walk (f : Nat) (A : Option Addr) (c b : Nat) (h h' : Hp) (k p old q er : Int) (w : World) (hbb : w.heap[b]? = some (.cells #[.slice A h.c.length c, .int .i64 h.keep] 86 (0, 0))) (hr : kCl.C w A h.c.length h.c) (hl : h.c.length ≤ 2000) (hcc : h.c.length ≤ c) (e : settledO f h p old = some (h', q, er)) :
    Calls Try.prog 42 #[.pointer (some ⟨b, 0, none⟩), .agg #[.int .i64 k, .int .i64 p], .int .i64 old] w fun e w' => ∃ B cb, e = .returned (.tuple #[.agg #[.slice B h'.c.length cb, .int .i64 h'.keep], .int .i64 q, .int .i64 er]) ∧ h'.c.length ≤ cb ∧ kCl.C w' B h'.c.length h'.c ∧ KeepBut w w' b none ∧ S3 w w' := by
  obtain ⟨W1, hW1⟩ : ∃ W1, W1 = (w.alloc (.cells #[.int .i64 k, .int .i64 p] 26)).alloc (.cells #[.slice none 0 0, .int .i64 0] 24) := ⟨_, rfl⟩
  have HB0 := Aside0.mk (show Below w.heap.size w W1 by rw [hW1]; exact below_alloc (below_alloc (Below.refl _ _) _) _)
  have HI1 := Aside0.mk (show W1.heap[w.heap.size]? = some (.cells #[.int .i64 k, .int .i64 p] 26) by rw [hW1]; exact blk_alloc (blk_new w _) _)
  have HR1 := Aside0.mk (show W1.heap[w.heap.size + 1]? = some (.cells #[.slice none 0 0, .int .i64 0] 24) by rw [hW1]; exact blk2 w _ _)
  have HBB := Aside0.mk (blk_below hbb HB0.out)
  have HBL := Aside0.mk (blk_lt hbb)
  have HNE := Aside0.mk (show (b ≠ w.heap.size + 1) ∧ (w.heap.size ≠ w.heap.size + 1) by have := HBL.out; omega)
  have HC1 := Aside0.mk (And.intro hcc (Kd.C_below hr HB0.out))
  have hW1' := Aside0.mk hW1
  have c0 := (blk_cell HBB.out 0).trans (show _ = some (Value.slice A h.c.length c) from rfl)
  have c1 := (blk_cell HBB.out 1).trans (show _ = some (Value.int .i64 h.keep) from rfl)
  have n1 := (blk_cell HI1.out 1).trans (show _ = some (Value.int .i64 p) from rfl)
  have c2 := (blk_cell HR1.out 0).trans (show _ = some (Value.slice none 0 0) from rfl)
  have c3 := (blk_cell HR1.out 1).trans (show _ = some (Value.int .i64 0) from rfl)
  have f2 := blk_frozen HR1.out 0
  have f3 := blk_frozen HR1.out 1
  unfold settledO at e
  by_cases ho : 0 ≤ old
  · rw [if_pos ho] at e
    cases hlo : looseH f h old with
    | none => rw [hlo] at e; cases e
    | some g =>
      obtain ⟨g, ge⟩ := g
      rw [hlo] at e
      simp only [Option.map_some, Option.some.injEq, Prod.mk.injEq] at e
      obtain ⟨rfl, rfl, rfl⟩ := e
      have HLO := Aside0.mk (fun (W : World) (hb : Below W1.heap.size W1 W) => heapLoose_walk f A c h g old ge W (Kd.C_below HC1.out.2 hb) hl hcc hlo)
      have r1 : decide (0 ≤ old) = true := decide_eq_true ho
      clear hW1 hbb hr hl hcc hlo ho
      go_enter Try.func42, Try.ntmps42
      go_upto_region 1 with (fail)
      rw [← hW1'.out]
      have f0 := blk_frozen HBB.out 0
      have f1 := blk_frozen HBB.out 1
      go_upto_region 3 with (first | (go_at_call 60; (with_reducible refine (HLO.out _ (by repeat (first | (with_reducible exact Below.refl _ _) | (with_reducible refine below_alloc ?_ _) | (with_reducible refine below_drew1 ?_) | (with_reducible refine pw_below_drewN ?_ _) | (with_reducible exact Below.refl _ _)))).mono ?_); rintro e w2 ⟨B, cb, rfl, hcb, hk2, hb2⟩; have HK2 := Aside0.mk (And.intro hcb hk2); have HB2 := Aside0.mk hb2; have HBB2 := Aside0.mk (blk_below HBB.out hb2); have d0 := bcell hb2 c0; have d1 := bcell hb2 c1; have g0 := blk_frozen HBB2.out 0; have g1 := blk_frozen HBB2.out 1; clear hcb hk2 hb2) | fail)
      obtain ⟨W3, hW3⟩ : ∃ W3, W3 = ((w2.setCell ⟨b, 0, none⟩ (.slice B g.c.length cb)).setCell ⟨b, 1, none⟩ (.int .i64 g.keep)) := ⟨_, rfl⟩
      have HBB3 := Aside0.mk (show W3.heap[b]? = some (.cells #[.slice B g.c.length cb, .int .i64 g.keep] 86) by rw [hW3]; exact hb_store HBB2.out)
      have HI3 := Aside0.mk (show W3.heap[w.heap.size]? = some (.cells #[.int .i64 k, .int .i64 p] 26) by rw [hW3]; exact blk_far (blk_far (blk_below HI1.out HB2.out) (by have := HBL.out; show w.heap.size ≠ b; omega) _) (by have := HBL.out; show w.heap.size ≠ b; omega) _)
      have HR3 := Aside0.mk (show W3.heap[w.heap.size + 1]? = some (.cells #[.slice none 0 0, .int .i64 0] 24) by rw [hW3]; exact blk_far (blk_far (blk_below HR1.out HB2.out) (by have := HBL.out; show w.heap.size + 1 ≠ b; omega) _) (by have := HBL.out; show w.heap.size + 1 ≠ b; omega) _)
      have HC3 := Aside0.mk (show kCl.C W3 B g.c.length g.c by rw [hW3]; exact cl_store HK2.out.2 HBB2.out)
      have HK3 := Aside0.mk (show KeepBut w W3 b none by rw [hW3]; exact keep_trans (KeepBut.of_below (below_step HB0.out HB2.out) b none) (((KeepBut.refl w2 b none).set_ 0 _).set_ 1 _))
      have HS3 := Aside0.mk (show S3 w W3 by rw [hW3]; exact S3.set (S3.set (S3.below (below_step HB0.out HB2.out)) _ _) _ _)
      rw [← hW3]
      have e0 := (blk_cell HBB3.out 0).trans (show _ = some (Value.slice B g.c.length cb) from rfl)
      have e1 := (blk_cell HBB3.out 1).trans (show _ = some (Value.int .i64 g.keep) from rfl)
      have e2 := (blk_cell HI3.out 1).trans (show _ = some (Value.int .i64 p) from rfl)
      have e3 := (blk_cell HR3.out 0).trans (show _ = some (Value.slice none 0 0) from rfl)
      have e4 := (blk_cell HR3.out 1).trans (show _ = some (Value.int .i64 0) from rfl)
      have k0 := blk_frozen HR3.out 0
      have k1 := blk_frozen HR3.out 1
      clear d0 d1 g0 g1 c0 c1 n1 c2 c3 f0 f1 f2 f3 hW3
      go_region_held3 (fun w' => w'.cell? ⟨b, 0, none⟩ = some (.slice B g.c.length cb) ∧ w'.cell? ⟨b, 1, none⟩ = some (.int .i64 g.keep) ∧ w'.cell? ⟨w.heap.size, 1, none⟩ = some (.int .i64 p)) (first | exact ⟨e0, e1, e2⟩ | exact ⟨(cell_far HNE.out.1 _).trans ((cell_far HNE.out.1 _).trans e0), (cell_far HNE.out.1 _).trans ((cell_far HNE.out.1 _).trans e1), (cell_far HNE.out.2 _).trans ((cell_far HNE.out.2 _).trans e2)⟩) (fail)
      all_goals
        go_wp2
        refine bodyPost_ret (results_ctt rfl _ _ (w.heap.size + 1) 24 #[.slice B g.c.length cb, .int .i64 g.keep] (0, 0) _ rfl (hb_store HR3.out) Try.underlying24 rfl (by kernel_rfl)) rfl ?_
        exact ⟨B, cb, rfl, HK2.out.1, cl_store (w := W3) HC3.out HR3.out, keep_far (keep_far HK3.out (by show w.heap.size ≤ w.heap.size + 1; omega) _) (by show w.heap.size ≤ w.heap.size + 1; omega) _, HS3.out⟩
  · rw [if_neg ho] at e
    simp only [Option.some.injEq, Prod.mk.injEq] at e
    obtain ⟨rfl, rfl, rfl⟩ := e
    have r1 : decide (0 ≤ old) = false := decide_eq_false ho
    clear hW1 hbb hr hl hcc ho
    go_enter Try.func42, Try.ntmps42
    go_upto_region 1 with (fail)
    rw [← hW1'.out]
    go_upto_region 3 with (fail)
    go_region_held3 (fun w' => w'.cell? ⟨b, 0, none⟩ = some (.slice A h.c.length c) ∧ w'.cell? ⟨b, 1, none⟩ = some (.int .i64 h.keep) ∧ w'.cell? ⟨w.heap.size, 1, none⟩ = some (.int .i64 p)) (first | exact ⟨c0, c1, n1⟩ | exact ⟨(cell_far HNE.out.1 _).trans ((cell_far HNE.out.1 _).trans c0), (cell_far HNE.out.1 _).trans ((cell_far HNE.out.1 _).trans c1), (cell_far HNE.out.2 _).trans ((cell_far HNE.out.2 _).trans n1)⟩) (fail)
    all_goals
      go_wp2
      refine bodyPost_ret (results_ctt rfl _ _ (w.heap.size + 1) 24 #[.slice A h.c.length c, .int .i64 h.keep] (0, 0) _ rfl (hb_store HR1.out) Try.underlying24 rfl (by kernel_rfl)) rfl ?_
      exact ⟨A, c, rfl, HC1.out.1, cl_store (w := W1) HC1.out.2 HR1.out, keep_far (keep_far (KeepBut.of_below HB0.out b none) (by show w.heap.size ≤ w.heap.size + 1; omega) _) (by show w.heap.size ≤ w.heap.size + 1; omega) _, (S3.below HB0.out : S3 w W1)⟩
end Go.Proofs.Ytopkoganfnabgaa.H
namespace Go.Proofs.Ytopkoganfnabgaa.H
open Go.RowKit Go.Proofs.YtopkoganfnabgaaW.PrintWords Go.Proofs.YtopkoganfnabgaaW.PrintLast Go.Proofs.YtopkoganfnabgaaW.PrintMore
attribute [local go_sem] max2_int min2_int max_two min_two max_three min_three max_four min_four
set_option linter.unusedVariables false
set_option linter.unusedSimpArgs false
set_option maxHeartbeats 4000000 in
set_option maxRecDepth 100000 in
/-- grow.Over. -/
theorem growOver_walk (A B : Option Addr) (c cb : Nat) (h h' : Hp) (l : List It) (p er : Int) (w : World) (hr : kCl.C w A h.c.length h.c) (hcc : h.c.length ≤ c) (hn : kIt.C w B l.length l) (hnb : l.length ≤ cb) (hl : l.length ≤ 1000) (e : overO h l = some (h', p, er)) :
    Calls Try.prog 15 #[.agg #[.slice A h.c.length c, .int .i64 h.keep], .slice B l.length cb] w fun e w' => ∃ B' cb', e = .returned (.tuple #[.agg #[.slice B' h'.c.length cb', .int .i64 h'.keep], .int .i64 p, .int .i64 er]) ∧ h'.c.length ≤ cb' ∧ kCl.C w' B' h'.c.length h'.c ∧ Below w.heap.size w w' := by
  obtain ⟨W1, hW1⟩ : ∃ W1, W1 = (w.alloc (.cells #[.slice A h.c.length c, .int .i64 h.keep] 24)).alloc (.cells #[.slice none 0 0, .int .i64 0] 24) := ⟨_, rfl⟩
  have HB0 := Aside0.mk (show Below w.heap.size w W1 by rw [hW1]; exact below_alloc (below_alloc (Below.refl _ _) _) _)
  have HH1 := Aside0.mk (show W1.heap[w.heap.size]? = some (.cells #[.slice A h.c.length c, .int .i64 h.keep] 24) by rw [hW1]; exact blk_alloc (blk_new w _) _)
  have HR1 := Aside0.mk (show W1.heap[w.heap.size + 1]? = some (.cells #[.slice none 0 0, .int .i64 0] 24) by rw [hW1]; exact blk2 w _ _)
  have c0 := (blk_cell HH1.out 0).trans (show _ = some (Value.slice A h.c.length c) from rfl)
  have c1 := (blk_cell HH1.out 1).trans (show _ = some (Value.int .i64 h.keep) from rfl)
  have HPL := Aside0.mk (fun (W : World) (hb : Below W1.heap.size W1 W) => growPlaces_walk B cb l W (Kd.C_below hn (below_step HB0.out hb)) hl)
  have HAL := Aside0.mk (fun (D : Option Addr) (d : Nat) (W : World) (hb : Below W1.heap.size W1 W) (hd : (Kd.int .i64).C W D (vL l).length (vL l)) => show Calls Try.prog 50 #[.agg #[.slice A h.c.length c, .int .i64 h.keep], .agg #[.bool false, .slice B l.length cb], .slice D (vL l).length d] W (fun e w' => ∃ B' cb', e = .returned (.tuple #[.agg #[.slice B' h'.c.length cb', .int .i64 h'.keep], .int .i64 p, .int .i64 er]) ∧ h'.c.length ≤ cb' ∧ Lv w W w' B' h'.c ∧ Below W.heap.size W w') from heapAlloc_walk A B D c cb d h h' ⟨false, l⟩ (vL l) p er w W hr (below_step HB0.out hb) hcc hn hnb hd e)
  have hW1' := Aside0.mk hW1
  have HNE := Aside0.mk (show w.heap.size ≠ w.heap.size + 1 by omega)
  clear hW1 hr hcc hn hnb hl e
  go_enter Try.func15, Try.ntmps15
  go_upto_region 1 with (fail)
  rw [← hW1'.out]
  go_region_held3 (fun w' => w'.cell? ⟨w.heap.size, 0, none⟩ = some (.slice A h.c.length c) ∧ w'.cell? ⟨w.heap.size, 1, none⟩ = some (.int .i64 h.keep)) (first | exact ⟨c0, c1⟩ | exact ⟨bcell HB3.out c0, bcell HB3.out c1⟩ | exact ⟨(cell_far HNE.out _).trans ((cell_far HNE.out _).trans (bcell HB3.out c0)), (cell_far HNE.out _).trans ((cell_far HNE.out _).trans (bcell HB3.out c1))⟩ | exact (fun (h : Below W1.heap.size W1 _) => ⟨bcell h c0, bcell h c1⟩) (by repeat (first | (with_reducible exact Below.refl _ _) | (with_reducible refine below_alloc ?_ _) | (with_reducible refine below_drew1 ?_) | (with_reducible refine pw_below_drewN ?_ _) | (with_reducible exact HB2.out)))) (first | (go_at_call 51; (with_reducible refine (HPL.out _ (by repeat (first | (with_reducible exact Below.refl _ _) | (with_reducible refine below_alloc ?_ _) | (with_reducible refine below_drew1 ?_) | (with_reducible refine pw_below_drewN ?_ _) | (with_reducible exact Below.refl _ _)))).mono ?_); rintro e w2 ⟨D, d, rfl, hd, hb2⟩; have HD := Aside0.mk hd; have HB2 := Aside0.mk (show Below W1.heap.size W1 w2 from below_step (by repeat (first | (with_reducible exact Below.refl _ _) | (with_reducible refine below_alloc ?_ _) | (with_reducible refine below_drew1 ?_) | (with_reducible refine pw_below_drewN ?_ _) | (with_reducible exact Below.refl _ _))) hb2); clear hd hb2) | (go_at_call 50; (with_reducible refine (HAL.out D d _ (by repeat (first | (with_reducible exact Below.refl _ _) | (with_reducible refine below_alloc ?_ _) | (with_reducible refine below_drew1 ?_) | (with_reducible refine pw_below_drewN ?_ _) | (with_reducible exact HB2.out))) (HD.out _ (by first | exact Kept.refl _ _ | exact Kept.of_below (below_drew (Below.refl _ _)) _))).mono ?_); rintro e w3 ⟨A', c', rfl, hc', hs', hb3⟩; have HB3 := Aside0.mk (show Below W1.heap.size W1 w3 from below_step (by repeat (first | (with_reducible exact Below.refl _ _) | (with_reducible refine below_alloc ?_ _) | (with_reducible refine below_drew1 ?_) | (with_reducible refine pw_below_drewN ?_ _) | (with_reducible exact HB2.out))) hb3); have HS := Aside0.mk (And.intro hc' hs'.now); have HBR := Aside0.mk (blk_below HR1.out HB3.out); have e0 := (blk_cell HBR.out 0).trans (show _ = some (Value.slice none 0 0) from rfl); have e1 := (blk_cell HBR.out 1).trans (show _ = some (Value.int .i64 0) from rfl); have f0 := blk_frozen HBR.out 0; have f1 := blk_frozen HBR.out 1; clear hc' hs' hb3) | fail)
  all_goals
    go_wp2
    refine bodyPost_ret (results_ctt rfl _ _ (w.heap.size + 1) 24 #[.slice A' h'.c.length c', .int .i64 h'.keep] (0, 0) _ rfl (hb_store HBR.out) Try.underlying24 rfl (by kernel_rfl)) rfl ?_
    exact ⟨A', c', rfl, HS.out.1, cl_store HS.out.2 HBR.out, below_set (below_set (below_step HB0.out HB3.out) (by omega)) (by omega)⟩
end Go.Proofs.Ytopkoganfnabgaa.H
namespace Go.Proofs.Ytopkoganfnabgaa.H
open Go.RowKit Go.Proofs.YtopkoganfnabgaaW.PrintWords Go.Proofs.YtopkoganfnabgaaW.PrintLast Go.Proofs.YtopkoganfnabgaaW.PrintMore
attribute [local go_sem] max2_int min2_int max_two min_two max_three min_three max_four min_four
set_option linter.unusedVariables false
set_option linter.unusedSimpArgs false
set_option maxHeartbeats 2000000 in
set_option maxRecDepth 100000 in
theorem high_walk (f : Nat) (A : Option Addr) (c : Nat) (h : Hp) (p : Int) (n : Nat) (w : World) (hf : f ≤ 1000) (hr : kCl.C w A h.c.length h.c) (e : highO f h p = some n) :
    Calls Try.prog 38 #[.agg #[.slice A h.c.length c, .int .i64 h.keep], .int .i64 p] w fun e w' => e = .returned (.int .i64 (n : Nat)) ∧ Below w.heap.size w w' := by
  have hm := Kd.C_max hr
  have hn := highO_le f h p n e
  obtain ⟨W1, hW1⟩ : ∃ W1, W1 = w.alloc (.cells #[.slice A h.c.length c, .int .i64 h.keep] 24) := ⟨_, rfl⟩
  have HB0 := Aside0.mk (show Below w.heap.size w W1 by rw [hW1]; exact below_alloc (Below.refl _ _) _)
  have HBH := Aside0.mk (show W1.heap[w.heap.size]? = some (.cells #[.slice A h.c.length c, .int .i64 h.keep] 24) by rw [hW1]; exact blk_new w _)
  have HR1 := Aside0.mk (Kd.C_below hr HB0.out)
  have hW1' := Aside0.mk hW1
  have HE := Aside0.mk e
  have HN := Aside0.mk (show n ≤ 1000 by omega)
  clear hr hW1 e hn
  go_enter Try.func38, Try.ntmps38
  go_wp2
  rw [← hW1'.out]
  go_loopg [5, 6] f (fun g s5 s6 wr => ∃ (k m : Nat) (q : Int), s5 = .int .i64 k ∧ s6 = .int .i64 q ∧ Aside0 (highO g h q = some m ∧ k + m = n) ∧ Aside0 (Below W1.heap.size W1 wr))
  case atStart => exact ⟨0, n, p, rfl, rfl, ⟨HE.out, by omega⟩, ⟨Below.refl _ _⟩⟩
  case round =>
    obtain ⟨k, m, q, rfl, rfl, HQ, HB⟩ := hrel
    have b0 := (blk_cell (blk_below HBH.out HB.out) 0).trans (show _ = some (Value.slice A h.c.length c) from rfl)
    have HBW := Aside0.mk (below_step HB0.out HB.out)
    obtain ⟨e, hkm⟩ := HQ.out
    cases gk with
    | zero => simp [highO] at e
    | succ g1 =>
    unfold highO at e
    by_cases h0 : q < 0
    · rw [if_pos h0] at e
      obtain rfl : 0 = m := by simpa using e
      have q1 : decide (0 ≤ q) = false := decide_eq_false (by omega)
      have HF := Aside0.mk (show k = n by omega)
      clear h0 e hkm
      go_wp2
      go_ret
      exact ⟨ret_i (by rw [HF.out]), HBW.out⟩
    rw [if_neg h0] at e
    by_cases hin' : inB h q = false
    · rw [hin'] at e; simp at e
    have hin : inB h q = true := by simpa using hin'
    clear hin'
    rw [if_pos hin] at e
    obtain ⟨i, rfl, hi⟩ := inB_nat hin
    rw [clAt_nat] at e
    obtain ⟨ad, B, cb, rfl, x0, x1, x2, x3, _, hB⟩ := at_cl (Kd.C_below HR1.out HB.out) i hi
    obtain ⟨x, hx⟩ : ∃ x, x = h.c.getD i zCl := ⟨_, rfl⟩
    rw [← hx] at x2 x3 hB e
    have q2 : (i < h.c.length) = True := eq_true hi
    have hk1 : wrap64 ((k : Int) + 1) = ((k + 1 : Nat) : Int) := by have := HN.out; unfold wrap64; omega
    have HK1 := Aside0.mk hk1
    obtain ⟨lf, hlf⟩ : ∃ lf, lf = x.n.leaf := ⟨_, rfl⟩
    rw [← hlf] at x2 e
    clear x0 x1 h0 hin hx hi hlf hk1 HQ
    cases lf with
    | true =>
      obtain rfl : 1 = m := by simpa using e
      have HF := Aside0.mk (show k + 1 = n by omega)
      clear e hB hkm
      go_wp2
      go_ret
      exact ⟨ret_i (by rw [HK1.out, HF.out]), by repeat (first | (with_reducible exact Below.refl _ _) | (with_reducible refine below_alloc ?_ _) | (with_reducible refine below_drew1 ?_) | (with_reducible refine pw_below_drewN ?_ _) | (with_reducible exact HBW.out))⟩
    | false =>
      rw [if_neg (by decide)] at e
      cases hit : x.n.it with
      | nil => rw [hit] at e; cases e
      | cons y r =>
        rw [hit] at e
        simp only at e
        cases hq : highO g1 h y.v with
        | none => rw [hq] at e; simp at e
        | some m' =>
          rw [hq] at e
          obtain rfl : m' + 1 = m := by simpa using e
          have hlen : 0 < x.n.it.length := by rw [hit]; simp
          obtain ⟨ad2, rfl, _, z1⟩ := at_it0 hB hlen
          rw [show itAt x.n.it 0 = y by rw [hit]; rfl] at z1
          have z2 := al1 z1
          have r1 : (0 < x.n.it.length) = True := eq_true hlen
          have r2 : ((0 : Int) < (x.n.it.length : Int)) = True := eq_true (by omega)
          have r3 : decide ((0 : Int) < (x.n.it.length : Int)) = true := decide_eq_true (by omega)
          have HQ2 := Aside0.mk (show highO g1 h y.v = some m' ∧ k + 1 + m' = n from ⟨hq, by omega⟩)
          clear e hit hq hlen hB hkm
          go_wp2
          go_roundg g1
          case measure => omega
          case rel => exact ⟨k + 1, m', y.v, by rw [HK1.out], rfl, HQ2, ⟨by repeat (first | (with_reducible exact Below.refl _ _) | (with_reducible refine below_alloc ?_ _) | (with_reducible refine below_drew1 ?_) | (with_reducible refine pw_below_drewN ?_ _) | (with_reducible exact HB.out))⟩⟩
end Go.Proofs.Ytopkoganfnabgaa.H
namespace Go.Proofs.Ytopkoganfnabgaa.H
open Go.RowKit Go.Proofs.YtopkoganfnabgaaW.PrintWords Go.Proofs.YtopkoganfnabgaaW.PrintLast Go.Proofs.YtopkoganfnabgaaW.PrintMore
attribute [local go_sem] max2_int min2_int max_two min_two max_three min_three max_four min_four
set_option linter.unusedVariables false
set_option linter.unusedSimpArgs false
set_option maxHeartbeats 2000000 in
theorem fits_walk (A : Option Addr) (c : Nat) (h : Hp) (n : Int) (deep : Bool) (w : World) (hr : kCl.C w A h.c.length h.c) :
    Calls Try.prog 40 #[.agg #[.slice A h.c.length c, .int .i64 h.keep], .int .i64 n, .bool deep] w fun e w' => e = .returned (.bool (fitsH h n deep)) ∧ Below w.heap.size w w' := by
  obtain ⟨W1, hW1⟩ : ∃ W1, W1 = w.alloc (.cells #[.slice A h.c.length c, .int .i64 h.keep] 24) := ⟨_, rfl⟩
  have HB0 := Aside0.mk (show Below w.heap.size w W1 by rw [hW1]; exact below_alloc (Below.refl _ _) _)
  have HBH := Aside0.mk (show W1.heap[w.heap.size]? = some (.cells #[.slice A h.c.length c, .int .i64 h.keep] 24) by rw [hW1]; exact blk_new w _)
  have HFW := Aside0.mk (fun (W : World) (hb : Below W1.heap.size W1 W) => free_walk A c h W (Kd.C_below (Kd.C_below hr HB0.out) hb))
  have hW1' := Aside0.mk hW1
  obtain ⟨F, hF⟩ : ∃ F, F = freeN h := ⟨_, rfl⟩
  have hfit : fitsH h n deep = if deep then decide (n ≤ (F : Int)) else decide (n ≤ w64 ((F : Int) - h.keep)) := by rw [hF]; rfl
  rw [← hF] at HFW
  rw [hfit]
  have b0 := (blk_cell HBH.out 0).trans (show _ = some (Value.slice A h.c.length c) from rfl)
  have b1 := (blk_cell HBH.out 1).trans (show _ = some (Value.int .i64 h.keep) from rfl)
  clear hr hF hfit hW1
  cases deep with
  | true =>
    go_enter Try.func40, Try.ntmps40
    go_upto_region 1 with (fail)
    rw [← hW1'.out]
    go_wp2_with (first | (go_at_call 69; (with_reducible refine (HFW.out _ (by repeat (first | (with_reducible exact Below.refl _ _) | (with_reducible refine below_alloc ?_ _) | (with_reducible refine below_drew1 ?_) | (with_reducible refine pw_below_drewN ?_ _) | fail))).mono ?_); rintro e w2 ⟨rfl, hb2⟩; have HB2 := Aside0.mk (below_step HB0.out hb2); clear hb2) | fail)
    go_ret
    exact ⟨rfl, HB2.out⟩
  | false =>
    go_enter Try.func40, Try.ntmps40
    go_upto_region 1 with (fail)
    rw [← hW1'.out]
    go_wp2_with (first | (go_at_call 69; (with_reducible refine (HFW.out _ (by repeat (first | (with_reducible exact Below.refl _ _) | (with_reducible refine below_alloc ?_ _) | (with_reducible refine below_drew1 ?_) | (with_reducible refine pw_below_drewN ?_ _) | fail))).mono ?_); rintro e w2 ⟨rfl, hb2⟩; have HB2 := Aside0.mk (below_step HB0.out hb2); have d1 := bcell hb2 b1; clear hb2) | fail)
    go_ret
    exact ⟨ret_b (by rw [w64_eq]), HB2.out⟩
def smallC (c : Cl) : Bool := decide (c.n.it.length ≤ 10) && decide (c.ref ≤ 1000000)
def smallB (h : Hp) (most : Nat) : Bool := decide (h.c.length ≤ most) && h.c.all smallC
def mayB (h : Hp) (most : Nat) : Bool := smallB h most && rightB h
set_option maxHeartbeats 2000000 in
set_option maxRecDepth 100000 in
theorem small_walk (A : Option Addr) (c : Nat) (h : Hp) (most : Nat) (w : World) (hr : kCl.C w A h.c.length h.c) :
    Calls Try.prog 65 #[.agg #[.slice A h.c.length c, .int .i64 h.keep], .int .i64 most] w fun e w' => e = .returned (.bool (smallB h most)) ∧ Below w.heap.size w w' := by
  have hm := Kd.C_max hr
  have hsm : smallB h most = (decide (h.c.length ≤ most) && h.c.all smallC) := rfl
  have HSM := Aside0.mk hsm
  by_cases hle : most < h.c.length
  · have q1 : decide (most < h.c.length) = true := decide_eq_true hle
    have q2 : decide ((most : Int) < (h.c.length : Int)) = true := decide_eq_true (by omega)
    have HF := Aside0.mk (show smallB h most = false by rw [hsm, decide_eq_false (by omega)]; rfl)
    clear hle hsm hr
    go_enter Try.func65, Try.ntmps65
    go_wp2
    go_ret
    exact ⟨ret_b HF.out.symm, by repeat (first | (with_reducible exact Below.refl _ _) | (with_reducible refine below_alloc ?_ _) | (with_reducible refine below_drew1 ?_) | (with_reducible refine pw_below_drewN ?_ _) | fail)⟩
  · have q1 : decide (most < h.c.length) = false := decide_eq_false hle
    have q2 : decide ((most : Int) < (h.c.length : Int)) = false := decide_eq_false (by omega)
    have HLE := Aside0.mk hle
    obtain ⟨W1, hW1⟩ : ∃ W1, W1 = w.alloc (.cells #[.slice A h.c.length c, .int .i64 h.keep] 24) := ⟨_, rfl⟩
    have HB0 := Aside0.mk (show Below w.heap.size w W1 by rw [hW1]; exact below_alloc (Below.refl _ _) _)
    have HBH := Aside0.mk (show W1.heap[w.heap.size]? = some (.cells #[.slice A h.c.length c, .int .i64 h.keep] 24) by rw [hW1]; exact blk_new w _)
    have HR1 := Aside0.mk (Kd.C_below hr HB0.out)
    have hW1' := Aside0.mk hW1
    clear hr hsm hle hW1
    go_enter Try.func65, Try.ntmps65
    go_wp2
    rw [← hW1'.out]
    clear q1 q2
    go_loopg [5] h.c.length (fun g s5 wr => ∃ k : Nat, s5 = .int .i64 k ∧ k + g = h.c.length ∧ Aside0 (∀ i, i < k → smallC (h.c.getD i zCl) = true) ∧ Aside0 (wr = W1))
    case atStart => exact ⟨0, rfl, by omega, ⟨fun i h => by omega⟩, ⟨rfl⟩⟩
    case round =>
      obtain ⟨k, rfl, hk, HO, HB⟩ := hrel
      have hB := HB.out
      subst hB
      have b0 := (blk_cell HBH.out 0).trans (show _ = some (Value.slice A h.c.length c) from rfl)
      by_cases hlt : k < h.c.length
      · obtain ⟨g1, rfl⟩ : ∃ g1, gk = g1 + 1 := ⟨gk - 1, by omega⟩
        have r1 : decide (k < h.c.length) = true := decide_eq_true hlt
        have r2 : (k < h.c.length) = True := eq_true hlt
        obtain ⟨ad, B, cb, rfl, x0, x1, x2, x3, _⟩ := at_cl HR1.out k hlt
        obtain ⟨x, hx⟩ : ∃ x, x = h.c.getD k zCl := ⟨_, rfl⟩
        rw [← hx] at x0 x3
        have hsc : smallC x = (decide (x.n.it.length ≤ 10) && decide (x.ref ≤ 1000000)) := rfl
        have HX := Aside0.mk hx
        have HK := Aside0.mk (And.intro hlt hk)
        have HW := Aside0.mk (show wrap64 ((k : Int) + 1) = ((k + 1 : Nat) : Int) by unfold wrap64; omega)
        clear hx hlt hk
        by_cases e1 : 10 < x.n.it.length
        · have d1 : decide ((10 : Int) < (x.n.it.length : Int)) = true := decide_eq_true (by omega)
          have d2 : decide (10 < x.n.it.length) = true := decide_eq_true e1
          have HF := Aside0.mk (show smallB h most = false by rw [HSM.out, lall_false zCl HK.out.1 (by rw [← HX.out, hsc, decide_eq_false (by omega)]; rfl), Bool.and_false])
          clear e1 hsc
          go_wp2
          go_ret
          exact ⟨ret_b HF.out.symm, HB0.out⟩
        · have d1 : decide ((10 : Int) < (x.n.it.length : Int)) = false := decide_eq_false (by omega)
          have d2 : decide (10 < x.n.it.length) = false := decide_eq_false e1
          by_cases e2 : 1000000 < x.ref
          · have d3 : decide (1000000 < x.ref) = true := decide_eq_true e2
            have HF := Aside0.mk (show smallB h most = false by rw [HSM.out, lall_false zCl HK.out.1 (by rw [← HX.out, hsc, decide_eq_false (show ¬ x.ref ≤ 1000000 by omega), Bool.and_false]), Bool.and_false])
            clear e1 e2 hsc
            go_wp2
            go_ret
            exact ⟨ret_b HF.out.symm, HB0.out⟩
          · have d3 : decide (1000000 < x.ref) = false := decide_eq_false e2
            have HN := Aside0.mk (show smallC x = true by rw [hsc, decide_eq_true (by omega), decide_eq_true (by omega)]; rfl)
            clear e1 e2 hsc
            go_wp2
            go_roundg g1
            case measure => omega
            case rel => exact ⟨k + 1, by rw [HW.out], by have := HK.out; omega, ⟨fun i hi => by rcases Nat.lt_or_ge i k with h | h; exact HO.out i h; obtain rfl : i = k := (by omega); rw [← HX.out]; exact HN.out⟩, ⟨rfl⟩⟩
      · have r1 : decide (k < h.c.length) = false := decide_eq_false hlt
        have r2 : (k < h.c.length) = False := eq_false hlt
        have HF := Aside0.mk (show smallB h most = true by rw [HSM.out, lall_true zCl (fun i hi => HO.out i (by omega)), decide_eq_true (by have := HLE.out; omega)]; rfl)
        clear hlt hk
        go_wp2
        go_ret
        exact ⟨ret_b HF.out.symm, HB0.out⟩
theorem may05_walk (A : Option Addr) (c : Nat) (h : Hp) (most : Nat) (w : World) (hr : kCl.C w A h.c.length h.c) :
    Calls Try.prog 36 #[.agg #[.slice A h.c.length c, .int .i64 h.keep], .int .i64 most] w fun e w' => e = .returned (.bool (mayB h most)) ∧ Below w.heap.size w w' := by
  obtain ⟨W1, hW1⟩ : ∃ W1, W1 = w.alloc (.cells #[.slice A h.c.length c, .int .i64 h.keep] 24) := ⟨_, rfl⟩
  have HB0 := Aside0.mk (show Below w.heap.size w W1 by rw [hW1]; exact below_alloc (Below.refl _ _) _)
  have HBH := Aside0.mk (show W1.heap[w.heap.size]? = some (.cells #[.slice A h.c.length c, .int .i64 h.keep] 24) by rw [hW1]; exact blk_new w _)
  have HSW := Aside0.mk (fun (W : World) (hb : Below W1.heap.size W1 W) => small_walk A c h most W (Kd.C_below (Kd.C_below hr HB0.out) hb))
  have HRW := Aside0.mk (fun (W : World) (hb : Below W1.heap.size W1 W) => right05_walk A c h W (Kd.C_below (Kd.C_below hr HB0.out) hb))
  have hmay : mayB h most = (smallB h most && rightB h) := rfl
  rw [hmay]
  have b0 := (blk_cell HBH.out 0).trans (show _ = some (Value.slice A h.c.length c) from rfl)
  have b1 := (blk_cell HBH.out 1).trans (show _ = some (Value.int .i64 h.keep) from rfl)
  have hW1' := Aside0.mk hW1
  clear hr hmay hW1
  generalize smallB h most = s at HSW ⊢
  cases s with
  | false =>
    go_enter Try.func36, Try.ntmps36
    go_upto_region 1 with (fail)
    rw [← hW1'.out]
    go_wp2_with (first | (go_at_call 65; (with_reducible refine (HSW.out _ (by repeat (first | (with_reducible exact Below.refl _ _) | (with_reducible refine below_alloc ?_ _) | (with_reducible refine below_drew1 ?_) | (with_reducible refine pw_below_drewN ?_ _) | fail))).mono ?_); rintro e w2 ⟨rfl, hb2⟩; have HB2 := Aside0.mk hb2; clear hb2) | fail)
    go_ret
    exact ⟨rfl, below_step HB0.out HB2.out⟩
  | true =>
    go_enter Try.func36, Try.ntmps36
    go_upto_region 1 with (fail)
    rw [← hW1'.out]
    go_wp2_with (first | (go_at_call 65; (with_reducible refine (HSW.out _ (by repeat (first | (with_reducible exact Below.refl _ _) | (with_reducible refine below_alloc ?_ _) | (with_reducible refine below_drew1 ?_) | (with_reducible refine pw_below_drewN ?_ _) | fail))).mono ?_); rintro e w2 ⟨rfl, hb2⟩; have HB2 := Aside0.mk hb2; have d0 := bcell hb2 b0; have d1 := bcell hb2 b1; clear hb2) | (go_at_call 66; (with_reducible refine (HRW.out _ HB2.out).mono ?_); rintro e w3 ⟨rfl, hb3⟩; have HB3 := Aside0.mk (below_step HB2.out hb3); clear hb3) | fail)
    go_ret
    exact ⟨by simp, below_step HB0.out HB3.out⟩
end Go.Proofs.Ytopkoganfnabgaa.H
namespace Go.Proofs.Ytopkoganfnabgaa.H
open Go.RowKit Go.Proofs.YtopkoganfnabgaaW.PrintWords Go.Proofs.YtopkoganfnabgaaW.PrintLast Go.Proofs.YtopkoganfnabgaaW.PrintMore
attribute [local go_sem] max2_int min2_int max_two min_two max_three min_three max_four min_four
set_option linter.unusedVariables false
set_option linter.unusedSimpArgs false
/-- What Put finds. -/
structure PuSt (w W1 : World) (A : Option Addr) (c : Nat) (h : Hp) : Prop where
  b0 : Below w.heap.size w W1
  hh : W1.heap[w.heap.size]? = some (.cells #[.slice A h.c.length c, .int .i64 h.keep] 24 (0, 0))
  hr : W1.heap[w.heap.size + 1]? = some (.cells #[.slice none 0 0, .int .i64 0] 24 (0, 0))
  cl : kCl.C W1 A h.c.length h.c ∧ h.c.length ≤ c
theorem pust (w : World) (A : Option Addr) (c : Nat) (h : Hp) (hr : kCl.C w A h.c.length h.c) (hcc : h.c.length ≤ c) : PuSt w ((w.alloc (.cells #[.slice A h.c.length c, .int .i64 h.keep] 24)).alloc (.cells #[.slice none 0 0, .int .i64 0] 24)) A c h :=
  ⟨below_alloc (below_alloc (Below.refl _ _) _) _, blk_alloc (blk_new w _) _, blk2 w _ _, Kd.C_alloc (Kd.C_alloc hr _) _, hcc⟩
theorem PuSt.step {w W1 W2 : World} {A : Option Addr} {c : Nat} {h : Hp} (s : PuSt w W1 A c h) (hb : Below W1.heap.size W1 W2) : PuSt w W2 A c h := ⟨below_step s.b0 hb, blk_below s.hh hb, blk_below s.hr hb, Kd.C_below s.cl.1 hb, s.cl.2⟩
/-- The result is the given heap. -/
theorem PuSt.same {w W1 : World} {A : Option Addr} {c : Nat} {h : Hp} (s : PuSt w W1 A c h) : kCl.C ((W1.setCell ⟨w.heap.size + 1, 0, none⟩ (.slice A h.c.length c)).setCell ⟨w.heap.size + 1, 1, none⟩ (.int .i64 h.keep)) A h.c.length h.c ∧ Below w.heap.size w ((W1.setCell ⟨w.heap.size + 1, 0, none⟩ (.slice A h.c.length c)).setCell ⟨w.heap.size + 1, 1, none⟩ (.int .i64 h.keep)) :=
  ⟨cl_store s.cl.1 s.hr, below_set (below_set s.b0 (by omega)) (by omega)⟩
set_option maxHeartbeats 4000000 in
set_option maxRecDepth 100000 in
theorem putArg_walk (A : Option Addr) (c : Nat) (h : Hp) (root key val : Int) (deep : Bool) (n : Nat) (w : World) (hr : kCl.C w A h.c.length h.c) (hcc : h.c.length ≤ c) (hhi : highO 21 h root = some n) (hbad : (!fitsB key || !fitsB val) = true) :
    Calls Try.prog 13 #[.agg #[.slice A h.c.length c, .int .i64 h.keep], .int .i64 root, .int .i64 key, .int .i64 val, .bool deep] w fun e w' => ∃ B cb, e = .returned (.tuple #[.agg #[.slice B h.c.length cb, .int .i64 h.keep], .int .i64 root, .int .i64 1]) ∧ h.c.length ≤ cb ∧ kCl.C w' B h.c.length h.c ∧ Below w.heap.size w w' := by
  (obtain ⟨W1, hW1⟩ : ∃ W1, W1 = (w.alloc (.cells #[.slice A h.c.length c, .int .i64 h.keep] 24)).alloc (.cells #[.slice none 0 0, .int .i64 0] 24) := ⟨_, rfl⟩; have S1 := Aside0.mk (show PuSt w W1 A c h by (rw [hW1]; exact pust w A c h hr hcc)); have c0 := (blk_cell S1.out.hh 0).trans (show _ = some (Value.slice A h.c.length c) from rfl); have c1 := (blk_cell S1.out.hh 1).trans (show _ = some (Value.int .i64 h.keep) from rfl); have HHI := Aside0.mk (fun (W : World) (hb : Below W1.heap.size W1 W) => high_walk 21 A c h root n W (by decide) (Kd.C_below S1.out.cl.1 hb) hhi); have hW1' := Aside0.mk hW1; have HN := Aside0.mk (show n ≤ 1000 by have := highO_le 21 h root n hhi; omega); clear hr hcc hW1 hhi)
  have HFK := Aside0.mk (fun W => growFits_walk key W)
  have HFV := Aside0.mk (fun W => growFits_walk val W)
  obtain ⟨k1, hk1⟩ : ∃ k1, k1 = fitsB key := ⟨_, rfl⟩
  obtain ⟨k2, hk2⟩ : ∃ k2, k2 = fitsB val := ⟨_, rfl⟩
  rw [← hk1] at HFK hbad
  rw [← hk2] at HFV hbad
  clear hk1 hk2
  cases k1 with
  | false =>
    clear hbad
    go_enter Try.func13, Try.ntmps13
    go_upto_region 1 with (fail)
    rw [← hW1'.out]
    go_upto_region 3 with (first | (go_at_call 38; (with_reducible refine (HHI.out _ (by repeat (first | (with_reducible exact Below.refl _ _) | (with_reducible refine below_alloc ?_ _) | (with_reducible refine below_drew1 ?_) | (with_reducible refine pw_below_drewN ?_ _) | (with_reducible exact Below.refl _ _)))).mono ?_); rintro e w2 ⟨rfl, hb2⟩; have HB2 := Aside0.mk hb2; have d0 := bcell hb2 c0; have d1 := bcell hb2 c1; clear hb2) | (go_at_call 39; (with_reducible refine (HFK.out _).mono ?_); rintro e wk ⟨rfl, rfl⟩) | fail)
    have S2 := Aside0.mk (S1.out.step HB2.out)
    have e0 := (blk_cell S2.out.hr 0).trans (show _ = some (Value.slice none 0 0) from rfl)
    have e1 := (blk_cell S2.out.hr 1).trans (show _ = some (Value.int .i64 0) from rfl)
    have f0 := blk_frozen S2.out.hr 0
    have f1 := blk_frozen S2.out.hr 1
    go_wp2
    refine bodyPost_ret (results_ctt rfl _ _ (w.heap.size + 1) 24 #[.slice A h.c.length c, .int .i64 h.keep] (0, 0) _ rfl (hb_store S2.out.hr) Try.underlying24 rfl (by kernel_rfl)) rfl ?_
    exact ⟨A, c, rfl, S2.out.cl.2, S2.out.same.1, S2.out.same.2⟩
  | true =>
    obtain rfl : k2 = false := by simpa using hbad
    clear hbad
    go_enter Try.func13, Try.ntmps13
    go_upto_region 1 with (fail)
    rw [← hW1'.out]
    go_upto_region 3 with (first | (go_at_call 38; (with_reducible refine (HHI.out _ (by repeat (first | (with_reducible exact Below.refl _ _) | (with_reducible refine below_alloc ?_ _) | (with_reducible refine below_drew1 ?_) | (with_reducible refine pw_below_drewN ?_ _) | (with_reducible exact Below.refl _ _)))).mono ?_); rintro e w2 ⟨rfl, hb2⟩; have HB2 := Aside0.mk hb2; have d0 := bcell hb2 c0; have d1 := bcell hb2 c1; clear hb2) | (go_at_call 39; (with_reducible refine (HFK.out _).mono ?_); rintro e wk ⟨rfl, rfl⟩) | (go_at_call 39; (with_reducible refine (HFV.out _).mono ?_); rintro e wv ⟨rfl, rfl⟩) | fail)
    have S2 := Aside0.mk (S1.out.step HB2.out)
    have e0 := (blk_cell S2.out.hr 0).trans (show _ = some (Value.slice none 0 0) from rfl)
    have e1 := (blk_cell S2.out.hr 1).trans (show _ = some (Value.int .i64 0) from rfl)
    have f0 := blk_frozen S2.out.hr 0
    have f1 := blk_frozen S2.out.hr 1
    go_wp2
    refine bodyPost_ret (results_ctt rfl _ _ (w.heap.size + 1) 24 #[.slice A h.c.length c, .int .i64 h.keep] (0, 0) _ rfl (hb_store S2.out.hr) Try.underlying24 rfl (by kernel_rfl)) rfl ?_
    exact ⟨A, c, rfl, S2.out.cl.2, S2.out.same.1, S2.out.same.2⟩
set_option maxHeartbeats 4000000 in
set_option maxRecDepth 100000 in
theorem putFull_walk (A : Option Addr) (c : Nat) (h : Hp) (root key val : Int) (deep : Bool) (n : Nat) (w : World) (hr : kCl.C w A h.c.length h.c) (hcc : h.c.length ≤ c) (hhi : highO 21 h root = some n) (hk : fitsB key = true) (hv : fitsB val = true) (hbad : (decide (n = 20) || !fitsH h (2 * (n : Int) + 1) deep) = true) :
    Calls Try.prog 13 #[.agg #[.slice A h.c.length c, .int .i64 h.keep], .int .i64 root, .int .i64 key, .int .i64 val, .bool deep] w fun e w' => ∃ B cb, e = .returned (.tuple #[.agg #[.slice B h.c.length cb, .int .i64 h.keep], .int .i64 root, .int .i64 3]) ∧ h.c.length ≤ cb ∧ kCl.C w' B h.c.length h.c ∧ Below w.heap.size w w' := by
  (obtain ⟨W1, hW1⟩ : ∃ W1, W1 = (w.alloc (.cells #[.slice A h.c.length c, .int .i64 h.keep] 24)).alloc (.cells #[.slice none 0 0, .int .i64 0] 24) := ⟨_, rfl⟩; have S1 := Aside0.mk (show PuSt w W1 A c h by (rw [hW1]; exact pust w A c h hr hcc)); have c0 := (blk_cell S1.out.hh 0).trans (show _ = some (Value.slice A h.c.length c) from rfl); have c1 := (blk_cell S1.out.hh 1).trans (show _ = some (Value.int .i64 h.keep) from rfl); have HHI := Aside0.mk (fun (W : World) (hb : Below W1.heap.size W1 W) => high_walk 21 A c h root n W (by decide) (Kd.C_below S1.out.cl.1 hb) hhi); have hW1' := Aside0.mk hW1; have HN := Aside0.mk (show n ≤ 1000 by have := highO_le 21 h root n hhi; omega); clear hr hcc hW1 hhi)
  have HFK := Aside0.mk (fun W => growFits_walk key W)
  have HFV := Aside0.mk (fun W => growFits_walk val W)
  rw [hk] at HFK
  rw [hv] at HFV
  clear hk hv
  by_cases h20 : n = 20
  · have q0 : ((n : Int) == 20) = true := beq_iff_eq.mpr (by omega)
    have q1 : (n == 20) = true := beq_iff_eq.mpr h20
    clear hbad h20
    go_enter Try.func13, Try.ntmps13
    go_upto_region 1 with (fail)
    rw [← hW1'.out]
    go_upto_region 4 with (first | (go_at_call 38; (with_reducible refine (HHI.out _ (by repeat (first | (with_reducible exact Below.refl _ _) | (with_reducible refine below_alloc ?_ _) | (with_reducible refine below_drew1 ?_) | (with_reducible refine pw_below_drewN ?_ _) | (with_reducible exact Below.refl _ _)))).mono ?_); rintro e w2 ⟨rfl, hb2⟩; have HB2 := Aside0.mk hb2; have d0 := bcell hb2 c0; have d1 := bcell hb2 c1; clear hb2) | (go_at_call 39; (with_reducible refine (HFK.out _).mono ?_); rintro e wk ⟨rfl, rfl⟩) | (go_at_call 39; (with_reducible refine (HFV.out _).mono ?_); rintro e wv ⟨rfl, rfl⟩) | fail)
    go_quiet (fail)
    obtain ⟨w3, hw3⟩ : ∃ w3, w3 = w2.drewN nq := ⟨_, rfl⟩
    have S2 := Aside0.mk (S1.out.step (show Below W1.heap.size W1 w3 by rw [hw3]; exact pw_below_drewN HB2.out nq))
    rw [← hw3]
    have g0 := (blk_cell S2.out.hh 0).trans (show _ = some (Value.slice A h.c.length c) from rfl)
    have g1 := (blk_cell S2.out.hh 1).trans (show _ = some (Value.int .i64 h.keep) from rfl)
    have e0 := (blk_cell S2.out.hr 0).trans (show _ = some (Value.slice none 0 0) from rfl)
    have e1 := (blk_cell S2.out.hr 1).trans (show _ = some (Value.int .i64 0) from rfl)
    have f0 := blk_frozen S2.out.hr 0
    have f1 := blk_frozen S2.out.hr 1
    clear hw3 d0 d1
    go_wp2
    refine bodyPost_ret (results_ctt rfl _ _ (w.heap.size + 1) 24 #[.slice A h.c.length c, .int .i64 h.keep] (0, 0) _ rfl (hb_store S2.out.hr) Try.underlying24 rfl (by kernel_rfl)) rfl ?_
    exact ⟨A, c, rfl, S2.out.cl.2, S2.out.same.1, S2.out.same.2⟩
  · have q0 : ((n : Int) == 20) = false := beq_eq_false_iff_ne.mpr (by omega)
    have q1 : (n == 20) = false := beq_eq_false_iff_ne.mpr h20
    rw [decide_eq_false h20, Bool.false_or] at hbad
    have hff : fitsH h (2 * (n : Int) + 1) deep = false := by simpa using hbad
    have HFT0 := Aside0.mk (fun (W : World) (hb : Below W1.heap.size W1 W) => fits_walk A c h (2 * (n : Int) + 1) deep W (Kd.C_below S1.out.cl.1 hb))
    rw [hff] at HFT0
    clear hbad h20 hff
    go_enter Try.func13, Try.ntmps13
    go_upto_region 1 with (fail)
    rw [← hW1'.out]
    go_upto_region 4 with (first | (go_at_call 38; (with_reducible refine (HHI.out _ (by repeat (first | (with_reducible exact Below.refl _ _) | (with_reducible refine below_alloc ?_ _) | (with_reducible refine below_drew1 ?_) | (with_reducible refine pw_below_drewN ?_ _) | (with_reducible exact Below.refl _ _)))).mono ?_); rintro e w2 ⟨rfl, hb2⟩; have HB2 := Aside0.mk hb2; have d0 := bcell hb2 c0; have d1 := bcell hb2 c1; clear hb2) | (go_at_call 39; (with_reducible refine (HFK.out _).mono ?_); rintro e wk ⟨rfl, rfl⟩) | (go_at_call 39; (with_reducible refine (HFV.out _).mono ?_); rintro e wv ⟨rfl, rfl⟩) | fail)
    have HFT := Aside0.mk (fun (W : World) (hb : Below w2.heap.size w2 W) => HFT0.out W (below_step HB2.out hb))
    go_region_held3 (fun w' => w'.cell? ⟨w.heap.size, 0, none⟩ = some (.slice A h.c.length c) ∧ w'.cell? ⟨w.heap.size, 1, none⟩ = some (.int .i64 h.keep)) (first | exact ⟨d0, d1⟩ | exact ⟨bcell HB3.out d0, bcell HB3.out d1⟩ | exact (fun (h : Below w2.heap.size w2 _) => ⟨bcell h d0, bcell h d1⟩) (by repeat (first | (with_reducible exact Below.refl _ _) | (with_reducible refine below_alloc ?_ _) | (with_reducible refine below_drew1 ?_) | (with_reducible refine pw_below_drewN ?_ _) | (with_reducible exact HB3.out)))) (first | (go_at_call 41; (with_reducible refine (need_walk n _ HN.out).mono ?_); rintro e wn ⟨rfl, rfl⟩) | (go_at_call 40; (with_reducible refine (HFT.out _ (by repeat (first | (with_reducible exact Below.refl _ _) | (with_reducible refine below_alloc ?_ _) | (with_reducible refine below_drew1 ?_) | (with_reducible refine pw_below_drewN ?_ _) | (with_reducible exact Below.refl _ _)))).mono ?_); rintro e w3 ⟨rfl, hb3⟩; have HB3 := Aside0.mk (show Below w2.heap.size w2 w3 from below_step (by repeat (first | (with_reducible exact Below.refl _ _) | (with_reducible refine below_alloc ?_ _) | (with_reducible refine below_drew1 ?_) | (with_reducible refine pw_below_drewN ?_ _) | fail)) hb3); clear hb3) | fail)
    all_goals
      have S2 := Aside0.mk (S1.out.step (below_step HB2.out HB3.out))
      have g0 := (blk_cell S2.out.hh 0).trans (show _ = some (Value.slice A h.c.length c) from rfl)
      have g1 := (blk_cell S2.out.hh 1).trans (show _ = some (Value.int .i64 h.keep) from rfl)
      have e0 := (blk_cell S2.out.hr 0).trans (show _ = some (Value.slice none 0 0) from rfl)
      have e1 := (blk_cell S2.out.hr 1).trans (show _ = some (Value.int .i64 0) from rfl)
      have f0 := blk_frozen S2.out.hr 0
      have f1 := blk_frozen S2.out.hr 1
      clear d0 d1
      go_wp2
      refine bodyPost_ret (results_ctt rfl _ _ (w.heap.size + 1) 24 #[.slice A h.c.length c, .int .i64 h.keep] (0, 0) _ rfl (hb_store S2.out.hr) Try.underlying24 rfl (by kernel_rfl)) rfl ?_
      exact ⟨A, c, rfl, S2.out.cl.2, S2.out.same.1, S2.out.same.2⟩
end Go.Proofs.Ytopkoganfnabgaa.H
namespace Go.Proofs.Ytopkoganfnabgaa.H
open Go.RowKit Go.Proofs.YtopkoganfnabgaaW.PrintWords Go.Proofs.YtopkoganfnabgaaW.PrintLast Go.Proofs.YtopkoganfnabgaaW.PrintMore
attribute [local go_sem] max2_int min2_int max_two min_two max_three min_three max_four min_four
set_option linter.unusedVariables false
set_option linter.unusedSimpArgs false
end Go.Proofs.Ytopkoganfnabgaa.H
namespace Go.Proofs.Ytopkoganfnabgaa.H
open Go.RowKit Go.Proofs.YtopkoganfnabgaaW.PrintWords Go.Proofs.YtopkoganfnabgaaW.PrintLast Go.Proofs.YtopkoganfnabgaaW.PrintMore
attribute [local go_sem] max2_int min2_int max_two min_two max_three min_three max_four min_four
set_option linter.unusedVariables false
set_option linter.unusedSimpArgs false
theorem allocO_len {h h' : Hp} {n : Nd} {held : List Int} {p er : Int} (e : allocO h n held = some (h', p, er)) : h'.c.length = h.c.length ∧ h.c.length ≤ 2000 := by
  unfold allocO at e
  split at e
  · rename_i hl
    split at e
    · split at e
      · split at e
        · simp only [Option.some.injEq, Prod.mk.injEq] at e
          obtain ⟨rfl, _, _⟩ := e
          refine ⟨?_, hl⟩
          unfold setH
          rw [List.length_set]
          split
          · rfl
          · exact holdL_len held n.it h
        · simp only [Option.some.injEq, Prod.mk.injEq] at e
          obtain ⟨rfl, _, _⟩ := e
          exact ⟨rfl, hl⟩
      · cases e
    · simp only [Option.some.injEq, Prod.mk.injEq] at e
      obtain ⟨rfl, _, _⟩ := e
      exact ⟨rfl, hl⟩
  · cases e
set_option maxHeartbeats 4000000 in
set_option maxRecDepth 100000 in
theorem putNew_walk (A : Option Addr) (c : Nat) (h g : Hp) (root key val p : Int) (deep : Bool) (n : Nat) (w : World) (hr : kCl.C w A h.c.length h.c) (hcc : h.c.length ≤ c) (hhi : highO 21 h root = some n) (hk : fitsB key = true) (hv : fitsB val = true) (h20 : ¬ n = 20) (hff : fitsH h (2 * (n : Int) + 1) deep = true) (hro : root < 0)
    (e : allocO h ⟨true, [⟨key, val⟩]⟩ [] = some (g, p, 0)) :
    Calls Try.prog 13 #[.agg #[.slice A h.c.length c, .int .i64 h.keep], .int .i64 root, .int .i64 key, .int .i64 val, .bool deep] w fun e w' => ∃ B cb, e = .returned (.tuple #[.agg #[.slice B g.c.length cb, .int .i64 g.keep], .int .i64 p, .int .i64 0]) ∧ g.c.length ≤ cb ∧ kCl.C w' B g.c.length g.c ∧ Below w.heap.size w w' := by
  (obtain ⟨W1, hW1⟩ : ∃ W1, W1 = (w.alloc (.cells #[.slice A h.c.length c, .int .i64 h.keep] 24)).alloc (.cells #[.slice none 0 0, .int .i64 0] 24) := ⟨_, rfl⟩; have S1 := Aside0.mk (show PuSt w W1 A c h by (rw [hW1]; exact pust w A c h hr hcc)); have c0 := (blk_cell S1.out.hh 0).trans (show _ = some (Value.slice A h.c.length c) from rfl); have c1 := (blk_cell S1.out.hh 1).trans (show _ = some (Value.int .i64 h.keep) from rfl); have HHI := Aside0.mk (fun (W : World) (hb : Below W1.heap.size W1 W) => high_walk 21 A c h root n W (by decide) (Kd.C_below S1.out.cl.1 hb) hhi); have hW1' := Aside0.mk hW1; have HN := Aside0.mk (show n ≤ 1000 by have := highO_le 21 h root n hhi; omega); clear hr hcc hW1 hhi; have HFK := Aside0.mk (fun W => growFits_walk key W); have HFV := Aside0.mk (fun W => growFits_walk val W); rw [hk] at HFK; rw [hv] at HFV; have q0 : ((n : Int) == 20) = false := beq_eq_false_iff_ne.mpr (by omega); have q1 : (n == 20) = false := beq_eq_false_iff_ne.mpr h20; have HFT0 := Aside0.mk (fun (W : World) (hb : Below W1.heap.size W1 W) => fits_walk A c h (2 * (n : Int) + 1) deep W (Kd.C_below S1.out.cl.1 hb)); rw [hff] at HFT0; clear hk hv h20 hff)
  have hlen := allocO_len e
  have HE := Aside0.mk e
  have HLEN := Aside0.mk (show g.c.length ≤ 2000 by omega)
  have r1 : decide (root < 0) = true := decide_eq_true hro
  have HST := Aside0.mk (fun (k : Int) => show settledO 0 g p root = some (g, p, 0) by unfold settledO; rw [if_neg (by omega)])
  clear e hlen hro
  (go_enter Try.func13, Try.ntmps13; go_upto_region 1 with (fail); rw [← hW1'.out]; go_upto_region 4 with (first | (go_at_call 38; (with_reducible refine (HHI.out _ (by repeat (first | (with_reducible exact Below.refl _ _) | (with_reducible refine below_alloc ?_ _) | (with_reducible refine below_drew1 ?_) | (with_reducible refine pw_below_drewN ?_ _) | (with_reducible exact Below.refl _ _)))).mono ?_); rintro e w2 ⟨rfl, hb2⟩; have HB2 := Aside0.mk hb2; have d0 := bcell hb2 c0; have d1 := bcell hb2 c1; clear hb2) | (go_at_call 39; (with_reducible refine (HFK.out _).mono ?_); rintro e wk ⟨rfl, rfl⟩) | (go_at_call 39; (with_reducible refine (HFV.out _).mono ?_); rintro e wv ⟨rfl, rfl⟩) | fail); have HFT := Aside0.mk (fun (W : World) (hb : Below w2.heap.size w2 W) => HFT0.out W (below_step HB2.out hb)); go_cut [34] from 35 to 44 (fun v34 wc => v34 = .bool false ∧ Aside0 (Below W1.heap.size W1 wc)))
  case first => (go_region_held3 (fun w' => w'.cell? ⟨w.heap.size, 0, none⟩ = some (.slice A h.c.length c) ∧ w'.cell? ⟨w.heap.size, 1, none⟩ = some (.int .i64 h.keep)) (first | exact ⟨d0, d1⟩ | exact ⟨bcell HB3.out d0, bcell HB3.out d1⟩ | exact (fun (h : Below w2.heap.size w2 _) => ⟨bcell h d0, bcell h d1⟩) (by repeat (first | (with_reducible exact Below.refl _ _) | (with_reducible refine below_alloc ?_ _) | (with_reducible refine below_drew1 ?_) | (with_reducible refine pw_below_drewN ?_ _) | (with_reducible exact HB3.out)))) (first | (go_at_call 41; (with_reducible refine (need_walk n _ HN.out).mono ?_); rintro e wn ⟨rfl, rfl⟩) | (go_at_call 40; (with_reducible refine (HFT.out _ (by repeat (first | (with_reducible exact Below.refl _ _) | (with_reducible refine below_alloc ?_ _) | (with_reducible refine below_drew1 ?_) | (with_reducible refine pw_below_drewN ?_ _) | (with_reducible exact Below.refl _ _)))).mono ?_); rintro e w3 ⟨rfl, hb3⟩; have HB3 := Aside0.mk (show Below w2.heap.size w2 w3 from below_step (by repeat (first | (with_reducible exact Below.refl _ _) | (with_reducible refine below_alloc ?_ _) | (with_reducible refine below_drew1 ?_) | (with_reducible refine pw_below_drewN ?_ _) | fail)) hb3); clear hb3) | fail); all_goals (go_wp2; go_meet; case rel => exact ⟨rfl, ⟨below_step HB2.out HB3.out⟩⟩))
  case rest =>
    (obtain ⟨rfl, HBc⟩ := hcut; have Sc := Aside0.mk (S1.out.step HBc.out); have g0 := (blk_cell Sc.out.hh 0).trans (show _ = some (Value.slice A h.c.length c) from rfl); have g1 := (blk_cell Sc.out.hh 1).trans (show _ = some (Value.int .i64 h.keep) from rfl); clear c0 c1 d0 d1; obtain ⟨W4, hW4⟩ : ∃ W4, W4 = (wc.alloc (.cells #[.slice A h.c.length c, .int .i64 h.keep] 86)).alloc (.cells #[.int .i64 key, .int .i64 val] 26) := ⟨_, rfl⟩; have hb4 : Below wc.heap.size wc W4 := (by rw [hW4]; exact below_alloc (below_alloc (Below.refl _ _) _) _); have S4 := Aside0.mk (Sc.out.step hb4); have HBD := Aside0.mk (show W4.heap[wc.heap.size]? = some (.cells #[.slice A h.c.length c, .int .i64 h.keep] 86) by (rw [hW4]; exact blk_alloc (blk_new wc _) _)); have HIT := Aside0.mk (show W4.heap[wc.heap.size + 1]? = some (.cells #[.int .i64 key, .int .i64 val] 26) by (rw [hW4]; exact blk2 wc _ _)); have hW4' := Aside0.mk hW4; have HWC := Aside0.mk (show w.heap.size + 1 < wc.heap.size from blk_lt Sc.out.hr); clear hW4 hb4; go_upto_region 7 with (fail); rw [← hW4'.out]; have k0 := (blk_cell HIT.out 0).trans (show _ = some (Value.int .i64 key) from rfl); have k1 := (blk_cell HIT.out 1).trans (show _ = some (Value.int .i64 val) from rfl); clear g0 g1)
    have hlay0 := (growLay_walk A (some ⟨W4.heap.size, 0, none⟩) none c 1 0 wc.heap.size h g true ⟨key, val⟩ [] [] p 0 (W4.alloc (.cells #[.int .i64 key, .int .i64 val] 26)) (W4.alloc (.cells #[.int .i64 key, .int .i64 val] 26)) (blk_alloc HBD.out _) (Kd.C_alloc S4.out.cl.1 _) (Below.refl _ _) S4.out.cl.2 (one_it W4 ⟨key, val⟩) (Nat.le_refl _) (Kd.C_nil _ _) HE.out)
    simp only [List.length_cons, List.length_nil, Nat.zero_add] at hlay0
    have HLAY := Aside0.mk hlay0
    clear hlay0
    go_wp2_with (first | (go_at_call 43; (with_reducible refine HLAY.out.mono ?_); rintro e w6 ⟨rfl, ⟨A6, c6, hb6, hc6, hl6⟩, hk6, hs6⟩; have HH6 := Aside0.mk (And.intro hb6 (And.intro hc6 hl6)); have HK6 := Aside0.mk (And.intro hk6 hs6); clear hb6 hc6 hl6 hk6 hs6) | (go_at_call 42; (with_reducible refine (growSettled_walk 0 A6 c6 wc.heap.size g g key p root p 0 w6 HH6.out.1 HH6.out.2.2.now HLEN.out HH6.out.2.1 (HST.out 0)).mono ?_); rintro e w7 ⟨B7, c7, rfl, hc7, hr7, hk7, hs7⟩; have HR7 := Aside0.mk (And.intro hc7 hr7); have HK7 := Aside0.mk (show KeepBut W4 w7 wc.heap.size none ∧ S3 W4 w7 from ⟨keep_trans (keep_al (KeepBut.refl _ _ _) _) (keep_trans HK6.out.1 hk7), S3.trans (S3.below (below_alloc (Below.refl W4.heap.size W4) _)) (S3.trans HK6.out.2 hs7)⟩); have HB7 := Aside0.mk (keep_below S4.out.b0 HK7.out.1 HK7.out.2 (by have := HWC.out; omega)); have HX7 := Aside0.mk (show w7.heap[w.heap.size + 1]? = some (.cells #[.slice none 0 0, .int .i64 0] 24) from (HK7.out.1.2 _ (blk_lt S4.out.hr) (by have := HWC.out; omega) (by simp)).trans S4.out.hr); have e0 := (blk_cell HX7.out 0).trans (show _ = some (Value.slice none 0 0) from rfl); have e1 := (blk_cell HX7.out 1).trans (show _ = some (Value.int .i64 0) from rfl); have f0 := blk_frozen HX7.out 0; have f1 := blk_frozen HX7.out 1; clear hc7 hr7 hk7 hs7) | fail)
    refine bodyPost_ret (results_ctt rfl _ _ (w.heap.size + 1) 24 #[.slice B7 g.c.length c7, .int .i64 g.keep] (0, 0) _ rfl (hb_store HX7.out) Try.underlying24 rfl (by kernel_rfl)) rfl ?_
    exact ⟨B7, c7, rfl, HR7.out.1, cl_store HR7.out.2 HX7.out, below_set (below_set HB7.out (by omega)) (by omega)⟩
end Go.Proofs.Ytopkoganfnabgaa.H
namespace Go.Proofs.Ytopkoganfnabgaa.H
open Go.RowKit Go.Proofs.YtopkoganfnabgaaW.PrintWords Go.Proofs.YtopkoganfnabgaaW.PrintLast Go.Proofs.YtopkoganfnabgaaW.PrintMore
attribute [local go_sem] max2_int min2_int max_two min_two max_three min_three max_four min_four
set_option linter.unusedVariables false
set_option linter.unusedSimpArgs false
end Go.Proofs.Ytopkoganfnabgaa.H
namespace Go.Proofs.Ytopkoganfnabgaa.H
open Go.RowKit Go.Proofs.YtopkoganfnabgaaW.PrintWords Go.Proofs.YtopkoganfnabgaaW.PrintLast Go.Proofs.YtopkoganfnabgaaW.PrintMore
attribute [local go_sem] max2_int min2_int max_two min_two max_three min_three max_four min_four
set_option linter.unusedVariables false
set_option linter.unusedSimpArgs false
end Go.Proofs.Ytopkoganfnabgaa.H
namespace Go.Proofs.Ytopkoganfnabgaa.H
open Go.RowKit Go.Proofs.YtopkoganfnabgaaW.PrintWords Go.Proofs.YtopkoganfnabgaaW.PrintLast Go.Proofs.YtopkoganfnabgaaW.PrintMore
attribute [local go_sem] max2_int min2_int max_two min_two max_three min_three max_four min_four
set_option linter.unusedVariables false
set_option linter.unusedSimpArgs false
theorem layO_len {lf : Bool} {held : List Int} : ∀ (rows : List (List It)) (h g : Hp) (l : List It), layO h lf held rows = some (g, l) → g.c.length = h.c.length ∧ l.length = rows.length ∧ (l ≠ [] → h.c.length ≤ 2000)
  | [], h, g, l, e => by
    unfold layO at e
    simp only [Option.some.injEq, Prod.mk.injEq] at e
    obtain ⟨rfl, rfl⟩ := e
    exact ⟨rfl, rfl, fun h => absurd rfl h⟩
  | [] :: _, h, g, l, e => by unfold layO at e; cases e
  | (x :: s) :: rows, h, g, l, e => by
    obtain ⟨g1, p, er, l1, h1, h2, rfl⟩ := layO_inv e
    obtain ⟨e1, e2, e3⟩ := layO_len rows g1 g l1 h2
    obtain ⟨a1, a2⟩ := allocO_len h1
    exact ⟨e1.trans a1, by simp [e2], fun _ => a2⟩
theorem anewO_len {f : Nat} {h g : Hp} {p : Int} {x : It} {made : List It} (e : anewO f h p x = some (g, made)) : made.length ≤ 2 ∧ (made ≠ [] → g.c.length ≤ 2000) := by
  cases f with
  | zero => simp [anewO] at e
  | succ f =>
    obtain ⟨_, i, is, h1, more, gone, held, l1, rows, _, _, _, _, hs, hl⟩ := anewO_inv e
    obtain ⟨e1, e2, e3⟩ := layO_len rows h1 g made hl
    exact ⟨by rw [e2]; exact splitO_len hs, fun hne => by rw [e1]; exact e3 hne⟩
set_option maxHeartbeats 4000000 in
set_option maxRecDepth 100000 in
theorem putOne_walk (A : Option Addr) (c : Nat) (h g h' : Hp) (root key val p er : Int) (deep : Bool) (n f : Nat) (y : It) (w : World) (hr : kCl.C w A h.c.length h.c) (hcc : h.c.length ≤ c) (hhi : highO 21 h root = some n) (hk : fitsB key = true) (hv : fitsB val = true) (h20 : ¬ n = 20) (hff : fitsH h (2 * (n : Int) + 1) deep = true) (hro : ¬ root < 0)
    (e : anewO 20 h root ⟨key, val⟩ = some (g, [y])) (es : settledO f g y.v root = some (h', p, er)) :
    Calls Try.prog 13 #[.agg #[.slice A h.c.length c, .int .i64 h.keep], .int .i64 root, .int .i64 key, .int .i64 val, .bool deep] w fun e w' => ∃ B cb, e = .returned (.tuple #[.agg #[.slice B h'.c.length cb, .int .i64 h'.keep], .int .i64 p, .int .i64 er]) ∧ h'.c.length ≤ cb ∧ kCl.C w' B h'.c.length h'.c ∧ Below w.heap.size w w' := by
  (obtain ⟨W1, hW1⟩ : ∃ W1, W1 = (w.alloc (.cells #[.slice A h.c.length c, .int .i64 h.keep] 24)).alloc (.cells #[.slice none 0 0, .int .i64 0] 24) := ⟨_, rfl⟩; have S1 := Aside0.mk (show PuSt w W1 A c h by (rw [hW1]; exact pust w A c h hr hcc)); have c0 := (blk_cell S1.out.hh 0).trans (show _ = some (Value.slice A h.c.length c) from rfl); have c1 := (blk_cell S1.out.hh 1).trans (show _ = some (Value.int .i64 h.keep) from rfl); have HHI := Aside0.mk (fun (W : World) (hb : Below W1.heap.size W1 W) => high_walk 21 A c h root n W (by decide) (Kd.C_below S1.out.cl.1 hb) hhi); have hW1' := Aside0.mk hW1; have HN := Aside0.mk (show n ≤ 1000 by have := highO_le 21 h root n hhi; omega); clear hr hcc hW1 hhi; have HFK := Aside0.mk (fun W => growFits_walk key W); have HFV := Aside0.mk (fun W => growFits_walk val W); rw [hk] at HFK; rw [hv] at HFV; have q0 : ((n : Int) == 20) = false := beq_eq_false_iff_ne.mpr (by omega); have q1 : (n == 20) = false := beq_eq_false_iff_ne.mpr h20; have HFT0 := Aside0.mk (fun (W : World) (hb : Below W1.heap.size W1 W) => fits_walk A c h (2 * (n : Int) + 1) deep W (Kd.C_below S1.out.cl.1 hb)); rw [hff] at HFT0; clear hk hv h20 hff)
  obtain ⟨made, hmade⟩ : ∃ made, made = [y] := ⟨_, rfl⟩
  rw [← hmade] at e
  have hlen := (anewO_len e).2 (by rw [hmade]; simp)
  have HE := Aside0.mk e
  have HES := Aside0.mk es
  have HLEN := Aside0.mk hlen
  have HML := Aside0.mk (show 0 < made.length ∧ itAt made 0 = y by rw [hmade]; exact ⟨by simp, rfl⟩)
  have r1 : decide (root < 0) = false := decide_eq_false hro
  have r2 : ((made.length : Int) == 1) = true := by rw [hmade]; rfl
  have r3 : (made.length == 1) = true := by rw [hmade]; rfl
  have r4 : (0 < made.length) = True := eq_true HML.out.1
  have r5 : ((0 : Int) < (made.length : Int)) = True := eq_true (by have := HML.out.1; omega)
  clear e es hlen hro hmade
  (go_enter Try.func13, Try.ntmps13; go_upto_region 1 with (fail); rw [← hW1'.out]; go_upto_region 4 with (first | (go_at_call 38; (with_reducible refine (HHI.out _ (by repeat (first | (with_reducible exact Below.refl _ _) | (with_reducible refine below_alloc ?_ _) | (with_reducible refine below_drew1 ?_) | (with_reducible refine pw_below_drewN ?_ _) | (with_reducible exact Below.refl _ _)))).mono ?_); rintro e w2 ⟨rfl, hb2⟩; have HB2 := Aside0.mk hb2; have d0 := bcell hb2 c0; have d1 := bcell hb2 c1; clear hb2) | (go_at_call 39; (with_reducible refine (HFK.out _).mono ?_); rintro e wk ⟨rfl, rfl⟩) | (go_at_call 39; (with_reducible refine (HFV.out _).mono ?_); rintro e wv ⟨rfl, rfl⟩) | fail); have HFT := Aside0.mk (fun (W : World) (hb : Below w2.heap.size w2 W) => HFT0.out W (below_step HB2.out hb)); go_cut [34] from 35 to 44 (fun v34 wc => v34 = .bool false ∧ Aside0 (Below W1.heap.size W1 wc)))
  case first => (go_region_held3 (fun w' => w'.cell? ⟨w.heap.size, 0, none⟩ = some (.slice A h.c.length c) ∧ w'.cell? ⟨w.heap.size, 1, none⟩ = some (.int .i64 h.keep)) (first | exact ⟨d0, d1⟩ | exact ⟨bcell HB3.out d0, bcell HB3.out d1⟩ | exact (fun (h : Below w2.heap.size w2 _) => ⟨bcell h d0, bcell h d1⟩) (by repeat (first | (with_reducible exact Below.refl _ _) | (with_reducible refine below_alloc ?_ _) | (with_reducible refine below_drew1 ?_) | (with_reducible refine pw_below_drewN ?_ _) | (with_reducible exact HB3.out)))) (first | (go_at_call 41; (with_reducible refine (need_walk n _ HN.out).mono ?_); rintro e wn ⟨rfl, rfl⟩) | (go_at_call 40; (with_reducible refine (HFT.out _ (by repeat (first | (with_reducible exact Below.refl _ _) | (with_reducible refine below_alloc ?_ _) | (with_reducible refine below_drew1 ?_) | (with_reducible refine pw_below_drewN ?_ _) | (with_reducible exact Below.refl _ _)))).mono ?_); rintro e w3 ⟨rfl, hb3⟩; have HB3 := Aside0.mk (show Below w2.heap.size w2 w3 from below_step (by repeat (first | (with_reducible exact Below.refl _ _) | (with_reducible refine below_alloc ?_ _) | (with_reducible refine below_drew1 ?_) | (with_reducible refine pw_below_drewN ?_ _) | fail)) hb3); clear hb3) | fail); all_goals (go_wp2; go_meet; case rel => exact ⟨rfl, ⟨below_step HB2.out HB3.out⟩⟩))
  case rest =>
    (obtain ⟨rfl, HBc⟩ := hcut; have Sc := Aside0.mk (S1.out.step HBc.out); have g0 := (blk_cell Sc.out.hh 0).trans (show _ = some (Value.slice A h.c.length c) from rfl); have g1 := (blk_cell Sc.out.hh 1).trans (show _ = some (Value.int .i64 h.keep) from rfl); clear c0 c1 d0 d1; obtain ⟨W4, hW4⟩ : ∃ W4, W4 = (wc.alloc (.cells #[.slice A h.c.length c, .int .i64 h.keep] 86)).alloc (.cells #[.int .i64 key, .int .i64 val] 26) := ⟨_, rfl⟩; have hb4 : Below wc.heap.size wc W4 := (by rw [hW4]; exact below_alloc (below_alloc (Below.refl _ _) _) _); have S4 := Aside0.mk (Sc.out.step hb4); have HBD := Aside0.mk (show W4.heap[wc.heap.size]? = some (.cells #[.slice A h.c.length c, .int .i64 h.keep] 86) by (rw [hW4]; exact blk_alloc (blk_new wc _) _)); have HIT := Aside0.mk (show W4.heap[wc.heap.size + 1]? = some (.cells #[.int .i64 key, .int .i64 val] 26) by (rw [hW4]; exact blk2 wc _ _)); have hW4' := Aside0.mk hW4; have HWC := Aside0.mk (show w.heap.size + 1 < wc.heap.size from blk_lt Sc.out.hr); clear hW4 hb4; go_upto_region 7 with (fail); rw [← hW4'.out]; have k0 := (blk_cell HIT.out 0).trans (show _ = some (Value.int .i64 key) from rfl); have k1 := (blk_cell HIT.out 1).trans (show _ = some (Value.int .i64 val) from rfl); clear g0 g1)
    have HAN := Aside0.mk (growAnew_walk 20 A c wc.heap.size h g root ⟨key, val⟩ made W4 HBD.out S4.out.cl.1 S4.out.cl.2 HE.out)
    go_wp2_with (first | (go_at_call 44; (with_reducible refine HAN.out.mono ?_); rintro e w6 ⟨⟨M, cm, rfl, hcm, hM⟩, ⟨A6, c6, hb6, hc6, hl6⟩, hk6, hs6⟩; have HM := Aside0.mk (And.intro hcm hM); obtain ⟨ad6, rfl, z0, z1⟩ := at_it0 hM HML.out.1; rw [HML.out.2] at z0 z1; have HH6 := Aside0.mk (And.intro hb6 (And.intro hc6 hl6)); have HK6 := Aside0.mk (And.intro hk6 hs6); have t0 := (blk_cell hb6 0).trans (show _ = some (Value.slice A6 g.c.length c6) from rfl); have t1 := (blk_cell hb6 1).trans (show _ = some (Value.int .i64 g.keep) from rfl); have f8 := blk_frozen hb6 0; have f9 := blk_frozen hb6 1; clear hcm hM hb6 hc6 hl6 hk6 hs6) | (go_at_call 42; (with_reducible refine (growSettled_walk f A6 c6 wc.heap.size g h' y.k y.v root p er w6 HH6.out.1 HH6.out.2.2 HLEN.out HH6.out.2.1 HES.out).mono ?_); rintro e w7 ⟨B7, c7, rfl, hc7, hr7, hk7, hs7⟩; have HR7 := Aside0.mk (And.intro hc7 hr7); have HK7 := Aside0.mk (show KeepBut W4 w7 wc.heap.size none ∧ S3 W4 w7 from ⟨keep_trans HK6.out.1 hk7, S3.trans HK6.out.2 hs7⟩); (have HB7 := Aside0.mk (keep_below S4.out.b0 HK7.out.1 HK7.out.2 (by have := HWC.out; omega)); have HX7 := Aside0.mk (show w7.heap[w.heap.size + 1]? = some (.cells #[.slice none 0 0, .int .i64 0] 24) from (HK7.out.1.2 _ (blk_lt S4.out.hr) (by have := HWC.out; omega) (by simp)).trans S4.out.hr); have e0 := (blk_cell HX7.out 0).trans (show _ = some (Value.slice none 0 0) from rfl); have e1 := (blk_cell HX7.out 1).trans (show _ = some (Value.int .i64 0) from rfl); have f0 := blk_frozen HX7.out 0; have f1 := blk_frozen HX7.out 1; clear hc7 hr7 hk7 hs7)) | fail)
    refine bodyPost_ret (results_ctt rfl _ _ (w.heap.size + 1) 24 #[.slice B7 h'.c.length c7, .int .i64 h'.keep] (0, 0) _ rfl (hb_store HX7.out) Try.underlying24 rfl (by kernel_rfl)) rfl ?_
    exact ⟨B7, c7, rfl, HR7.out.1, cl_store HR7.out.2 HX7.out, below_set (below_set HB7.out (by omega)) (by omega)⟩
set_option maxHeartbeats 4000000 in
set_option maxRecDepth 100000 in
theorem putOver_walk (A : Option Addr) (c : Nat) (h g g2 h' : Hp) (root key val p p2 er er2 : Int) (deep : Bool) (n f : Nat) (y z : It) (r : List It) (w : World) (hr : kCl.C w A h.c.length h.c) (hcc : h.c.length ≤ c) (hhi : highO 21 h root = some n) (hk : fitsB key = true) (hv : fitsB val = true) (h20 : ¬ n = 20) (hff : fitsH h (2 * (n : Int) + 1) deep = true) (hro : ¬ root < 0)
    (e : anewO 20 h root ⟨key, val⟩ = some (g, y :: z :: r)) (eo : overO g (y :: z :: r) = some (g2, p2, er2)) (es : settledO f g2 p2 root = some (h', p, er)) :
    Calls Try.prog 13 #[.agg #[.slice A h.c.length c, .int .i64 h.keep], .int .i64 root, .int .i64 key, .int .i64 val, .bool deep] w fun e w' => ∃ B cb, e = .returned (.tuple #[.agg #[.slice B h'.c.length cb, .int .i64 h'.keep], .int .i64 p, .int .i64 er]) ∧ h'.c.length ≤ cb ∧ kCl.C w' B h'.c.length h'.c ∧ Below w.heap.size w w' := by
  (obtain ⟨W1, hW1⟩ : ∃ W1, W1 = (w.alloc (.cells #[.slice A h.c.length c, .int .i64 h.keep] 24)).alloc (.cells #[.slice none 0 0, .int .i64 0] 24) := ⟨_, rfl⟩; have S1 := Aside0.mk (show PuSt w W1 A c h by (rw [hW1]; exact pust w A c h hr hcc)); have c0 := (blk_cell S1.out.hh 0).trans (show _ = some (Value.slice A h.c.length c) from rfl); have c1 := (blk_cell S1.out.hh 1).trans (show _ = some (Value.int .i64 h.keep) from rfl); have HHI := Aside0.mk (fun (W : World) (hb : Below W1.heap.size W1 W) => high_walk 21 A c h root n W (by decide) (Kd.C_below S1.out.cl.1 hb) hhi); have hW1' := Aside0.mk hW1; have HN := Aside0.mk (show n ≤ 1000 by have := highO_le 21 h root n hhi; omega); clear hr hcc hW1 hhi; have HFK := Aside0.mk (fun W => growFits_walk key W); have HFV := Aside0.mk (fun W => growFits_walk val W); rw [hk] at HFK; rw [hv] at HFV; have q0 : ((n : Int) == 20) = false := beq_eq_false_iff_ne.mpr (by omega); have q1 : (n == 20) = false := beq_eq_false_iff_ne.mpr h20; have HFT0 := Aside0.mk (fun (W : World) (hb : Below W1.heap.size W1 W) => fits_walk A c h (2 * (n : Int) + 1) deep W (Kd.C_below S1.out.cl.1 hb)); rw [hff] at HFT0; clear hk hv h20 hff)
  obtain ⟨made, hmade⟩ : ∃ made, made = y :: z :: r := ⟨_, rfl⟩
  rw [← hmade] at e eo
  have hlen := (anewO_len e).2 (by rw [hmade]; simp)
  have hlen2 : g2.c.length = g.c.length := (allocO_len eo).1
  have HE := Aside0.mk e
  have HEO := Aside0.mk eo
  have HES := Aside0.mk es
  have HLEN := Aside0.mk (show g2.c.length ≤ 2000 by omega)
  have HMD := Aside0.mk (show made.length ≤ 1000 by have := (anewO_len e).1; omega)
  have HML := Aside0.mk (show 0 < made.length ∧ itAt made 0 = y by rw [hmade]; exact ⟨by simp, rfl⟩)
  have r1 : decide (root < 0) = false := decide_eq_false hro
  have r2 : ((made.length : Int) == 1) = false := by rw [hmade]; exact beq_eq_false_iff_ne.mpr (by simp; omega)
  have r3 : (made.length == 1) = false := by rw [hmade]; exact beq_eq_false_iff_ne.mpr (by simp)
  clear e eo es hlen hlen2 hro hmade
  (go_enter Try.func13, Try.ntmps13; go_upto_region 1 with (fail); rw [← hW1'.out]; go_upto_region 4 with (first | (go_at_call 38; (with_reducible refine (HHI.out _ (by repeat (first | (with_reducible exact Below.refl _ _) | (with_reducible refine below_alloc ?_ _) | (with_reducible refine below_drew1 ?_) | (with_reducible refine pw_below_drewN ?_ _) | (with_reducible exact Below.refl _ _)))).mono ?_); rintro e w2 ⟨rfl, hb2⟩; have HB2 := Aside0.mk hb2; have d0 := bcell hb2 c0; have d1 := bcell hb2 c1; clear hb2) | (go_at_call 39; (with_reducible refine (HFK.out _).mono ?_); rintro e wk ⟨rfl, rfl⟩) | (go_at_call 39; (with_reducible refine (HFV.out _).mono ?_); rintro e wv ⟨rfl, rfl⟩) | fail); have HFT := Aside0.mk (fun (W : World) (hb : Below w2.heap.size w2 W) => HFT0.out W (below_step HB2.out hb)); go_cut [34] from 35 to 44 (fun v34 wc => v34 = .bool false ∧ Aside0 (Below W1.heap.size W1 wc)))
  case first => (go_region_held3 (fun w' => w'.cell? ⟨w.heap.size, 0, none⟩ = some (.slice A h.c.length c) ∧ w'.cell? ⟨w.heap.size, 1, none⟩ = some (.int .i64 h.keep)) (first | exact ⟨d0, d1⟩ | exact ⟨bcell HB3.out d0, bcell HB3.out d1⟩ | exact (fun (h : Below w2.heap.size w2 _) => ⟨bcell h d0, bcell h d1⟩) (by repeat (first | (with_reducible exact Below.refl _ _) | (with_reducible refine below_alloc ?_ _) | (with_reducible refine below_drew1 ?_) | (with_reducible refine pw_below_drewN ?_ _) | (with_reducible exact HB3.out)))) (first | (go_at_call 41; (with_reducible refine (need_walk n _ HN.out).mono ?_); rintro e wn ⟨rfl, rfl⟩) | (go_at_call 40; (with_reducible refine (HFT.out _ (by repeat (first | (with_reducible exact Below.refl _ _) | (with_reducible refine below_alloc ?_ _) | (with_reducible refine below_drew1 ?_) | (with_reducible refine pw_below_drewN ?_ _) | (with_reducible exact Below.refl _ _)))).mono ?_); rintro e w3 ⟨rfl, hb3⟩; have HB3 := Aside0.mk (show Below w2.heap.size w2 w3 from below_step (by repeat (first | (with_reducible exact Below.refl _ _) | (with_reducible refine below_alloc ?_ _) | (with_reducible refine below_drew1 ?_) | (with_reducible refine pw_below_drewN ?_ _) | fail)) hb3); clear hb3) | fail); all_goals (go_wp2; go_meet; case rel => exact ⟨rfl, ⟨below_step HB2.out HB3.out⟩⟩))
  case rest =>
    (obtain ⟨rfl, HBc⟩ := hcut; have Sc := Aside0.mk (S1.out.step HBc.out); have g0 := (blk_cell Sc.out.hh 0).trans (show _ = some (Value.slice A h.c.length c) from rfl); have g1 := (blk_cell Sc.out.hh 1).trans (show _ = some (Value.int .i64 h.keep) from rfl); clear c0 c1 d0 d1; obtain ⟨W4, hW4⟩ : ∃ W4, W4 = (wc.alloc (.cells #[.slice A h.c.length c, .int .i64 h.keep] 86)).alloc (.cells #[.int .i64 key, .int .i64 val] 26) := ⟨_, rfl⟩; have hb4 : Below wc.heap.size wc W4 := (by rw [hW4]; exact below_alloc (below_alloc (Below.refl _ _) _) _); have S4 := Aside0.mk (Sc.out.step hb4); have HBD := Aside0.mk (show W4.heap[wc.heap.size]? = some (.cells #[.slice A h.c.length c, .int .i64 h.keep] 86) by (rw [hW4]; exact blk_alloc (blk_new wc _) _)); have HIT := Aside0.mk (show W4.heap[wc.heap.size + 1]? = some (.cells #[.int .i64 key, .int .i64 val] 26) by (rw [hW4]; exact blk2 wc _ _)); have hW4' := Aside0.mk hW4; have HWC := Aside0.mk (show w.heap.size + 1 < wc.heap.size from blk_lt Sc.out.hr); clear hW4 hb4; go_upto_region 7 with (fail); rw [← hW4'.out]; have k0 := (blk_cell HIT.out 0).trans (show _ = some (Value.int .i64 key) from rfl); have k1 := (blk_cell HIT.out 1).trans (show _ = some (Value.int .i64 val) from rfl); clear g0 g1)
    have HAN := Aside0.mk (growAnew_walk 20 A c wc.heap.size h g root ⟨key, val⟩ made W4 HBD.out S4.out.cl.1 S4.out.cl.2 HE.out)
    go_upto_region 13 with (first | (go_at_call 44; (with_reducible refine HAN.out.mono ?_); rintro e w6 ⟨⟨M, cm, rfl, hcm, hM⟩, ⟨A6, c6, hb6, hc6, hl6⟩, hk6, hs6⟩; have HM := Aside0.mk (And.intro hcm hM); obtain ⟨ad6, rfl, z0, z1⟩ := at_it0 hM HML.out.1; rw [HML.out.2] at z0 z1; have HH6 := Aside0.mk (And.intro hb6 (And.intro hc6 hl6)); have HK6 := Aside0.mk (And.intro hk6 hs6); have t0 := (blk_cell hb6 0).trans (show _ = some (Value.slice A6 g.c.length c6) from rfl); have t1 := (blk_cell hb6 1).trans (show _ = some (Value.int .i64 g.keep) from rfl); have f8 := blk_frozen hb6 0; have f9 := blk_frozen hb6 1; clear hcm hM hb6 hc6 hl6 hk6 hs6) | (go_at_call 15; (with_reducible refine (growOver_walk A6 (some ad6) c6 cm g g2 made p2 er2 w6 HH6.out.2.2 HH6.out.2.1 HM.out.2 HM.out.1 HMD.out HEO.out).mono ?_); rintro e w7 ⟨A8, c8, rfl, hc8, hr8, hb8⟩; have HR8 := Aside0.mk (And.intro hc8 hr8); have HB8 := Aside0.mk hb8; clear hc8 hr8 hb8) | fail)
    obtain ⟨W8, hW8⟩ : ∃ W8, W8 = w7.alloc (.cells #[.slice A8 g2.c.length c8, .int .i64 g2.keep] 24) := ⟨_, rfl⟩
    have hb68 : Below w6.heap.size w6 W8 := by rw [hW8]; exact below_alloc HB8.out _
    have HB68 := Aside0.mk hb68
    have HV8 := Aside0.mk (show W8.heap[w7.heap.size]? = some (.cells #[.slice A8 g2.c.length c8, .int .i64 g2.keep] 24) by rw [hW8]; exact blk_new w7 _)
    have HC8 := Aside0.mk (show kCl.C W8 A8 g2.c.length g2.c by rw [hW8]; exact Kd.C_alloc HR8.out.2 _)
    have HBD8 := Aside0.mk (blk_below HH6.out.1 hb68)
    have v0 := (blk_cell HV8.out 0).trans (show _ = some (Value.slice A8 g2.c.length c8) from rfl)
    have v1 := (blk_cell HV8.out 1).trans (show _ = some (Value.int .i64 g2.keep) from rfl)
    have v2 := (blk_cell HBD8.out 0).trans (show _ = some (Value.slice A6 g.c.length c6) from rfl)
    have v3 := (blk_cell HBD8.out 1).trans (show _ = some (Value.int .i64 g.keep) from rfl)
    have j8 := blk_frozen HBD8.out 0
    have j9 := blk_frozen HBD8.out 1
    obtain ⟨W9, hW9⟩ : ∃ W9, W9 = ((W8.setCell ⟨wc.heap.size, 0, none⟩ (.slice A8 g2.c.length c8)).setCell ⟨wc.heap.size, 1, none⟩ (.int .i64 g2.keep)) := ⟨_, rfl⟩
    have HBD9 := Aside0.mk (show W9.heap[wc.heap.size]? = some (.cells #[.slice A8 g2.c.length c8, .int .i64 g2.keep] 86) by rw [hW9]; exact hb_store HBD8.out)
    have HC9 := Aside0.mk (show kCl.C W9 A8 g2.c.length g2.c by rw [hW9]; exact cl_store HC8.out HBD8.out)
    have HK9 := Aside0.mk (show KeepBut W4 W9 wc.heap.size none ∧ S3 W4 W9 by rw [hW9]; exact ⟨keep_trans HK6.out.1 (keep_trans (KeepBut.of_below hb68 _ none) (((KeepBut.refl W8 _ none).set_ 0 _).set_ 1 _)), S3.set (S3.set (S3.trans HK6.out.2 (S3.below hb68)) _ _) _ _⟩)
    have hW8' := Aside0.mk hW8
    have hW9' := Aside0.mk hW9
    clear hW8 hW9 hb68 t0 t1 f8 f9 z0 z1
    rw [← hW8'.out]
    go_upto_region 14 with (fail)
    rw [← hW9'.out]
    clear v0 v1 v2 v3 j8 j9
    go_wp2_with (first | (go_at_call 42; (with_reducible refine (growSettled_walk f A8 c8 wc.heap.size g2 h' 0 p2 root p er W9 HBD9.out HC9.out HLEN.out HR8.out.1 HES.out).mono ?_); rintro e w7 ⟨B7, c7, rfl, hc7, hr7, hk7, hs7⟩; have HR7 := Aside0.mk (And.intro hc7 hr7); have HK7 := Aside0.mk (show KeepBut W4 w7 wc.heap.size none ∧ S3 W4 w7 from ⟨keep_trans HK9.out.1 hk7, S3.trans HK9.out.2 hs7⟩); (have HB7 := Aside0.mk (keep_below S4.out.b0 HK7.out.1 HK7.out.2 (by have := HWC.out; omega)); have HX7 := Aside0.mk (show w7.heap[w.heap.size + 1]? = some (.cells #[.slice none 0 0, .int .i64 0] 24) from (HK7.out.1.2 _ (blk_lt S4.out.hr) (by have := HWC.out; omega) (by simp)).trans S4.out.hr); have e0 := (blk_cell HX7.out 0).trans (show _ = some (Value.slice none 0 0) from rfl); have e1 := (blk_cell HX7.out 1).trans (show _ = some (Value.int .i64 0) from rfl); have f0 := blk_frozen HX7.out 0; have f1 := blk_frozen HX7.out 1; clear hc7 hr7 hk7 hs7)) | fail)
    refine bodyPost_ret (results_ctt rfl _ _ (w.heap.size + 1) 24 #[.slice B7 h'.c.length c7, .int .i64 h'.keep] (0, 0) _ rfl (hb_store HX7.out) Try.underlying24 rfl (by kernel_rfl)) rfl ?_
    exact ⟨B7, c7, rfl, HR7.out.1, cl_store HR7.out.2 HX7.out, below_set (below_set HB7.out (by omega)) (by omega)⟩
/-- grow.Put. -/
theorem growPut_walk (A : Option Addr) (c : Nat) (h h' : Hp) (root key val p er : Int) (deep : Bool) (f : Nat) (w : World) (hr : kCl.C w A h.c.length h.c) (hcc : h.c.length ≤ c) (e : putO f h root key val deep = some (h', p, er)) :
    Calls Try.prog 13 #[.agg #[.slice A h.c.length c, .int .i64 h.keep], .int .i64 root, .int .i64 key, .int .i64 val, .bool deep] w fun e w' => ∃ B cb, e = .returned (.tuple #[.agg #[.slice B h'.c.length cb, .int .i64 h'.keep], .int .i64 p, .int .i64 er]) ∧ h'.c.length ≤ cb ∧ kCl.C w' B h'.c.length h'.c ∧ Below w.heap.size w w' := by
  unfold putO at e
  simp only [Option.bind_eq_bind, Option.bind_eq_some_iff] at e
  obtain ⟨n, hhi, e⟩ := e
  by_cases hbad : (!fitsB key || !fitsB val) = true
  · rw [if_pos hbad] at e
    simp only [Option.some.injEq, Prod.mk.injEq] at e
    obtain ⟨rfl, rfl, rfl⟩ := e
    exact putArg_walk A c h root key val deep n w hr hcc hhi hbad
  rw [if_neg hbad] at e
  have hkv : fitsB key = true ∧ fitsB val = true := by
    cases h1 : fitsB key <;> cases h2 : fitsB val <;> simp [h1, h2] at hbad ⊢
  by_cases hfull : (decide (n = 20) || !fitsH h (2 * (n : Int) + 1) deep) = true
  · rw [if_pos hfull] at e
    simp only [Option.some.injEq, Prod.mk.injEq] at e
    obtain ⟨rfl, rfl, rfl⟩ := e
    exact putFull_walk A c h root key val deep n w hr hcc hhi hkv.1 hkv.2 hfull
  rw [if_neg hfull] at e
  have hnf : ¬ n = 20 ∧ fitsH h (2 * (n : Int) + 1) deep = true := by
    cases h2 : fitsH h (2 * (n : Int) + 1) deep <;> simp [h2] at hfull ⊢
    exact hfull
  by_cases hro : root < 0
  · rw [if_pos hro] at e
    simp only [Option.bind_eq_some_iff] at e
    obtain ⟨⟨g, q, er2⟩, ha, e⟩ := e
    simp only at e
    split at e
    · rename_i h0
      subst h0
      simp only [Option.some.injEq, Prod.mk.injEq] at e
      obtain ⟨rfl, rfl, rfl⟩ := e
      exact putNew_walk A c h g root key val q deep n w hr hcc hhi hkv.1 hkv.2 hnf.1 hnf.2 hro ha
    · cases e
  · rw [if_neg hro] at e
    simp only [Option.bind_eq_some_iff] at e
    obtain ⟨⟨g, made⟩, ha, e⟩ := e
    rcases made with _ | ⟨y, _ | ⟨z, r⟩⟩
    · cases e
    · exact putOne_walk A c h g h' root key val p er deep n f y w hr hcc hhi hkv.1 hkv.2 hnf.1 hnf.2 hro ha e
    · simp only [Option.bind_eq_some_iff] at e
      obtain ⟨⟨g2, p2, er2⟩, ho, e⟩ := e
      exact putOver_walk A c h g g2 h' root key val p p2 er er2 deep n f y z r w hr hcc hhi hkv.1 hkv.2 hnf.1 hnf.2 hro ha ho e
end Go.Proofs.Ytopkoganfnabgaa.H
namespace Go.Proofs.Ytopkoganfnabgaa.H
open Go.RowKit Go.Proofs.YtopkoganfnabgaaW.PrintWords Go.Proofs.YtopkoganfnabgaaW.PrintLast Go.Proofs.YtopkoganfnabgaaW.PrintMore
attribute [local go_sem] max2_int min2_int max_two min_two max_three min_three max_four min_four
set_option linter.unusedVariables false
set_option linter.unusedSimpArgs false
end Go.Proofs.Ytopkoganfnabgaa.H
namespace Go.Proofs.Ytopkoganfnabgaa.H
open Go.RowKit Go.Proofs.YtopkoganfnabgaaW.PrintWords Go.Proofs.YtopkoganfnabgaaW.PrintLast Go.Proofs.YtopkoganfnabgaaW.PrintMore
attribute [local go_sem] max2_int min2_int max_two min_two max_three min_three max_four min_four
set_option linter.unusedVariables false
set_option linter.unusedSimpArgs false
end Go.Proofs.Ytopkoganfnabgaa.H
