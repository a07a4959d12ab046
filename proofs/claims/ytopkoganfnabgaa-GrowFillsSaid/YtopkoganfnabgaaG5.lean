import Derived.Test.YtopkoganfnabgaaG4
import Derived.Test.YtopkoganfnabgaaG2
import Derived.Test.YtopkoganfnabgaaG1
namespace Go.Proofs.Ytopkoganfnabgaa.H
open Go.RowKit Go.Proofs.YtopkoganfnabgaaW.PrintWords Go.Proofs.YtopkoganfnabgaaW.PrintLast Go.Proofs.YtopkoganfnabgaaW.PrintMore
attribute [local go_sem] max2_int min2_int max_two min_two max_three min_three max_four min_four
set_option linter.unusedVariables false
set_option linter.unusedSimpArgs false
theorem one_it (W : World) (x : It) : kIt.C (W.alloc (.cells #[.int .i64 x.k, .int .i64 x.v] 26)) (some ⟨W.heap.size, 0, none⟩) 1 [x] := by
  refine ⟨rfl, by decide, fun _ => ⟨_, rfl, fun j p hj => ?_⟩⟩
  have hj0 : j = 0 := by
    have := (List.getElem?_eq_some_iff.1 hj).1
    simp at this
    exact this
  subst hj0
  cases hj
  refine ⟨[.int .i64 x.k, .int .i64 x.v], rfl, ⟨[.int .i64 x.k], [.int .i64 x.v], rfl, rfl, rfl⟩, fun i u hu => ?_⟩
  have hadd : (({ block := W.heap.size, off := 0 } : Addr).add (0 * kIt.sz + i)) = ⟨W.heap.size, i, none⟩ := by simp [Addr.add]; intro h; exact h.symm
  rw [hadd, blk_cell (blk_new W _) i, ← hu]
  simp
theorem withO_len {l more r : List It} {a g : Nat} (e : withO l a g more = some r) : more.length ≤ 1000 := by
  unfold withO at e
  split at e
  · rename_i h; exact h.2.2
  · cases e
theorem anewO_inv {f : Nat} {h h' : Hp} {p : Int} {x : It} {made : List It} (e : anewO (f + 1) h p x = some (h', made)) :
    inB h p = true ∧ ∃ (i : Nat) (is : Bool) (h1 : Hp) (more : List It) (gone : Nat) (held : List Int) (l1 : List It) (rows : List (List It)), atO (clAt h p).n.leaf (clAt h p).n.it x.k = some (i, is) ∧
      ((clAt h p).n.leaf = true → h1 = h ∧ more = [x] ∧ gone = (if is then 1 else 0) ∧ held = []) ∧
      ((clAt h p).n.leaf = false → i < (clAt h p).n.it.length ∧ anewO f h (itAt (clAt h p).n.it i).v x = some (h1, more) ∧ gone = 1 ∧ held = vL more) ∧
      withO (clAt h p).n.it i gone more = some l1 ∧ splitO l1 = some rows ∧ layO h1 (clAt h p).n.leaf held rows = some (h', made) := by
  unfold anewO at e
  by_cases hin : inB h p = true
  · rw [if_pos hin] at e
    simp only [Option.bind_eq_bind, Option.bind_eq_some_iff] at e
    obtain ⟨⟨i, is⟩, hat, e⟩ := e
    simp only at e
    refine ⟨hin, i, is, ?_⟩
    cases hlf : (clAt h p).n.leaf with
    | true =>
      rw [hlf] at e
      simp only [if_true, Option.bind_eq_some_iff] at e
      obtain ⟨l1, h1, rows, h2, h3⟩ := e
      exact ⟨h, [x], _, [], l1, rows, hlf ▸ hat, fun _ => ⟨rfl, rfl, rfl, rfl⟩, (fun h => by cases h), h1, h2, h3⟩
    | false =>
      rw [hlf] at e
      simp only [Bool.false_eq_true, if_false] at e
      by_cases hi : i < (clAt h p).n.it.length
      · rw [if_pos hi] at e
        simp only [Option.bind_eq_some_iff] at e
        obtain ⟨⟨g, more⟩, h0, l1, h1, rows, h2, h3⟩ := e
        exact ⟨g, more, 1, vL more, l1, rows, hlf ▸ hat, (fun h => by cases h), fun _ => ⟨hi, h0, rfl, rfl⟩, h1, h2, h3⟩
      · rw [if_neg hi] at e; cases e
  · rw [if_neg hin] at e; cases e
theorem layO_inv {h h' : Hp} {lf : Bool} {held : List Int} {x : It} {s : List It} {rows : List (List It)} {made : List It} (e : layO h lf held ((x :: s) :: rows) = some (h', made)) :
    ∃ g p er l, allocO h ⟨lf, x :: s⟩ held = some (g, p, er) ∧ layO g lf held rows = some (h', l) ∧ made = ⟨x.k, p⟩ :: l := by
  unfold layO at e
  simp only [Option.bind_eq_bind, Option.bind_eq_some_iff] at e
  obtain ⟨⟨g, p, er⟩, h1, ⟨g2, l⟩, h2, h3⟩ := e
  simp only [Option.some.injEq, Prod.mk.injEq] at h3
  obtain ⟨rfl, rfl⟩ := h3
  exact ⟨g, p, er, l, h1, h2, rfl⟩
theorem splitO_len {l : List It} {rows : List (List It)} (e : splitO l = some rows) : rows.length ≤ 2 := by
  unfold splitO at e
  split at e
  · cases e; simp
  · split at e
    · cases e; simp
    · split at e
      · cases e; simp
      · cases e
/-- Two slices do not lie where a heap alone lies. -/
theorem Hb_sl {w : World} {g : Nat} (h : Hb w g) (ad : Addr) (t1 t2 : Tr) (e : ad.block = g) (e0 : w.cell? ad = some (trV t1)) (e1 : w.cell? (ad.add 1) = some (trV t2)) : False := by
  obtain ⟨X, a, b, k, t, hb⟩ := h
  obtain ⟨bl, off, inn⟩ := ad
  cases e
  have hb' : w.heap[bl]? = some (Obj.cells #[Value.slice X a b, Value.int IntKind.i64 k] t) := hb
  unfold World.cell? at e0 e1
  unfold Addr.add at e1
  unfold trV at e0 e1
  simp only [hb'] at e0 e1
  cases inn with
  | none =>
    match off with
    | 0 => simp [hb'] at e1
    | 1 => simp at e0
    | n + 2 => simp at e0
  | some j => simp at e0
theorem itM (w : World) (base : Nat) (ok : Nat → Prop) (x : It) : kIt.M w base ok x [.int .i64 x.k, .int .i64 x.v] := ⟨[.int .i64 x.k], [.int .i64 x.v], rfl, rfl, rfl⟩
set_option maxHeartbeats 8000000 in
set_option maxRecDepth 100000 in
/-- (*builder).anew. -/
theorem growAnew_walk : ∀ (f : Nat) (A : Option Addr) (c b : Nat) (h h' : Hp) (p : Int) (x : It) (made : List It) (w : World), w.heap[b]? = some (.cells #[.slice A h.c.length c, .int .i64 h.keep] 86 (0, 0)) → kCl.C w A h.c.length h.c → h.c.length ≤ c → anewO f h p x = some (h', made) →
    Calls Try.prog 44 #[.pointer (some ⟨b, 0, none⟩), .int .i64 p, .agg #[.int .i64 x.k, .int .i64 x.v]] w fun e w' => (∃ M cm, e = .returned (.slice M made.length cm) ∧ made.length ≤ cm ∧ kIt.C w' M made.length made) ∧ (∃ A' c', w'.heap[b]? = some (.cells #[.slice A' h'.c.length c', .int .i64 h'.keep] 86 (0, 0)) ∧ h'.c.length ≤ c' ∧ kCl.C w' A' h'.c.length h'.c) ∧ KeepBut w w' b none ∧ S3 w w' := by
  intro f
  induction f with
  | zero => intro A c b h h' p x made w _ _ _ e; simp [anewO] at e
  | succ f ih =>
    intro A c b h h' p x made w hbb hr hcc e
    obtain ⟨hin, i, is, h1, more, gone, held, l1, rows, hat, hT, hF, hwith, hsplit, hlay⟩ := anewO_inv e
    obtain ⟨q, rfl, hq⟩ := inB_nat hin
    have hcl : clAt h (q : Int) = h.c.getD q zCl := by unfold clAt; rw [Int.toNat_natCast]
    rw [hcl] at hat hT hF hwith hlay
    obtain ⟨ad, B, cb, rfl, _, _, x2, x3, hcb, hB⟩ := at_cl hr q hq
    obtain ⟨n, hn⟩ : ∃ n, n = (h.c.getD q zCl).n := ⟨_, rfl⟩
    rw [← hn] at hat hT hF hwith hlay x2 x3 hcb hB
    obtain ⟨lf, hlf⟩ : ∃ lf, lf = n.leaf := ⟨_, rfl⟩
    rw [← hlf] at hat hT hF hlay x2
    obtain ⟨W1, hW1⟩ : ∃ W1, W1 = (w.alloc (.cells #[.int .i64 x.k, .int .i64 x.v] 26)).alloc (.cells #[.bool lf, .slice B n.it.length cb] 77) := ⟨_, rfl⟩
    have HB0 := Aside0.mk (show Below w.heap.size w W1 by rw [hW1]; exact below_alloc (below_alloc (Below.refl _ _) _) _)
    have HX1 := Aside0.mk (show W1.heap[w.heap.size]? = some (.cells #[.int .i64 x.k, .int .i64 x.v] 26) by rw [hW1]; exact blk_alloc (blk_new w _) _)
    have HN1 := Aside0.mk (show W1.heap[w.heap.size + 1]? = some (.cells #[.bool lf, .slice B n.it.length cb] 77) by rw [hW1]; exact blk2 w _ _)
    have HBB := Aside0.mk (blk_below hbb HB0.out)
    have HROW := Aside0.mk (Kd.C_below hB HB0.out)
    have HBL := Aside0.mk (blk_lt hbb)
    have HAT := Aside0.mk (fun (W : World) (hb : Below W1.heap.size W1 W) => nodeAt_walk lf B cb n.it x.k i is W (Kd.C_below HROW.out hb) hat)
    have HR := Aside0.mk (Kd.C_below hr HB0.out)
    have HCC := Aside0.mk (And.intro hcc hcb)
    have HT := Aside0.mk hT
    have HF := Aside0.mk hF
    have HWL := Aside0.mk (And.intro hwith (And.intro hsplit hlay))
    have HIH := Aside0.mk ih
    have c0 := (blk_cell hbb 0).trans (show _ = some (Value.slice (some ad) h.c.length c) from rfl)
    have c1 := (blk_cell HN1.out 0).trans (show _ = some (Value.bool lf) from rfl)
    have c2 := (blk_cell HN1.out 1).trans (show _ = some (Value.slice B n.it.length cb) from rfl)
    have c3 := (blk_cell HX1.out 0).trans (show _ = some (Value.int .i64 x.k) from rfl)
    have c4 := (blk_cell HX1.out 1).trans (show _ = some (Value.int .i64 x.v) from rfl)
    have r1 : (q < h.c.length) = True := eq_true hq
    have hW1' := Aside0.mk hW1
    have y2 := al1 (o := .cells #[.int .i64 x.k, .int .i64 x.v] 26) x2
    have y3 := al1 (o := .cells #[.int .i64 x.k, .int .i64 x.v] 26) x3
    have y0 := al1 (o := .cells #[.int .i64 x.k, .int .i64 x.v] 26) c0
    clear hin hcl hB hn hlf hat hT hF hwith hsplit hlay hW1 hbb hr hcc e ih hcb hq x2 x3 c0
    go_enter Try.func44, Try.ntmps44
    go_upto_region 2 with (fail)
    rw [← hW1'.out]
    clear y0 y2 y3
    go_upto_region 3 with (first | (go_at_call 58; (with_reducible refine (HAT.out _ (by repeat (first | (with_reducible exact Below.refl _ _) | (with_reducible refine below_alloc ?_ _) | (with_reducible refine below_drew1 ?_) | (with_reducible refine pw_below_drewN ?_ _) | (with_reducible exact Below.refl _ _)))).mono ?_); rintro e w2 ⟨rfl, hb2⟩; have HB2 := Aside0.mk (show Below W1.heap.size W1 w2 from below_step (by repeat (first | (with_reducible exact Below.refl _ _) | (with_reducible refine below_alloc ?_ _) | (with_reducible refine below_drew1 ?_) | (with_reducible refine pw_below_drewN ?_ _) | fail)) hb2); clear hb2) | fail)
    have d1 := bcell HB2.out c1
    have d3 := bcell HB2.out c3
    have d4 := bcell HB2.out c4
    have d2 := bcell HB2.out c2
    go_upto_block 0 with (fail)
    obtain ⟨W3, hW3⟩ : ∃ W3, W3 = w2.alloc (.cells #[.int .i64 x.k, .int .i64 x.v] 26) := ⟨_, rfl⟩
    rw [← hW3]
    have HB3 := Aside0.mk (show Below W1.heap.size W1 W3 by rw [hW3]; exact below_alloc HB2.out _)
    have HONE := Aside0.mk (show kIt.C W3 (some ⟨w2.heap.size, 0, none⟩) [x].length [x] by rw [hW3]; exact one_it w2 x)
    have e1 := (blk_cell (blk_below HN1.out HB3.out) 0).trans (show _ = some (Value.bool lf) from rfl)
    have e2 := (blk_cell (blk_below HN1.out HB3.out) 1).trans (show _ = some (Value.slice B n.it.length cb) from rfl)
    have e3 := (blk_cell (blk_below HX1.out HB3.out) 0).trans (show _ = some (Value.int .i64 x.k) from rfl)
    have e4 := (blk_cell (blk_below HX1.out HB3.out) 1).trans (show _ = some (Value.int .i64 x.v) from rfl)
    clear d1 d2 d3 d4 c1 c2 c3 c4 hW3
    go_cut [10, 11, 12] from 34 to 50 (fun v10 v11 v12 wc => ∃ (h1 : Hp) (A1 : Option Addr) (c1 : Nat) (more : List It) (M : Option Addr) (cm gone : Nat) (held : List Int) (D : Option Addr) (d : Nat) (l1 : List It) (rows : List (List It)), v10 = .slice M more.length cm ∧ v11 = .int .i64 (gone : Int) ∧ v12 = .slice D held.length d ∧ Aside0 (withO n.it i gone more = some l1 ∧ splitO l1 = some rows ∧ layO h1 lf held rows = some (h', made)) ∧ Aside0 (wc.heap[b]? = some (.cells #[.slice A1 h1.c.length c1, .int .i64 h1.keep] 86 (0, 0))) ∧ Aside0 (h1.c.length ≤ c1 ∧ kCl.C wc A1 h1.c.length h1.c) ∧ Aside0 (kIt.C wc M more.length more) ∧ Aside0 (∀ W', KeepBut wc W' b none → (Kd.int .i64).C W' D held.length held) ∧ Aside0 (KeepBut W1 wc b none ∧ S3 W1 wc))
    case first =>
      cases lf with
      | true =>
        obtain ⟨t1, t2, t3, t4⟩ := HT.out rfl
        rw [t1, t2, t3, t4] at HWL
        clear t1 t2 t3 t4
        cases is with
        | true =>
          go_wp2
          go_meet
          case rel => exact ⟨h, some ad, c, [x], some ⟨w2.heap.size, 0, none⟩, 1, 1, [], none, 0, l1, rows, rfl, rfl, rfl, HWL, ⟨blk_below HBB.out HB3.out⟩, ⟨HCC.out.1, Kd.C_below HR.out HB3.out⟩, HONE, ⟨fun _ _ => Kd.C_nil _ _⟩, ⟨KeepBut.of_below HB3.out b none, S3.below HB3.out⟩⟩
        | false =>
          go_wp2
          go_meet
          case rel => exact ⟨h, some ad, c, [x], some ⟨w2.heap.size, 0, none⟩, 1, 0, [], none, 0, l1, rows, rfl, rfl, rfl, HWL, ⟨blk_below HBB.out HB3.out⟩, ⟨HCC.out.1, Kd.C_below HR.out HB3.out⟩, HONE, ⟨fun _ _ => Kd.C_nil _ _⟩, ⟨KeepBut.of_below HB3.out b none, S3.below HB3.out⟩⟩
      | false =>
        obtain ⟨t1, t2, t3, t4⟩ := HF.out rfl
        rw [t3, t4] at HWL
        obtain ⟨ad2, rfl, _, z1⟩ := at_it (Kd.C_below HROW.out HB3.out) i t1
        have q1 : (i < n.it.length) = True := eq_true t1
        obtain ⟨v, hv⟩ : ∃ v, v = (itAt n.it i).v := ⟨_, rfl⟩
        rw [← hv] at t2 z1
        have HCALL := Aside0.mk (fun (W : World) (hb : Below W3.heap.size W3 W) => HIH.out (some ad) c b h h1 v x more W (blk_below HBB.out (below_step HB3.out hb)) (Kd.C_below HR.out (below_step HB3.out hb)) HCC.out.1 t2)
        have HMM := Aside0.mk (withO_len HWL.out.1)
        clear t1 t2 t3 t4 hv
        go_upto_region 6 with (fail)
        go_still_tail 8, (by kernel_rfl)
        go_upto_region 7 with (first | (go_at_call 44; (with_reducible refine (HCALL.out _ (by repeat (first | (with_reducible exact Below.refl _ _) | (with_reducible refine below_alloc ?_ _) | (with_reducible refine below_drew1 ?_) | (with_reducible refine pw_below_drewN ?_ _) | fail))).mono ?_); rintro e w4 ⟨⟨M, cm, rfl, hcm, hM⟩, ⟨A1, c1', hb1, hc1', hr1⟩, hk, hs⟩; have HM := Aside0.mk (And.intro hcm hM); have HH1 := Aside0.mk (And.intro hb1 (And.intro hc1' hr1)); have HK4 := Aside0.mk (show KeepBut W1 w4 b none from keep_trans (KeepBut.of_below HB3.out b none) (keep_trans (KeepBut.of_below (by repeat (first | (with_reducible exact Below.refl _ _) | (with_reducible refine below_alloc ?_ _) | (with_reducible refine below_drew1 ?_) | (with_reducible refine pw_below_drewN ?_ _) | fail)) b none) hk)); have HS4 := Aside0.mk (show S3 W1 w4 from S3.trans (S3.below HB3.out) (S3.trans (S3.below (show Below W3.heap.size W3 _ by repeat (first | (with_reducible exact Below.refl _ _) | (with_reducible refine below_alloc ?_ _) | (with_reducible refine below_drew1 ?_) | (with_reducible refine pw_below_drewN ?_ _) | fail))) hs)); clear hs; clear hcm hM hb1 hc1' hr1 hk) | fail)
        go_wp2_with (first | (go_at_call 51; (with_reducible refine (growPlaces_walk M cm more _ HM.out.2 HMM.out).mono ?_); rintro e w5 ⟨D, d, rfl, hd, hb5⟩; have HD := Aside0.mk hd; have HB5 := Aside0.mk hb5; clear hd hb5) | fail)
        go_meet
        case rel => exact ⟨h1, A1, c1', more, M, cm, 1, vL more, D, d, l1, rows, rfl, rfl, rfl, HWL, ⟨blk_below HH1.out.1 HB5.out⟩, ⟨HH1.out.2.1, Kd.C_below HH1.out.2.2 HB5.out⟩, ⟨Kd.C_below HM.out.2 HB5.out⟩, ⟨fun W' hk => HD.out W' ⟨hk.1, fun i hi hn => hk.2 i hi (fun e => hn (by have := HBL.out; have := HB0.out.size; have := HK4.out.1; show i < _; omega)) (by simp)⟩⟩, ⟨keep_trans HK4.out (KeepBut.of_below HB5.out b none), S3.trans HS4.out (S3.below HB5.out)⟩⟩
    case rest =>
      clear HWL HT HF HIH HONE e1 e2 e3 e4 HAT r1
      obtain ⟨h2, A1, c1, more2, M, cm, gone2, held2, D, d, l2, rows2, rfl, rfl, rfl, HWL, HBBc, HHc, HMc, HDc, HKc0⟩ := hcut
      have HKc := Aside0.mk HKc0.out.1
      have hrowB := it_keep HROW.out (Hb_of HBB.out) HKc.out
      have HNc := Aside0.mk (show wc.heap[w.heap.size + 1]? = some (.cells #[.bool lf, .slice B n.it.length cb] 77) from (HKc.out.2 _ (blk_lt HN1.out) (by have := HBL.out; omega) (by simp)).trans HN1.out)
      have n0 := (blk_cell HNc.out 0).trans (show _ = some (Value.bool lf) from rfl)
      have n1 := (blk_cell HNc.out 1).trans (show _ = some (Value.slice B n.it.length cb) from rfl)
      have HWI := Aside0.mk (nodeWith_walk B M cb cm i gone2 n.it more2 l2 wc hrowB HCC.out.2 HMc.out HWL.out.1)
      have HSPL := Aside0.mk HWL.out.2.1
      clear hrowB
      go_wp2_with (first | (go_at_call 59; (with_reducible refine HWI.out.mono ?_); rintro e w4 ⟨Bw, cbw, rfl, hcw, hrw, hb4⟩; have HB4 := Aside0.mk hb4; have HRW := Aside0.mk (And.intro hcw hrw); clear hcw hrw hb4) | (go_at_call 70; (with_reducible refine (split_walk Bw cbw l2 rows2 _ HRW.out.2 HRW.out.1 HSPL.out).mono ?_); rintro e ws ⟨Bs, cbs, ts, rfl, hsl, hrc, hb5⟩; have HB5 := Aside0.mk (below_step HB4.out hb5); have HSL := Aside0.mk hsl; have HRC := Aside0.mk hrc; clear hsl hrc hb5) | fail)
      have HBBs := Aside0.mk (blk_below HBBc.out HB5.out)
      have HHs := Aside0.mk (Kd.C_below HHc.out.2 HB5.out)
      have HNs := Aside0.mk (blk_below HNc.out HB5.out)
      have hlay := HWL.out.2.2
      have hr2 := splitO_len HSPL.out
      have m0 := (blk_cell HNs.out 0).trans (show _ = some (Value.bool lf) from rfl)
      clear n0 n1
      rcases rows2 with _ | ⟨s1, rest⟩
      · unfold layO at hlay
        simp only [Option.some.injEq, Prod.mk.injEq] at hlay
        obtain ⟨rfl, rfl⟩ := hlay
        clear hr2
        refine wp_loop_rounds 1 ?_
        rw [rounds_succ]; go_wp2
        go_ret
        exact ⟨⟨none, 0, rfl, Nat.le_refl _, Kd.C_nil _ _⟩, ⟨A1, c1, HBBs.out, HHc.out.1, HHs.out⟩, keep_trans (KeepBut.of_below HB0.out b none) (keep_trans HKc.out (KeepBut.of_below HB5.out b none)), S3.trans (S3.below HB0.out) (S3.trans HKc0.out.2 (S3.below HB5.out))⟩
      rcases s1 with _ | ⟨x1, s1⟩
      · unfold layO at hlay; cases hlay
      obtain ⟨g1, p1, er1, l3, hal1, hlay2, rfl⟩ := layO_inv hlay
      rcases ts with _ | ⟨⟨B1, n1, cb1⟩, ts⟩
      · exact HRC.out.elim
      obtain ⟨⟨rfl, hcb1, hrow1⟩, hrc2⟩ := HRC.out
      have HRC2 := Aside0.mk hrc2
      have HLAY1 := Aside0.mk (growLay_walk A1 B1 D c1 cb1 d b h2 g1 lf x1 s1 held2 p1 er1 ws ws HBBs.out HHs.out (Below.refl _ _) HHc.out.1 hrow1 hcb1 (HDc.out ws (KeepBut.of_below HB5.out b none)) hal1)
      have HL2 := Aside0.mk hlay2
      have HR2 := Aside0.mk hr2
      obtain ⟨sa, tt, rfl, htt, hs0⟩ := at_sl HSL.out 0 (by simp)
      obtain rfl : (B1, (x1 :: s1).length, cb1) = tt := by simpa using htt
      have hs0' : ws.cell? sa = some (.slice B1 (x1 :: s1).length cb1) := by
        have e0 : sa.add 0 = sa := by simp [Addr.add]
        rw [e0] at hs0
        exact hs0
      obtain ⟨rl1, hrl1⟩ : ∃ rl1, rl1 = (x1 :: s1).length := ⟨_, rfl⟩
      rw [← hrl1] at HLAY1 hs0'
      rcases rest with _ | ⟨s2, rest⟩
      · unfold layO at hlay2
        simp only [Option.some.injEq, Prod.mk.injEq] at hlay2
        obtain ⟨rfl, rfl⟩ := hlay2
        clear hr2 hlay hal1 hrow1 hrc2 htt hs0 hrl1 hcb1
        refine wp_loop_rounds 2 ?_
        rw [rounds_succ]
        go_wp2_with (first | (go_at_call 43; (with_reducible refine HLAY1.out.mono ?_); rintro e w6 ⟨rfl, ⟨A3, c3', hb6, hc6, hl6⟩, hk6, hs6⟩; have HS6 := Aside0.mk hs6; clear hs6; have HH6 := Aside0.mk (And.intro hb6 (And.intro hc6 hl6)); have HK6 := Aside0.mk hk6; clear hb6 hc6 hl6 hk6) | ((with_reducible refine gate_builtin (b := .append) (xs := #[.tmp 63, .tmp 71]) rfl ?_); at_builtin; refine Kd.R_append kIt (w0 := w6) w6.heap.size rfl (.tmp 63) (.tmp 71) 27 26 (.agg #[.int .i64 0, .int .i64 0]) 16 rfl Try.underlying27 info_it rfl (by decide) (by decide) _ [] ⟨x1.k, p1⟩ [.int .i64 x1.k, .int .i64 p1] (fun k => w6.heap.size ≤ k) (fun _ => False) rfl rfl (itM _ _ _ ⟨x1.k, p1⟩) (fun _ h => h.elim) (fun _ h => h) (Kd.R_nil _ _ _ _ _) (Below.refl _ _) (Nat.le_refl _) (by simp) ?_; intro v1 w7 ho hb hg hat; have HO7 := Aside0.mk (show Kd.R kIt 26 w7 w6.heap.size (fun k => w6.heap.size ≤ k) v1 [⟨x1.k, p1⟩] from ho); have HB7 := Aside0.mk hb; clear ho hb hg hat) | fail)
        rw [rounds_succ]; go_wp2
        go_ret
        obtain ⟨M3, c3, rfl⟩ := Kd.R_slice HO7.out
        have h9 := Kd.R_reads' HO7.out
        exact ⟨⟨M3, c3, rfl, h9.2.1, h9.2.2⟩, ⟨A3, c3', blk_below HH6.out.1 HB7.out, HH6.out.2.1, Kd.C_below HH6.out.2.2.now HB7.out⟩, keep_trans (keep_trans (KeepBut.of_below HB0.out b none) (keep_trans HKc.out (KeepBut.of_below HB5.out b none))) (keep_trans HK6.out (KeepBut.of_below HB7.out b none)), S3.trans (S3.trans (S3.below HB0.out) (S3.trans HKc0.out.2 (S3.below HB5.out))) (S3.trans HS6.out (S3.below HB7.out))⟩
      rcases s2 with _ | ⟨x2, s2⟩
      · unfold layO at hlay2; cases hlay2
      obtain ⟨g2, p2, er2, l4, hal2, hlay3, rfl⟩ := layO_inv hlay2
      rcases rest with _ | ⟨s3, rest⟩
      · unfold layO at hlay3
        simp only [Option.some.injEq, Prod.mk.injEq] at hlay3
        obtain ⟨rfl, rfl⟩ := hlay3
        rcases ts with _ | ⟨⟨B2, n2, cb2⟩, ts⟩
        · exact HRC2.out.elim
        obtain ⟨⟨rfl, hcb2, hrow2⟩, _⟩ := HRC2.out
        obtain ⟨sa2, tt2, hsa, htt2, hs1⟩ := at_sl HSL.out 1 (by simp)
        cases hsa
        obtain rfl : (B2, (x2 :: s2).length, cb2) = tt2 := by simpa using htt2
        have hne : sa.block ≠ b := fun e => Hb_sl (Hb_of HBBs.out) sa (B1, rl1, cb1) (B2, (x2 :: s2).length, cb2) e hs0' hs1
        have HNE := Aside0.mk hne
        have HS1 := Aside0.mk hs1
        have HROW2 := Aside0.mk (And.intro hcb2 (And.intro hrow2 hal2))
        have HDD := Aside0.mk (fun (W : World) (hk : KeepBut ws W b none) => HDc.out W (keep_trans (KeepBut.of_below HB5.out b none) hk))
        obtain ⟨rl2, hrl2⟩ : ∃ rl2, rl2 = (x2 :: s2).length := ⟨_, rfl⟩
        have HRL2 := Aside0.mk hrl2
        clear hr2 hlay hal1 hrow1 hrc2 htt hs0 hrl1 hcb1 hcb2 hrow2 htt2 hs1 hne hlay2 hal2 hrl2
        refine wp_loop_rounds 3 ?_
        rw [rounds_succ]
        go_wp2_with (first | (go_at_call 43; (with_reducible refine HLAY1.out.mono ?_); rintro e w6 ⟨rfl, ⟨A3, c3', hb6, hc6, hl6⟩, hk6, hs6⟩; have HS6 := Aside0.mk hs6; clear hs6; have HH6 := Aside0.mk (And.intro hb6 (And.intro hc6 hl6)); have HK6 := Aside0.mk hk6; clear hb6 hc6 hl6 hk6) | ((with_reducible refine gate_builtin (b := .append) (xs := #[.tmp 63, .tmp 71]) rfl ?_); at_builtin; refine Kd.R_append kIt (w0 := w6) w6.heap.size rfl (.tmp 63) (.tmp 71) 27 26 (.agg #[.int .i64 0, .int .i64 0]) 16 rfl Try.underlying27 info_it rfl (by decide) (by decide) _ [] ⟨x1.k, p1⟩ [.int .i64 x1.k, .int .i64 p1] (fun k => w6.heap.size ≤ k) (fun _ => False) rfl rfl (itM _ _ _ ⟨x1.k, p1⟩) (fun _ h => h.elim) (fun _ h => h) (Kd.R_nil _ _ _ _ _) (Below.refl _ _) (Nat.le_refl _) (by simp) ?_; intro v1 w7 ho hb hg hat; have HO7 := Aside0.mk (show Kd.R kIt 26 w7 w6.heap.size (fun k => w6.heap.size ≤ k) v1 [⟨x1.k, p1⟩] from ho); have HB7 := Aside0.mk hb; clear ho hb hg hat) | fail)
        have hbl6 : b < w6.heap.size := by have h1 := blk_lt HH6.out.1; exact h1
        have HBL6 := Aside0.mk hbl6
        have u1 := bcell HB7.out (keep_cell HK6.out HS1.out (by rw [add_block]; exact HNE.out))
        have u2 := bcell HB7.out (keep_cell HK6.out m0 (by have := HBL.out; show w.heap.size + 1 ≠ b; omega))
        have hlay2 := growLay_walk A3 B2 D c3' cb2 d b g1 g2 lf x2 s2 held2 p2 er2 w6 w7 (blk_below HH6.out.1 HB7.out) HH6.out.2.2.now HB7.out HH6.out.2.1 (it_keep HROW2.out.2.1 (Hb_of HBBs.out) HK6.out) HROW2.out.1 (HDD.out w7 (keep_trans HK6.out (KeepBut.of_below HB7.out b none))) HROW2.out.2.2
        rw [← HRL2.out] at u1 hlay2
        rw [show sa.add 1 = ⟨sa.block, sa.off + 1, none⟩ by unfold Addr.add; simp] at u1
        have HLAY2 := Aside0.mk hlay2
        clear hlay2 hbl6 m0 hs0'
        rw [rounds_succ]
        go_wp2_with (first | (go_at_call 43; (with_reducible refine HLAY2.out.mono ?_); rintro e w8 ⟨rfl, ⟨A4, c4', hb8, hc8, hl8⟩, hk8, hs8⟩; have HS8 := Aside0.mk hs8; clear hs8; have HH8 := Aside0.mk (And.intro hb8 (And.intro hc8 hl8)); have HK8 := Aside0.mk hk8; clear hb8 hc8 hl8 hk8) | ((with_reducible refine gate_builtin (b := .append) (xs := #[.tmp 63, .tmp 71]) rfl ?_); at_builtin; refine Kd.R_append kIt (w0 := w8) w6.heap.size rfl (.tmp 63) (.tmp 71) 27 26 (.agg #[.int .i64 0, .int .i64 0]) 16 rfl Try.underlying27 info_it rfl (by decide) (by decide) _ [⟨x1.k, p1⟩] ⟨x2.k, p2⟩ [.int .i64 x2.k, .int .i64 p2] (fun k => w6.heap.size ≤ k) (fun _ => False) rfl rfl (itM _ _ _ ⟨x2.k, p2⟩) (fun _ h => h.elim) (fun k h => Nat.le_trans (Nat.le_trans HB7.out.size HK8.out.1) h) (Kd.R_kept HO7.out (S := fun k => k = b) ⟨HK8.out.1, fun i hi hn => HK8.out.2 i hi hn (by simp)⟩ (fun k hk e => by have := HBL6.out; omega)) (Below.refl _ _) (Nat.le_trans HB7.out.size HK8.out.1) (by simp) ?_; intro v2 w9 ho hb hg hat; have HO9 := Aside0.mk (show Kd.R kIt 26 w9 w6.heap.size (fun k => w6.heap.size ≤ k) v2 [⟨x1.k, p1⟩, ⟨x2.k, p2⟩] from ho); have HG9 := Aside0.mk hg; clear ho hb hg hat) | fail)
        rw [rounds_succ]; go_wp2
        go_ret
        obtain ⟨M3, c3, rfl⟩ := Kd.R_slice HO9.out
        have h9 := Kd.R_reads' HO9.out
        have hbo : some b ≠ v1.ownBlock := fun e => by have := Kd.R_base HO7.out b e.symm; have := HBL6.out; omega
        refine ⟨⟨M3, c3, rfl, h9.2.1, h9.2.2⟩, ⟨A4, c4', (HG9.out.block b (blk_lt HH8.out.1) hbo).trans HH8.out.1, HH8.out.2.1, HH8.out.2.2 w9 ⟨HG9.out.size, fun i hi hn => HG9.out.block i hi (fun e => hn ⟨Kd.R_base HO7.out i e.symm, Kd.R_lt HO7.out i e.symm⟩)⟩⟩, ?_, S3.trans (S3.trans (S3.trans (S3.below HB0.out) (S3.trans HKc0.out.2 (S3.below HB5.out))) (S3.trans HS6.out (S3.below HB7.out))) (S3.trans HS8.out (S3.grown HG9.out))⟩
        exact ⟨by
            have h1 := HB0.out.size; have h2 := HKc.out.1; have h3 := HB5.out.size; have h4 := HK6.out.1; have h5 := HB7.out.size; have h6 := HK8.out.1; have h7 := HG9.out.size; omega, fun i hi hn _ => by
            have hk8 : KeepBut w w8 b none := keep_trans (keep_trans (KeepBut.of_below HB0.out b none) (keep_trans HKc.out (KeepBut.of_below HB5.out b none))) (keep_trans HK6.out (keep_trans (KeepBut.of_below HB7.out b none) HK8.out))
            refine (HG9.out.block i (Nat.lt_of_lt_of_le hi hk8.1) (fun e => ?_)).trans (hk8.2 i hi hn (by simp))
            have h0 := Kd.R_base HO7.out i e.symm
            have h1 := HB0.out.size; have h2 := HKc.out.1; have h3 := HB5.out.size; have h4 := HK6.out.1; omega⟩
      · simp at hr2
end Go.Proofs.Ytopkoganfnabgaa.H
namespace Go.Proofs.Ytopkoganfnabgaa.H
open Go.RowKit Go.Proofs.YtopkoganfnabgaaW.PrintWords Go.Proofs.YtopkoganfnabgaaW.PrintLast Go.Proofs.YtopkoganfnabgaaW.PrintMore
attribute [local go_sem] max2_int min2_int max_two min_two max_three min_three max_four min_four
set_option linter.unusedVariables false
set_option linter.unusedSimpArgs false
theorem below_le {B B' : Nat} {w W : World} (h : Below B w W) (hB : B' ≤ B) : Below B' w W := ⟨h.os, h.tape, h.output, h.size, fun k hk => h.block k (by omega)⟩
set_option maxHeartbeats 8000000 in
set_option maxRecDepth 100000 in
/-- The reference's Lay. -/
theorem refLay_walk (A D Br : Option Addr) (c d cbr : Nat) (h g : Hp) (lf : Bool) (held : List Int) (rows : List (List It)) (ts : List Tr) (l : List It) (w : World) (hr : kCl.C w A h.c.length h.c) (hcc : h.c.length ≤ c) (hd : (Kd.int .i64).C w D held.length held) (hsl : kSl.C w Br rows.length ts) (hrc : RowsC w ts rows) (hr2 : rows.length ≤ 2) (e : layO h lf held rows = some (g, l)) :
    Calls Try.prog 77 #[.agg #[.slice A h.c.length c, .int .i64 h.keep], .bool lf, .slice Br rows.length cbr, .slice D held.length d] w fun e w' => ∃ B' cb' M cm, e = .returned (.tuple #[.agg #[.slice B' g.c.length cb', .int .i64 g.keep], .slice M l.length cm]) ∧ g.c.length ≤ cb' ∧ kCl.C w' B' g.c.length g.c ∧ l.length ≤ cm ∧ kIt.C w' M l.length l ∧ Below w.heap.size w w' := by
  obtain ⟨W1, hW1⟩ : ∃ W1, W1 = (w.alloc (.cells #[.slice A h.c.length c, .int .i64 h.keep] 24)).alloc (.cells #[.slice none 0 0, .int .i64 0] 24) := ⟨_, rfl⟩
  have HBW1 := Aside0.mk (show Below w.heap.size w W1 by rw [hW1]; exact below_alloc (below_alloc (Below.refl _ _) _) _)
  have HXB1 := Aside0.mk (show W1.heap[w.heap.size]? = some (.cells #[.slice A h.c.length c, .int .i64 h.keep] 24 (0, 0)) by rw [hW1]; exact blk_alloc (blk_new w _) _)
  have HRES1 := Aside0.mk (show W1.heap[w.heap.size + 1]? = some (.cells #[.slice none 0 0, .int .i64 0] 24 (0, 0)) by rw [hW1]; exact blk2 w _ _)
  have HR := Aside0.mk (And.intro hr (And.intro hcc hd))
  have HSL := Aside0.mk hsl
  have HRC := Aside0.mk hrc
  have c0 := (blk_cell HXB1.out 0).trans (show _ = some (Value.slice A h.c.length c) from rfl)
  have c1 := (blk_cell HXB1.out 1).trans (show _ = some (Value.int .i64 h.keep) from rfl)
  have hW1' := Aside0.mk hW1
  have hlay := e
  clear hW1 hr hcc hd hsl hrc e
  go_enter Try.func77, Try.ntmps77
  go_upto_region 1 with (fail)
  rw [← hW1'.out]
  rcases rows with _ | ⟨s1, rest⟩
  · unfold layO at hlay
    simp only [Option.some.injEq, Prod.mk.injEq] at hlay
    obtain ⟨rfl, rfl⟩ := hlay
    have e0 := (blk_cell HRES1.out 0).trans (show _ = some (Value.slice none 0 0) from rfl)
    have e1 := (blk_cell HRES1.out 1).trans (show _ = some (Value.int .i64 0) from rfl)
    have f0 := blk_frozen HRES1.out 0
    have f1 := blk_frozen HRES1.out 1
    clear hr2
    go_wp2
    refine wp_loop_rounds 1 ?_
    rw [rounds_succ]; go_wp2
    refine bodyPost_ret (results_ct rfl _ _ (w.heap.size + 1) 24 #[.slice A h.c.length c, .int .i64 h.keep] (0, 0) _ rfl (hb_store HRES1.out) Try.underlying24 rfl (by kernel_rfl)) rfl ?_
    exact ⟨A, c, none, 0, rfl, HR.out.2.1, cl_store (Kd.C_below HR.out.1 HBW1.out) HRES1.out, Nat.le_refl _, Kd.C_nil _ _, below_set (below_set HBW1.out (by omega)) (by omega)⟩
  rcases s1 with _ | ⟨y1, s1⟩
  · unfold layO at hlay; cases hlay
  obtain ⟨g1, p1, er1, l3, hal1, hlay2, rfl⟩ := layO_inv hlay
  rcases ts with _ | ⟨⟨B1, n1, cb1⟩, ts⟩
  · exact HRC.out.elim
  obtain ⟨⟨rfl, hcb1, hrow1⟩, hrc2⟩ := HRC.out
  have HRC2 := Aside0.mk hrc2
  obtain ⟨sa, tt, hsa, htt, hs0⟩ := at_sl HSL.out 0 (by simp)
  subst hsa
  obtain rfl : (B1, (y1 :: s1).length, cb1) = tt := by simpa using htt
  have hal1' := fun (W : World) (hb : Below W1.heap.size W1 W) => refAlloc_walk A B1 D c cb1 d h g1 ⟨lf, y1 :: s1⟩ held p1 er1 w W HR.out.1 (below_step HBW1.out hb) HR.out.2.1 hrow1 hcb1 (Kd.C_below HR.out.2.2 (below_step HBW1.out hb)) hal1
  have HROW1 := Aside0.mk (show kIt.C w B1 (y1 :: s1).length (y1 :: s1) ∧ 0 < (y1 :: s1).length ∧ itAt (y1 :: s1) 0 = y1 from ⟨hrow1, by simp, rfl⟩)
  obtain ⟨rl1, hrl1⟩ : ∃ rl1, rl1 = (y1 :: s1).length := ⟨_, rfl⟩
  have hs0' : w.cell? sa = some (.slice B1 rl1 cb1) := by
    have e0 : sa.add 0 = sa := by simp [Addr.add]
    rw [e0] at hs0
    rw [hrl1]
    exact hs0
  have HAL1 := Aside0.mk (show ∀ (W : World), Below W1.heap.size W1 W → Calls Try.prog 47 #[.agg #[.slice A h.c.length c, .int .i64 h.keep], .agg #[.bool lf, .slice B1 rl1 cb1], .slice D held.length d] W (fun e w' => ∃ B' cb', e = .returned (.tuple #[.agg #[.slice B' g1.c.length cb', .int .i64 g1.keep], .int .i64 p1, .int .i64 er1]) ∧ g1.c.length ≤ cb' ∧ Lv w W w' B' g1.c ∧ Below W.heap.size W w') by rw [hrl1]; exact hal1')
  have HS1 := Aside0.mk hs0'
  have s1c := bcell HBW1.out hs0'
  have HWS1 := Aside0.mk (show w.heap.size ≤ W1.heap.size from HBW1.out.size)
  have q10 : (0 < rl1) = True := eq_true (by rw [hrl1]; simp)
  have q11 : ((0 : Int) < (rl1 : Int)) = True := eq_true (by have : 0 < rl1 := (by rw [hrl1]; simp); omega)
  have HL2 := Aside0.mk hlay2
  have HR2 := Aside0.mk hr2
  rcases rest with _ | ⟨s2, rest⟩
  · unfold layO at hlay2
    simp only [Option.some.injEq, Prod.mk.injEq] at hlay2
    obtain ⟨rfl, rfl⟩ := hlay2
    clear hr2 hlay hal1 hrow1 hrc2 htt hs0 hrl1 hcb1 hs0' hal1'
    go_wp2
    refine wp_loop_rounds 2 ?_
    rw [rounds_succ]
    go_wp2
    go_cut [12, 13, 14] from 21 to 33 (fun v12 v13 v14 wx => ∃ (XN : Nat) (A9 : Option Addr) (c9 : Nat), v12 = .pointer (some ⟨XN, 0, none⟩) ∧ v13 = .int .i64 p1 ∧ Aside0 (wx.heap[XN]? = some (.cells #[.slice A9 g1.c.length c9, .int .i64 g1.keep] 24 (0, 0))) ∧ Aside0 (g1.c.length ≤ c9 ∧ Lv w W1 wx A9 g1.c) ∧ Aside0 (Below W1.heap.size W1 wx))
    case first =>
      go_region_held3 (fun w' => w'.cell? ⟨w.heap.size, 0, none⟩ = some (.slice A h.c.length c) ∧ w'.cell? ⟨w.heap.size, 1, none⟩ = some (.int .i64 h.keep) ∧ w'.cell? sa = some (.slice B1 rl1 cb1)) (first | exact ⟨c0, c1, s1c⟩ | exact (fun (hb : Below W1.heap.size W1 _) => ⟨bcell hb c0, bcell hb c1, bcell hb s1c⟩) (by repeat (first | (with_reducible exact Below.refl _ _) | (with_reducible refine below_alloc ?_ _) | (with_reducible refine below_drew1 ?_) | (with_reducible refine pw_below_drewN ?_ _) | (with_reducible exact HB2.out) | (with_reducible refine below_set ?_ (Nat.le_refl _))))) (first | (go_at_call 47; (with_reducible refine (HAL1.out _ (by repeat (first | (with_reducible exact Below.refl _ _) | (with_reducible refine below_alloc ?_ _) | (with_reducible refine below_drew1 ?_) | (with_reducible refine pw_below_drewN ?_ _) | fail))).mono ?_); rintro e w2 ⟨A9, c9, rfl, hc9, hl9, hb9⟩; have HB2 := Aside0.mk (show Below W1.heap.size W1 w2 from below_step (by repeat (first | (with_reducible exact Below.refl _ _) | (with_reducible refine below_alloc ?_ _) | (with_reducible refine below_drew1 ?_) | (with_reducible refine pw_below_drewN ?_ _) | fail)) hb9); have HL9 := Aside0.mk (And.intro hc9 hl9); (first | (have qx := blk_below (blk_drew (blk_new W1 (.cells #[.slice none 0 0, .int .i64 0] 24))) hb9; have QX := Aside0.mk qx; have qx0 := (blk_cell qx 0).trans (show _ = some (Value.slice none 0 0) from rfl); have qx1 := (blk_cell qx 1).trans (show _ = some (Value.int .i64 0) from rfl); have qf0 := blk_frozen qx 0; have qf1 := blk_frozen qx 1; clear qx) | skip); clear hc9 hl9 hb9) | fail)
      · go_wp2
        go_meet
        case rel => exact ⟨w2.heap.size, A9, c9, rfl, rfl, ⟨blk_new _ _⟩, ⟨HL9.out.1, Lv_below (Lv_mono HL9.out.2 (by simp)) (below_alloc (Below.refl _ _) _)⟩, ⟨below_alloc HB2.out _⟩⟩
      · go_wp2
        go_meet
        case rel => exact ⟨W1.heap.size, A9, c9, rfl, rfl, ⟨hb_store QX.out⟩, ⟨HL9.out.1, Lv_mono (Lv_set (Lv_set HL9.out.2 HWS1.out (by simp) _) HWS1.out (by simp) _) (by simp)⟩, ⟨below_set (below_set HB2.out (Nat.le_refl _)) (Nat.le_refl _)⟩⟩
    case rest =>
      obtain ⟨XN1, A19, c19, rfl, rfl, HXN1, HLV1, HBX1⟩ := hcut
      obtain ⟨w1x, hw1x⟩ : ∃ w1x, w1x = wc := ⟨_, rfl⟩
      rw [← hw1x] at HXN1 HLV1 HBX1 ⊢
      clear hw1x
      have HXB1x := Aside0.mk (blk_below HXB1.out HBX1.out)
      have HRES1x := Aside0.mk (blk_below HRES1.out HBX1.out)
      have x0 := (blk_cell HXN1.out 0).trans (show _ = some (Value.slice A19 g1.c.length c19) from rfl)
      have x1 := (blk_cell HXN1.out 1).trans (show _ = some (Value.int .i64 g1.keep) from rfl)
      have k0 := (blk_cell HXB1x.out 0).trans (show _ = some (Value.slice A h.c.length c) from rfl)
      have k1 := (blk_cell HXB1x.out 1).trans (show _ = some (Value.int .i64 h.keep) from rfl)
      have f0 := blk_frozen HXB1x.out 0
      have f1 := blk_frozen HXB1x.out 1
      obtain ⟨V1, hV1⟩ : ∃ V1, V1 = ((w1x.setCell ⟨w.heap.size, 0, none⟩ (.slice A19 g1.c.length c19)).setCell ⟨w.heap.size, 1, none⟩ (.int .i64 g1.keep)) := ⟨_, rfl⟩
      have HVB1 := Aside0.mk (show Below w.heap.size w V1 by rw [hV1]; exact below_set (below_set (below_step HBW1.out HBX1.out) (Nat.le_refl _)) (Nat.le_refl _))
      have HVX1 := Aside0.mk (show V1.heap[w.heap.size]? = some (.cells #[.slice A19 g1.c.length c19, .int .i64 g1.keep] 24 (0, 0)) by rw [hV1]; exact hb_store HXB1x.out)
      have HVR1 := Aside0.mk (show V1.heap[w.heap.size + 1]? = some (.cells #[.slice none 0 0, .int .i64 0] 24 (0, 0)) by
        have hne2 : w.heap.size + 1 ≠ w.heap.size := by omega
        rw [hV1]; exact blk_far (blk_far HRES1x.out hne2 _) hne2 _)
      have hkv1 : KeepBut w1x V1 w.heap.size none := by rw [hV1]; exact ((KeepBut.refl _ _ _).set_ 0 _).set_ 1 _
      have HKV1 := Aside0.mk hkv1
      have HVL1 := Aside0.mk (show g1.c.length ≤ c19 ∧ Lv w W1 V1 A19 g1.c from ⟨HLV1.out.1, Lv_hb HLV1.out.2 (Hb_of HXB1x.out) hkv1⟩)
      have hV1' := Aside0.mk hV1
      have y0 := bcell HVB1.out HS1.out
      obtain ⟨ib1, hib1, it1, _⟩ := at_it0 (Kd.C_below HROW1.out.1 HVB1.out) HROW1.out.2.1
      rw [HROW1.out.2.2] at it1
      clear c0 c1 s1c hV1 hkv1
      go_upto_region 7 with (fail)
      rw [← hV1'.out]
      clear x0 x1 k0 k1 f0 f1
      subst hib1
      go_wp2_with (first | (((with_reducible refine gate_builtin (b := .append) (xs := #[.tmp 35, .tmp 45]) rfl ?_); at_builtin; refine Kd.R_append kIt (w0 := V1) V1.heap.size rfl (.tmp 35) (.tmp 45) 27 26 (.agg #[.int .i64 0, .int .i64 0]) 16 rfl Try.underlying27 info_it rfl (by decide) (by decide) _ [] ⟨y1.k, p1⟩ [.int .i64 y1.k, .int .i64 p1] (fun k => V1.heap.size ≤ k) (fun _ => False) rfl rfl (itM _ _ _ ⟨y1.k, p1⟩) (fun _ h => h.elim) (fun k h => Nat.le_trans (Nat.le_refl _) h) (Kd.R_nil _ _ _ _ _) (Below.refl _ _) ((Nat.le_refl _)) (by simp) ?_; intro v1o w1o ho hb hg hat; have HO1 := Aside0.mk (show Kd.R kIt 26 w1o V1.heap.size (fun k => V1.heap.size ≤ k) v1o [⟨y1.k, p1⟩] from ho); have HG1 := Aside0.mk hg; have HBO1 := Aside0.mk hb; clear ho hb hg hat)) | fail)
      have b0 := blk_below HVX1.out HBO1.out
      have b1 := blk_below HVR1.out HBO1.out
      have u0 := (blk_cell b0 0).trans (show _ = some (Value.slice A19 g1.c.length c19) from rfl)
      have u1 := (blk_cell b0 1).trans (show _ = some (Value.int .i64 g1.keep) from rfl)
      have e0 := (blk_cell b1 0).trans (show _ = some (Value.slice none 0 0) from rfl)
      have e1 := (blk_cell b1 1).trans (show _ = some (Value.int .i64 0) from rfl)
      have f0 := blk_frozen b1 0
      have f1 := blk_frozen b1 1
      have HB1 := Aside0.mk b1
      clear b0 b1
      rw [rounds_succ]; go_wp2
      obtain ⟨M, cm, rfl⟩ := Kd.R_slice HO1.out
      refine bodyPost_ret (results_ct rfl _ _ (w.heap.size + 1) 24 #[.slice A19 g1.c.length c19, .int .i64 g1.keep] (0, 0) _ rfl (hb_store HB1.out) Try.underlying24 rfl (by kernel_rfl)) rfl ?_
      have h9 := Kd.R_reads' (Kd.R_set (Kd.R_set HO1.out HB1.out (by decide) 0 (.slice A19 g1.c.length c19)) (blk_put HB1.out 0 _ rfl) (by decide) 1 (.int .i64 g1.keep))
      exact ⟨A19, c19, M, cm, rfl, HVL1.out.1, cl_store (Kd.C_below HVL1.out.2.now HBO1.out) HB1.out, h9.2.1, h9.2.2, below_set (below_set (below_step HVB1.out HBO1.out) (by omega)) (by omega)⟩
  rcases s2 with _ | ⟨y2, s2⟩
  · unfold layO at hlay2; cases hlay2
  obtain ⟨g2, p2, er2, l4, hal2, hlay3, rfl⟩ := layO_inv hlay2
  rcases rest with _ | ⟨s3, rest⟩
  · unfold layO at hlay3
    simp only [Option.some.injEq, Prod.mk.injEq] at hlay3
    obtain ⟨rfl, rfl⟩ := hlay3
    rcases ts with _ | ⟨⟨B2, n2, cb2⟩, ts⟩
    · exact HRC2.out.elim
    obtain ⟨⟨rfl, hcb2, hrow2⟩, _⟩ := HRC2.out
    obtain ⟨sa2, tt2, hsa2, htt2, hs2⟩ := at_sl HSL.out 1 (by simp)
    cases hsa2
    obtain rfl : (B2, (y2 :: s2).length, cb2) = tt2 := by simpa using htt2
    rw [show sa.add 1 = ⟨sa.block, sa.off + 1, none⟩ by unfold Addr.add; simp] at hs2
    have HROW2 := Aside0.mk (show kIt.C w B2 (y2 :: s2).length (y2 :: s2) ∧ 0 < (y2 :: s2).length ∧ itAt (y2 :: s2) 0 = y2 from ⟨hrow2, by simp, rfl⟩)
    have HRW2 := Aside0.mk (And.intro hrow2 (And.intro hcb2 hal2))
    obtain ⟨rl2, hrl2⟩ : ∃ rl2, rl2 = (y2 :: s2).length := ⟨_, rfl⟩
    have HRL2 := Aside0.mk hrl2
    have HS2 := Aside0.mk (show w.cell? ⟨sa.block, sa.off + 1, none⟩ = some (.slice B2 rl2 cb2) by rw [hrl2]; exact hs2)
    have q20 : (0 < rl2) = True := eq_true (by rw [hrl2]; simp)
    have q21 : ((0 : Int) < (rl2 : Int)) = True := eq_true (by have : 0 < rl2 := (by rw [hrl2]; simp); omega)
    clear hr2 hlay hal1 hrow1 hrc2 htt hs0 hrl1 hcb1 hs0' hal1' hlay2 hal2 hcb2 hrow2 htt2 hs2 hrl2
    go_wp2
    refine wp_loop_rounds 3 ?_
    rw [rounds_succ]
    go_wp2
    go_cut [12, 13, 14] from 21 to 33 (fun v12 v13 v14 wx => ∃ (XN : Nat) (A9 : Option Addr) (c9 : Nat), v12 = .pointer (some ⟨XN, 0, none⟩) ∧ v13 = .int .i64 p1 ∧ Aside0 (wx.heap[XN]? = some (.cells #[.slice A9 g1.c.length c9, .int .i64 g1.keep] 24 (0, 0))) ∧ Aside0 (g1.c.length ≤ c9 ∧ Lv w W1 wx A9 g1.c) ∧ Aside0 (Below W1.heap.size W1 wx))
    case first =>
      go_region_held3 (fun w' => w'.cell? ⟨w.heap.size, 0, none⟩ = some (.slice A h.c.length c) ∧ w'.cell? ⟨w.heap.size, 1, none⟩ = some (.int .i64 h.keep) ∧ w'.cell? sa = some (.slice B1 rl1 cb1)) (first | exact ⟨c0, c1, s1c⟩ | exact (fun (hb : Below W1.heap.size W1 _) => ⟨bcell hb c0, bcell hb c1, bcell hb s1c⟩) (by repeat (first | (with_reducible exact Below.refl _ _) | (with_reducible refine below_alloc ?_ _) | (with_reducible refine below_drew1 ?_) | (with_reducible refine pw_below_drewN ?_ _) | (with_reducible exact HB2.out) | (with_reducible refine below_set ?_ (Nat.le_refl _))))) (first | (go_at_call 47; (with_reducible refine (HAL1.out _ (by repeat (first | (with_reducible exact Below.refl _ _) | (with_reducible refine below_alloc ?_ _) | (with_reducible refine below_drew1 ?_) | (with_reducible refine pw_below_drewN ?_ _) | fail))).mono ?_); rintro e w2 ⟨A9, c9, rfl, hc9, hl9, hb9⟩; have HB2 := Aside0.mk (show Below W1.heap.size W1 w2 from below_step (by repeat (first | (with_reducible exact Below.refl _ _) | (with_reducible refine below_alloc ?_ _) | (with_reducible refine below_drew1 ?_) | (with_reducible refine pw_below_drewN ?_ _) | fail)) hb9); have HL9 := Aside0.mk (And.intro hc9 hl9); (first | (have qx := blk_below (blk_drew (blk_new W1 (.cells #[.slice none 0 0, .int .i64 0] 24))) hb9; have QX := Aside0.mk qx; have qx0 := (blk_cell qx 0).trans (show _ = some (Value.slice none 0 0) from rfl); have qx1 := (blk_cell qx 1).trans (show _ = some (Value.int .i64 0) from rfl); have qf0 := blk_frozen qx 0; have qf1 := blk_frozen qx 1; clear qx) | skip); clear hc9 hl9 hb9) | fail)
      · go_wp2
        go_meet
        case rel => exact ⟨w2.heap.size, A9, c9, rfl, rfl, ⟨blk_new _ _⟩, ⟨HL9.out.1, Lv_below (Lv_mono HL9.out.2 (by simp)) (below_alloc (Below.refl _ _) _)⟩, ⟨below_alloc HB2.out _⟩⟩
      · go_wp2
        go_meet
        case rel => exact ⟨W1.heap.size, A9, c9, rfl, rfl, ⟨hb_store QX.out⟩, ⟨HL9.out.1, Lv_mono (Lv_set (Lv_set HL9.out.2 HWS1.out (by simp) _) HWS1.out (by simp) _) (by simp)⟩, ⟨below_set (below_set HB2.out (Nat.le_refl _)) (Nat.le_refl _)⟩⟩
    case rest =>
      obtain ⟨XN1, A19, c19, rfl, rfl, HXN1, HLV1, HBX1⟩ := hcut
      obtain ⟨w1x, hw1x⟩ : ∃ w1x, w1x = wc := ⟨_, rfl⟩
      rw [← hw1x] at HXN1 HLV1 HBX1 ⊢
      clear hw1x
      have HXB1x := Aside0.mk (blk_below HXB1.out HBX1.out)
      have HRES1x := Aside0.mk (blk_below HRES1.out HBX1.out)
      have x0 := (blk_cell HXN1.out 0).trans (show _ = some (Value.slice A19 g1.c.length c19) from rfl)
      have x1 := (blk_cell HXN1.out 1).trans (show _ = some (Value.int .i64 g1.keep) from rfl)
      have k0 := (blk_cell HXB1x.out 0).trans (show _ = some (Value.slice A h.c.length c) from rfl)
      have k1 := (blk_cell HXB1x.out 1).trans (show _ = some (Value.int .i64 h.keep) from rfl)
      have f0 := blk_frozen HXB1x.out 0
      have f1 := blk_frozen HXB1x.out 1
      obtain ⟨V1, hV1⟩ : ∃ V1, V1 = ((w1x.setCell ⟨w.heap.size, 0, none⟩ (.slice A19 g1.c.length c19)).setCell ⟨w.heap.size, 1, none⟩ (.int .i64 g1.keep)) := ⟨_, rfl⟩
      have HVB1 := Aside0.mk (show Below w.heap.size w V1 by rw [hV1]; exact below_set (below_set (below_step HBW1.out HBX1.out) (Nat.le_refl _)) (Nat.le_refl _))
      have HVX1 := Aside0.mk (show V1.heap[w.heap.size]? = some (.cells #[.slice A19 g1.c.length c19, .int .i64 g1.keep] 24 (0, 0)) by rw [hV1]; exact hb_store HXB1x.out)
      have HVR1 := Aside0.mk (show V1.heap[w.heap.size + 1]? = some (.cells #[.slice none 0 0, .int .i64 0] 24 (0, 0)) by
        have hne2 : w.heap.size + 1 ≠ w.heap.size := by omega
        rw [hV1]; exact blk_far (blk_far HRES1x.out hne2 _) hne2 _)
      have hkv1 : KeepBut w1x V1 w.heap.size none := by rw [hV1]; exact ((KeepBut.refl _ _ _).set_ 0 _).set_ 1 _
      have HKV1 := Aside0.mk hkv1
      have HVL1 := Aside0.mk (show g1.c.length ≤ c19 ∧ Lv w W1 V1 A19 g1.c from ⟨HLV1.out.1, Lv_hb HLV1.out.2 (Hb_of HXB1x.out) hkv1⟩)
      have hV1' := Aside0.mk hV1
      have y0 := bcell HVB1.out HS1.out
      obtain ⟨ib1, hib1, it1, _⟩ := at_it0 (Kd.C_below HROW1.out.1 HVB1.out) HROW1.out.2.1
      rw [HROW1.out.2.2] at it1
      clear c0 c1 s1c hV1 hkv1
      go_upto_region 7 with (fail)
      rw [← hV1'.out]
      clear x0 x1 k0 k1 f0 f1
      subst hib1
      go_wp2_with (first | (((with_reducible refine gate_builtin (b := .append) (xs := #[.tmp 35, .tmp 45]) rfl ?_); at_builtin; refine Kd.R_append kIt (w0 := V1) V1.heap.size rfl (.tmp 35) (.tmp 45) 27 26 (.agg #[.int .i64 0, .int .i64 0]) 16 rfl Try.underlying27 info_it rfl (by decide) (by decide) _ [] ⟨y1.k, p1⟩ [.int .i64 y1.k, .int .i64 p1] (fun k => V1.heap.size ≤ k) (fun _ => False) rfl rfl (itM _ _ _ ⟨y1.k, p1⟩) (fun _ h => h.elim) (fun k h => Nat.le_trans (Nat.le_refl _) h) (Kd.R_nil _ _ _ _ _) (Below.refl _ _) ((Nat.le_refl _)) (by simp) ?_; intro v1o w1o ho hb hg hat; have HO1 := Aside0.mk (show Kd.R kIt 26 w1o V1.heap.size (fun k => V1.heap.size ≤ k) v1o [⟨y1.k, p1⟩] from ho); have HG1 := Aside0.mk hg; have HBO1 := Aside0.mk hb; clear ho hb hg hat)) | fail)
      have HXB2 := Aside0.mk (blk_below HVX1.out HBO1.out)
      have HRES2 := Aside0.mk (blk_below HVR1.out HBO1.out)
      have HBW2 := Aside0.mk (below_step HVB1.out HBO1.out)
      have c0 := (blk_cell HXB2.out 0).trans (show _ = some (Value.slice A19 g1.c.length c19) from rfl)
      have c1 := (blk_cell HXB2.out 1).trans (show _ = some (Value.int .i64 g1.keep) from rfl)
      have s2c := bcell HBW2.out HS2.out
      have HWS2 := Aside0.mk (show V1.heap.size ≤ w1o.heap.size from HBO1.out.size)
      have HAL2 := Aside0.mk (show ∀ (W : World), Below w1o.heap.size w1o W → Calls Try.prog 47 #[.agg #[.slice A19 g1.c.length c19, .int .i64 g1.keep], .agg #[.bool lf, .slice B2 rl2 cb2], .slice D held.length d] W (fun e w' => ∃ B' cb', e = .returned (.tuple #[.agg #[.slice B' g2.c.length cb', .int .i64 g2.keep], .int .i64 p2, .int .i64 er2]) ∧ g2.c.length ≤ cb' ∧ Lv V1 W w' B' g2.c ∧ Below W.heap.size W w') by
        rw [HRL2.out]
        exact fun W hb => refAlloc_walk A19 B2 D c19 cb2 d g1 g2 ⟨lf, y2 :: s2⟩ held p2 er2 V1 W HVL1.out.2.now (below_step HBO1.out hb) HVL1.out.1 (Kd.C_below HRW2.out.1 HVB1.out) HRW2.out.2.1 (Kd.C_below HR.out.2.2 (below_step HBW2.out hb)) HRW2.out.2.2)
      clear it1 y0
      rw [rounds_succ]
      go_wp2
      go_cut [12, 13, 14] from 21 to 33 (fun v12 v13 v14 wx => ∃ (XN : Nat) (A9 : Option Addr) (c9 : Nat), v12 = .pointer (some ⟨XN, 0, none⟩) ∧ v13 = .int .i64 p2 ∧ Aside0 (wx.heap[XN]? = some (.cells #[.slice A9 g2.c.length c9, .int .i64 g2.keep] 24 (0, 0))) ∧ Aside0 (g2.c.length ≤ c9 ∧ Lv V1 w1o wx A9 g2.c) ∧ Aside0 (Below w1o.heap.size w1o wx))
      case first =>
        go_region_held3 (fun w' => w'.cell? ⟨w.heap.size, 0, none⟩ = some (.slice A19 g1.c.length c19) ∧ w'.cell? ⟨w.heap.size, 1, none⟩ = some (.int .i64 g1.keep) ∧ w'.cell? ⟨sa.block, sa.off + 1, none⟩ = some (.slice B2 rl2 cb2)) (first | exact ⟨c0, c1, s2c⟩ | exact (fun (hb : Below w1o.heap.size w1o _) => ⟨bcell hb c0, bcell hb c1, bcell hb s2c⟩) (by repeat (first | (with_reducible exact Below.refl _ _) | (with_reducible refine below_alloc ?_ _) | (with_reducible refine below_drew1 ?_) | (with_reducible refine pw_below_drewN ?_ _) | (with_reducible exact HB2.out) | (with_reducible refine below_set ?_ (Nat.le_refl _))))) (first | (go_at_call 47; (with_reducible refine (HAL2.out _ (by repeat (first | (with_reducible exact Below.refl _ _) | (with_reducible refine below_alloc ?_ _) | (with_reducible refine below_drew1 ?_) | (with_reducible refine pw_below_drewN ?_ _) | fail))).mono ?_); rintro e w2 ⟨A9, c9, rfl, hc9, hl9, hb9⟩; have HB2 := Aside0.mk (show Below w1o.heap.size w1o w2 from below_step (by repeat (first | (with_reducible exact Below.refl _ _) | (with_reducible refine below_alloc ?_ _) | (with_reducible refine below_drew1 ?_) | (with_reducible refine pw_below_drewN ?_ _) | fail)) hb9); have HL9 := Aside0.mk (And.intro hc9 hl9); (first | (have qx := blk_below (blk_drew (blk_new w1o (.cells #[.slice none 0 0, .int .i64 0] 24))) hb9; have QX := Aside0.mk qx; have qx0 := (blk_cell qx 0).trans (show _ = some (Value.slice none 0 0) from rfl); have qx1 := (blk_cell qx 1).trans (show _ = some (Value.int .i64 0) from rfl); have qf0 := blk_frozen qx 0; have qf1 := blk_frozen qx 1; clear qx) | skip); clear hc9 hl9 hb9) | fail)
        · go_wp2
          go_meet
          case rel => exact ⟨w2.heap.size, A9, c9, rfl, rfl, ⟨blk_new _ _⟩, ⟨HL9.out.1, Lv_below (Lv_mono HL9.out.2 (by simp)) (below_alloc (Below.refl _ _) _)⟩, ⟨below_alloc HB2.out _⟩⟩
        · go_wp2
          go_meet
          case rel => exact ⟨w1o.heap.size, A9, c9, rfl, rfl, ⟨hb_store QX.out⟩, ⟨HL9.out.1, Lv_mono (Lv_set (Lv_set HL9.out.2 HWS2.out (by simp) _) HWS2.out (by simp) _) (by simp)⟩, ⟨below_set (below_set HB2.out (Nat.le_refl _)) (Nat.le_refl _)⟩⟩
      case rest =>
        obtain ⟨XN2, A29, c29, rfl, rfl, HXN2, HLV2, HBX2⟩ := hcut
        obtain ⟨w2x, hw2x⟩ : ∃ w2x, w2x = wc := ⟨_, rfl⟩
        rw [← hw2x] at HXN2 HLV2 HBX2 ⊢
        clear hw2x
        have HXB2x := Aside0.mk (blk_below HXB2.out HBX2.out)
        have HRES2x := Aside0.mk (blk_below HRES2.out HBX2.out)
        have x0 := (blk_cell HXN2.out 0).trans (show _ = some (Value.slice A29 g2.c.length c29) from rfl)
        have x1 := (blk_cell HXN2.out 1).trans (show _ = some (Value.int .i64 g2.keep) from rfl)
        have k0 := (blk_cell HXB2x.out 0).trans (show _ = some (Value.slice A19 g1.c.length c19) from rfl)
        have k1 := (blk_cell HXB2x.out 1).trans (show _ = some (Value.int .i64 g1.keep) from rfl)
        have f0 := blk_frozen HXB2x.out 0
        have f1 := blk_frozen HXB2x.out 1
        obtain ⟨V2, hV2⟩ : ∃ V2, V2 = ((w2x.setCell ⟨w.heap.size, 0, none⟩ (.slice A29 g2.c.length c29)).setCell ⟨w.heap.size, 1, none⟩ (.int .i64 g2.keep)) := ⟨_, rfl⟩
        have HVB2 := Aside0.mk (show Below w.heap.size w V2 by rw [hV2]; exact below_set (below_set (below_step HBW2.out HBX2.out) (Nat.le_refl _)) (Nat.le_refl _))
        have HVX2 := Aside0.mk (show V2.heap[w.heap.size]? = some (.cells #[.slice A29 g2.c.length c29, .int .i64 g2.keep] 24 (0, 0)) by rw [hV2]; exact hb_store HXB2x.out)
        have HVR2 := Aside0.mk (show V2.heap[w.heap.size + 1]? = some (.cells #[.slice none 0 0, .int .i64 0] 24 (0, 0)) by
          have hne2 : w.heap.size + 1 ≠ w.heap.size := by omega
          rw [hV2]; exact blk_far (blk_far HRES2x.out hne2 _) hne2 _)
        have hkv2 : KeepBut w2x V2 w.heap.size none := by rw [hV2]; exact ((KeepBut.refl _ _ _).set_ 0 _).set_ 1 _
        have HKV2 := Aside0.mk hkv2
        have HVL2 := Aside0.mk (show g2.c.length ≤ c29 ∧ Lv V1 w1o V2 A29 g2.c from ⟨HLV2.out.1, Lv_hb HLV2.out.2 (Hb_of HXB2x.out) hkv2⟩)
        have hV2' := Aside0.mk hV2
        have y0 := bcell HVB2.out HS2.out
        obtain ⟨ib2, hib2, it2, _⟩ := at_it0 (Kd.C_below HROW2.out.1 HVB2.out) HROW2.out.2.1
        rw [HROW2.out.2.2] at it2
        clear c0 c1 s2c hV2 hkv2
        go_upto_region 7 with (fail)
        rw [← hV2'.out]
        clear x0 x1 k0 k1 f0 f1
        subst hib2
        have HSZ := Aside0.mk (show V1.heap.size ≤ V2.heap.size from Nat.le_trans HBO1.out.size (Nat.le_trans HBX2.out.size HKV2.out.1))
        have HWV := Aside0.mk (show w.heap.size < V1.heap.size from blk_lt HVX1.out)
        have HOV := Aside0.mk (Kd.R_kept (Kd.R_below HO1.out HBX2.out) (S := fun k => k = w.heap.size) ⟨HKV2.out.1, fun i hi hn => HKV2.out.2 i hi hn (by simp)⟩ (fun k hk e => by have := HWV.out; omega))
        go_wp2_with (first | (((with_reducible refine gate_builtin (b := .append) (xs := #[.tmp 35, .tmp 45]) rfl ?_); at_builtin; refine Kd.R_append kIt (w0 := V2) V1.heap.size rfl (.tmp 35) (.tmp 45) 27 26 (.agg #[.int .i64 0, .int .i64 0]) 16 rfl Try.underlying27 info_it rfl (by decide) (by decide) _ [⟨y1.k, p1⟩] ⟨y2.k, p2⟩ [.int .i64 y2.k, .int .i64 p2] (fun k => V1.heap.size ≤ k) (fun _ => False) rfl rfl (itM _ _ _ ⟨y2.k, p2⟩) (fun _ h => h.elim) (fun k h => Nat.le_trans HSZ.out h) (HOV.out) (Below.refl _ _) (HSZ.out) (by simp) ?_; intro v2o w2o ho hb hg hat; have HO2 := Aside0.mk (show Kd.R kIt 26 w2o V1.heap.size (fun k => V1.heap.size ≤ k) v2o [⟨y1.k, p1⟩, ⟨y2.k, p2⟩] from ho); have HG2 := Aside0.mk hg; have HBO2 := Aside0.mk hb; clear ho hb hg hat)) | fail)
        have b0 := (HBO2.out.block _ HWV.out).trans HVX2.out
        have b1 := (HBO2.out.block _ (blk_lt HVR1.out)).trans HVR2.out
        have u0 := (blk_cell b0 0).trans (show _ = some (Value.slice A29 g2.c.length c29) from rfl)
        have u1 := (blk_cell b0 1).trans (show _ = some (Value.int .i64 g2.keep) from rfl)
        have e0 := (blk_cell b1 0).trans (show _ = some (Value.slice none 0 0) from rfl)
        have e1 := (blk_cell b1 1).trans (show _ = some (Value.int .i64 0) from rfl)
        have f0 := blk_frozen b1 0
        have f1 := blk_frozen b1 1
        have HB1 := Aside0.mk b1
        clear b0 b1
        rw [rounds_succ]; go_wp2
        obtain ⟨M, cm, rfl⟩ := Kd.R_slice HO2.out
        refine bodyPost_ret (results_ct rfl _ _ (w.heap.size + 1) 24 #[.slice A29 g2.c.length c29, .int .i64 g2.keep] (0, 0) _ rfl (hb_store HB1.out) Try.underlying24 rfl (by kernel_rfl)) rfl ?_
        have h9 := Kd.R_reads' (Kd.R_set (Kd.R_set HO2.out HB1.out (by decide) 0 (.slice A29 g2.c.length c29)) (blk_put HB1.out 0 _ rfl) (by decide) 1 (.int .i64 g2.keep))
        have hcl : kCl.C w2o A29 g2.c.length g2.c := HVL2.out.2 w2o ⟨HG2.out.size, fun i hi hn => HG2.out.block i hi (fun e => hn ⟨Kd.R_base HO1.out i e.symm, Kd.R_lt HO1.out i e.symm⟩)⟩
        have hbw : Below w.heap.size w w2o := HVB2.out.trans (below_le HBO2.out (Nat.le_of_lt HWV.out))
        exact ⟨A29, c29, M, cm, rfl, HVL2.out.1, cl_store hcl HB1.out, h9.2.1, h9.2.2, below_set (below_set hbw (by omega)) (by omega)⟩
  · simp at hr2
end Go.Proofs.Ytopkoganfnabgaa.H
namespace Go.Proofs.Ytopkoganfnabgaa.H
open Go.RowKit Go.Proofs.YtopkoganfnabgaaW.PrintWords Go.Proofs.YtopkoganfnabgaaW.PrintLast Go.Proofs.YtopkoganfnabgaaW.PrintMore
attribute [local go_sem] max2_int min2_int max_two min_two max_three min_three max_four min_four
set_option linter.unusedVariables false
set_option linter.unusedSimpArgs false
set_option maxHeartbeats 8000000 in
set_option maxRecDepth 100000 in
/-- The reference's anew. -/
theorem refAnew_walk : ∀ (f : Nat) (A : Option Addr) (c : Nat) (h h' : Hp) (p : Int) (x : It) (made : List It) (w : World), kCl.C w A h.c.length h.c → h.c.length ≤ c → anewO f h p x = some (h', made) →
    Calls Try.prog 48 #[.agg #[.slice A h.c.length c, .int .i64 h.keep], .int .i64 p, .agg #[.int .i64 x.k, .int .i64 x.v]] w fun e w' => ∃ B' cb' M cm, e = .returned (.tuple #[.agg #[.slice B' h'.c.length cb', .int .i64 h'.keep], .slice M made.length cm]) ∧ h'.c.length ≤ cb' ∧ kCl.C w' B' h'.c.length h'.c ∧ made.length ≤ cm ∧ kIt.C w' M made.length made ∧ Below w.heap.size w w' := by
  intro f
  induction f with
  | zero => intro A c h h' p x made w _ _ e; simp [anewO] at e
  | succ f ih =>
    intro A c h h' p x made w hr hcc e
    obtain ⟨hin, i, is, h1, more, gone, held, l1, rows, hat, hT, hF, hwith, hsplit, hlay⟩ := anewO_inv e
    obtain ⟨q, rfl, hq⟩ := inB_nat hin
    have hcl : clAt h (q : Int) = h.c.getD q zCl := by unfold clAt; rw [Int.toNat_natCast]
    rw [hcl] at hat hT hF hwith hlay
    obtain ⟨ad, B, cb, hade, _, _, x2, x3, hcb, hB⟩ := at_cl hr q hq
    obtain ⟨n, hn⟩ : ∃ n, n = (h.c.getD q zCl).n := ⟨_, rfl⟩
    rw [← hn] at hat hT hF hwith hlay x2 x3 hcb hB
    obtain ⟨lf, hlf⟩ : ∃ lf, lf = n.leaf := ⟨_, rfl⟩
    obtain ⟨l, hll⟩ : ∃ l, l = n.it := ⟨_, rfl⟩
    rw [← hlf, ← hll] at hat
    rw [← hlf] at hT hF hlay x2
    rw [← hll] at hF hwith hcb hB x3
    obtain ⟨W1, hW1⟩ : ∃ W1, W1 = (((w.alloc (.cells #[.slice A h.c.length c, .int .i64 h.keep] 24)).alloc (.cells #[.int .i64 x.k, .int .i64 x.v] 26)).alloc (.cells #[.slice none 0 0, .int .i64 0] 24)).alloc (.cells #[.bool lf, .slice B l.length cb] 77) := ⟨_, rfl⟩
    have HB0 := Aside0.mk (show Below w.heap.size w W1 by rw [hW1]; exact below_alloc (below_alloc (below_alloc (below_alloc (Below.refl _ _) _) _) _) _)
    have HH1 := Aside0.mk (show W1.heap[w.heap.size]? = some (.cells #[.slice A h.c.length c, .int .i64 h.keep] 24) by rw [hW1]; exact blk_alloc (blk_alloc (blk_alloc (blk_new w _) _) _) _)
    have HX1 := Aside0.mk (show W1.heap[w.heap.size + 1]? = some (.cells #[.int .i64 x.k, .int .i64 x.v] 26) by rw [hW1]; exact blk_alloc (blk_alloc (blk2 w _ _) _) _)
    have HRES := Aside0.mk (show W1.heap[w.heap.size + 1 + 1]? = some (.cells #[.slice none 0 0, .int .i64 0] 24) by rw [hW1]; exact blk_alloc (blk3 w _ _ _) _)
    have HN1 := Aside0.mk (show W1.heap[w.heap.size + 1 + 1 + 1]? = some (.cells #[.bool lf, .slice B l.length cb] 77) by rw [hW1]; exact blk4 w _ _ _ _)
    have HR := Aside0.mk (And.intro (Kd.C_below hr HB0.out) hcc)
    have HROW := Aside0.mk (And.intro (Kd.C_below hB HB0.out) hcb)
    have HAT := Aside0.mk (fun (W : World) (hb : Below W1.heap.size W1 W) => refAt_walk lf B cb l x.k i is W (Kd.C_below HROW.out.1 hb) hat)
    have HSPL := Aside0.mk hsplit
    have HWL := Aside0.mk (And.intro hwith hlay)
    have HT := Aside0.mk hT
    have HF := Aside0.mk hF
    have HIH := Aside0.mk ih
    have HNE := Aside0.mk (show w.heap.size ≠ w.heap.size + 1 + 1 ∧ w.heap.size + 1 + 1 + 1 ≠ w.heap.size + 1 + 1 ∧ w.heap.size + 1 ≠ w.heap.size + 1 + 1 by omega)
    have r1 : (q < h.c.length) = True := eq_true hq
    have hW1' := Aside0.mk hW1
    have hx2 : ∀ (o1 o2 o3 : Obj), (((w.alloc o1).alloc o2).alloc o3).cell? ⟨(ad.add (q * 4)).block, (ad.add (q * 4)).off + 2, none⟩ = some (.bool lf) := fun o1 o2 o3 => al1 (al1 (al1 x2 o1) o2) o3
    have hx3 : ∀ (o1 o2 o3 : Obj), (((w.alloc o1).alloc o2).alloc o3).cell? ⟨(ad.add (q * 4)).block, (ad.add (q * 4)).off + 2 + 1, none⟩ = some (.slice B l.length cb) := fun o1 o2 o3 => al1 (al1 (al1 x3 o1) o2) o3
    have z2 := hx2 (.cells #[.slice A h.c.length c, .int .i64 h.keep] 24) (.cells #[.int .i64 x.k, .int .i64 x.v] 26) (.cells #[.slice none 0 0, .int .i64 0] 24)
    have z3 := hx3 (.cells #[.slice A h.c.length c, .int .i64 h.keep] 24) (.cells #[.int .i64 x.k, .int .i64 x.v] 26) (.cells #[.slice none 0 0, .int .i64 0] 24)
    subst hade
    have c0 := (blk_cell HH1.out 0).trans (show _ = some (Value.slice (some ad) h.c.length c) from rfl)
    have c1 := (blk_cell HH1.out 1).trans (show _ = some (Value.int .i64 h.keep) from rfl)
    have c2 := (blk_cell HN1.out 0).trans (show _ = some (Value.bool lf) from rfl)
    have c3 := (blk_cell HN1.out 1).trans (show _ = some (Value.slice B l.length cb) from rfl)
    have c4 := (blk_cell HX1.out 0).trans (show _ = some (Value.int .i64 x.k) from rfl)
    have c5 := (blk_cell HX1.out 1).trans (show _ = some (Value.int .i64 x.v) from rfl)
    clear hin hcl hB hn hlf hll hat hT hF hwith hsplit hlay hW1 hr hcc e ih hcb hq x2 x3 hx2 hx3
    go_enter Try.func48, Try.ntmps48
    go_upto_region 2 with (fail)
    rw [← hW1'.out]
    clear z2 z3
    go_upto_region 3 with (first | (go_at_call 76; (with_reducible refine (HAT.out _ (by repeat (first | (with_reducible exact Below.refl _ _) | (with_reducible refine below_alloc ?_ _) | (with_reducible refine below_drew1 ?_) | (with_reducible refine pw_below_drewN ?_ _) | (with_reducible exact Below.refl _ _)))).mono ?_); rintro e w2 ⟨rfl, hb2⟩; have HB2 := Aside0.mk (show Below W1.heap.size W1 w2 from below_step (by repeat (first | (with_reducible exact Below.refl _ _) | (with_reducible refine below_alloc ?_ _) | (with_reducible refine below_drew1 ?_) | (with_reducible refine pw_below_drewN ?_ _) | (with_reducible exact Below.refl _ _))) hb2); clear hb2) | fail)
    have d0 := bcell HB2.out c0
    have d1 := bcell HB2.out c1
    have d5 := bcell HB2.out c2
    have d2 := bcell HB2.out c3
    have d3 := bcell HB2.out c4
    have d4 := bcell HB2.out c5
    clear c0 c1 c2 c3 c4 c5 r1
    cases lf with
    | true =>
      obtain ⟨t1, t2, t3, t4⟩ := HT.out rfl
      cases is with
      | true =>
        rw [t1, t2, show gone = 1 from t3, t4] at HWL
        have HWI := Aside0.mk (fun (W : World) (M : Option Addr) (hb : Below w2.heap.size w2 W) (hM : kIt.C W M 1 [x]) => show Calls Try.prog 79 #[.slice B l.length cb, .int .i64 (i : Int), .int .i64 1, .slice M 1 1] W (fun e w' => ∃ B cb, e = .returned (.slice B l1.length cb) ∧ l1.length ≤ cb ∧ kIt.C w' B l1.length l1 ∧ Below W.heap.size W w') from refWith_walk B M cb 1 i 1 l [x] l1 W (Kd.C_below HROW.out.1 (below_step HB2.out hb)) HROW.out.2 hM HWL.out.1)
        have HLY := Aside0.mk HWL.out.2
        have HLA := Aside0.mk (fun (Bs : Option Addr) (cbs : Nat) (ts : List Tr) (W : World) (hb : Below W1.heap.size W1 W) (hsl : kSl.C W Bs rows.length ts) (hrc : RowsC W ts rows) => show Calls Try.prog 77 #[.agg #[.slice (some ad) h.c.length c, .int .i64 h.keep], .bool true, .slice Bs rows.length cbs, .slice none 0 0] W (fun e w' => ∃ B' cb' M cm, e = .returned (.tuple #[.agg #[.slice B' h'.c.length cb', .int .i64 h'.keep], .slice M made.length cm]) ∧ h'.c.length ≤ cb' ∧ kCl.C w' B' h'.c.length h'.c ∧ made.length ≤ cm ∧ kIt.C w' M made.length made ∧ Below W.heap.size W w') from refLay_walk (some ad) none Bs c 0 cbs h h' true [] rows ts made W (Kd.C_below HR.out.1 hb) HR.out.2 (Kd.C_nil _ _) hsl hrc (splitO_len HSPL.out) (t1 ▸ HLY.out))
        clear t1 t2 t3 t4
        go_upto_region 7 with (fail)
        go_region_held3 (fun w' => w'.cell? ⟨w.heap.size, 0, none⟩ = some (.slice (some ad) h.c.length c) ∧ w'.cell? ⟨w.heap.size, 1, none⟩ = some (.int .i64 h.keep) ∧ w'.cell? ⟨w.heap.size + 1 + 1 + 1, 1, none⟩ = some (.slice B l.length cb) ∧ w'.cell? ⟨w.heap.size + 1, 0, none⟩ = some (.int .i64 x.k) ∧ w'.cell? ⟨w.heap.size + 1, 1, none⟩ = some (.int .i64 x.v)) (first | exact ⟨d0, d1, d2, d3, d4⟩ | exact ⟨(cell_far HNE.out.1 _).trans ((cell_far HNE.out.1 _).trans (bcell HB5.out d0)), (cell_far HNE.out.1 _).trans ((cell_far HNE.out.1 _).trans (bcell HB5.out d1)), (cell_far HNE.out.2.1 _).trans ((cell_far HNE.out.2.1 _).trans (bcell HB5.out d2)), (cell_far HNE.out.2.2 _).trans ((cell_far HNE.out.2.2 _).trans (bcell HB5.out d3)), (cell_far HNE.out.2.2 _).trans ((cell_far HNE.out.2.2 _).trans (bcell HB5.out d4))⟩ | exact (fun (hb : Below w2.heap.size w2 _) => ⟨bcell hb d0, bcell hb d1, bcell hb d2, bcell hb d3, bcell hb d4⟩) (by repeat (first | (with_reducible exact Below.refl _ _) | (with_reducible refine below_alloc ?_ _) | (with_reducible refine below_drew1 ?_) | (with_reducible refine pw_below_drewN ?_ _) | (with_reducible exact HB5.out) | (with_reducible exact HB4.out) | (with_reducible exact HB3.out)))) (first | (go_at_call 79; (with_reducible refine (HWI.out _ _ (by repeat (first | (with_reducible exact Below.refl _ _) | (with_reducible refine below_alloc ?_ _) | (with_reducible refine below_drew1 ?_) | (with_reducible refine pw_below_drewN ?_ _) | (with_reducible exact Below.refl _ _))) (by first | with_unfolding_all exact one_it _ x | exact HMO.out _ (by repeat (first | (with_reducible exact Below.refl _ _) | (with_reducible refine below_alloc ?_ _) | (with_reducible refine below_drew1 ?_) | (with_reducible refine pw_below_drewN ?_ _) | (with_reducible exact Below.refl _ _))))).mono ?_); rintro e w3 ⟨Bw, cbw, rfl, hcw, hrw, hb3⟩; have HB3 := Aside0.mk (show Below w2.heap.size w2 w3 from below_step (by repeat (first | (with_reducible exact Below.refl _ _) | (with_reducible refine below_alloc ?_ _) | (with_reducible refine below_drew1 ?_) | (with_reducible refine pw_below_drewN ?_ _) | fail)) hb3); have HRW := Aside0.mk (And.intro hcw hrw); clear hcw hrw hb3) | (go_at_call 78; (with_reducible refine (refSplit_walk Bw cbw l1 rows w3 HRW.out.2 HRW.out.1 HSPL.out).mono ?_); rintro e w4 ⟨Bs, cbs, ts, rfl, hsl, hrc, hb4⟩; have HB4 := Aside0.mk (below_step HB3.out hb4); have HSC := Aside0.mk (And.intro hsl hrc); clear hsl hrc hb4) | (go_at_call 77; (with_reducible refine (HLA.out Bs cbs ts w4 (below_step HB2.out HB4.out) HSC.out.1 HSC.out.2).mono ?_); rintro e w5 ⟨B5, cb5, M5, cm5, rfl, hc5, hk5, hm5, hi5, hb5⟩; have HB5 := Aside0.mk (below_step HB4.out hb5); have HC5 := Aside0.mk (And.intro hc5 hk5); have HM5 := Aside0.mk (And.intro hm5 hi5); have HBR := Aside0.mk (blk_below HRES.out (below_step HB2.out HB5.out)); have e0 := (blk_cell HBR.out 0).trans (show _ = some (Value.slice none 0 0) from rfl); have e1 := (blk_cell HBR.out 1).trans (show _ = some (Value.int .i64 0) from rfl); have f0 := blk_frozen HBR.out 0; have f1 := blk_frozen HBR.out 1; clear hc5 hk5 hm5 hi5 hb5) | fail)
        all_goals
          go_wp2
          refine bodyPost_ret (results_ct rfl _ _ (w.heap.size + 1 + 1) 24 #[.slice B5 h'.c.length cb5, .int .i64 h'.keep] (0, 0) _ rfl (hb_store HBR.out) Try.underlying24 rfl (by kernel_rfl)) rfl ?_
          exact ⟨B5, cb5, M5, cm5, rfl, HC5.out.1, cl_store HC5.out.2 HBR.out, HM5.out.1, it_set (it_set HM5.out.2 (Hb_of HBR.out) 0 _) (Hb_of (blk_put HBR.out 0 _ rfl)) 1 _, below_set (below_set (below_step HB0.out (below_step HB2.out HB5.out)) (by omega)) (by omega)⟩
      | false =>
        rw [t1, t2, show gone = 0 from t3, t4] at HWL
        have HWI := Aside0.mk (fun (W : World) (M : Option Addr) (hb : Below w2.heap.size w2 W) (hM : kIt.C W M 1 [x]) => show Calls Try.prog 79 #[.slice B l.length cb, .int .i64 (i : Int), .int .i64 0, .slice M 1 1] W (fun e w' => ∃ B cb, e = .returned (.slice B l1.length cb) ∧ l1.length ≤ cb ∧ kIt.C w' B l1.length l1 ∧ Below W.heap.size W w') from refWith_walk B M cb 1 i 0 l [x] l1 W (Kd.C_below HROW.out.1 (below_step HB2.out hb)) HROW.out.2 hM HWL.out.1)
        have HLY := Aside0.mk HWL.out.2
        have HLA := Aside0.mk (fun (Bs : Option Addr) (cbs : Nat) (ts : List Tr) (W : World) (hb : Below W1.heap.size W1 W) (hsl : kSl.C W Bs rows.length ts) (hrc : RowsC W ts rows) => show Calls Try.prog 77 #[.agg #[.slice (some ad) h.c.length c, .int .i64 h.keep], .bool true, .slice Bs rows.length cbs, .slice none 0 0] W (fun e w' => ∃ B' cb' M cm, e = .returned (.tuple #[.agg #[.slice B' h'.c.length cb', .int .i64 h'.keep], .slice M made.length cm]) ∧ h'.c.length ≤ cb' ∧ kCl.C w' B' h'.c.length h'.c ∧ made.length ≤ cm ∧ kIt.C w' M made.length made ∧ Below W.heap.size W w') from refLay_walk (some ad) none Bs c 0 cbs h h' true [] rows ts made W (Kd.C_below HR.out.1 hb) HR.out.2 (Kd.C_nil _ _) hsl hrc (splitO_len HSPL.out) (t1 ▸ HLY.out))
        clear t1 t2 t3 t4
        go_upto_region 7 with (fail)
        go_region_held3 (fun w' => w'.cell? ⟨w.heap.size, 0, none⟩ = some (.slice (some ad) h.c.length c) ∧ w'.cell? ⟨w.heap.size, 1, none⟩ = some (.int .i64 h.keep) ∧ w'.cell? ⟨w.heap.size + 1 + 1 + 1, 1, none⟩ = some (.slice B l.length cb) ∧ w'.cell? ⟨w.heap.size + 1, 0, none⟩ = some (.int .i64 x.k) ∧ w'.cell? ⟨w.heap.size + 1, 1, none⟩ = some (.int .i64 x.v)) (first | exact ⟨d0, d1, d2, d3, d4⟩ | exact ⟨(cell_far HNE.out.1 _).trans ((cell_far HNE.out.1 _).trans (bcell HB5.out d0)), (cell_far HNE.out.1 _).trans ((cell_far HNE.out.1 _).trans (bcell HB5.out d1)), (cell_far HNE.out.2.1 _).trans ((cell_far HNE.out.2.1 _).trans (bcell HB5.out d2)), (cell_far HNE.out.2.2 _).trans ((cell_far HNE.out.2.2 _).trans (bcell HB5.out d3)), (cell_far HNE.out.2.2 _).trans ((cell_far HNE.out.2.2 _).trans (bcell HB5.out d4))⟩ | exact (fun (hb : Below w2.heap.size w2 _) => ⟨bcell hb d0, bcell hb d1, bcell hb d2, bcell hb d3, bcell hb d4⟩) (by repeat (first | (with_reducible exact Below.refl _ _) | (with_reducible refine below_alloc ?_ _) | (with_reducible refine below_drew1 ?_) | (with_reducible refine pw_below_drewN ?_ _) | (with_reducible exact HB5.out) | (with_reducible exact HB4.out) | (with_reducible exact HB3.out)))) (first | (go_at_call 79; (with_reducible refine (HWI.out _ _ (by repeat (first | (with_reducible exact Below.refl _ _) | (with_reducible refine below_alloc ?_ _) | (with_reducible refine below_drew1 ?_) | (with_reducible refine pw_below_drewN ?_ _) | (with_reducible exact Below.refl _ _))) (by first | with_unfolding_all exact one_it _ x | exact HMO.out _ (by repeat (first | (with_reducible exact Below.refl _ _) | (with_reducible refine below_alloc ?_ _) | (with_reducible refine below_drew1 ?_) | (with_reducible refine pw_below_drewN ?_ _) | (with_reducible exact Below.refl _ _))))).mono ?_); rintro e w3 ⟨Bw, cbw, rfl, hcw, hrw, hb3⟩; have HB3 := Aside0.mk (show Below w2.heap.size w2 w3 from below_step (by repeat (first | (with_reducible exact Below.refl _ _) | (with_reducible refine below_alloc ?_ _) | (with_reducible refine below_drew1 ?_) | (with_reducible refine pw_below_drewN ?_ _) | fail)) hb3); have HRW := Aside0.mk (And.intro hcw hrw); clear hcw hrw hb3) | (go_at_call 78; (with_reducible refine (refSplit_walk Bw cbw l1 rows w3 HRW.out.2 HRW.out.1 HSPL.out).mono ?_); rintro e w4 ⟨Bs, cbs, ts, rfl, hsl, hrc, hb4⟩; have HB4 := Aside0.mk (below_step HB3.out hb4); have HSC := Aside0.mk (And.intro hsl hrc); clear hsl hrc hb4) | (go_at_call 77; (with_reducible refine (HLA.out Bs cbs ts w4 (below_step HB2.out HB4.out) HSC.out.1 HSC.out.2).mono ?_); rintro e w5 ⟨B5, cb5, M5, cm5, rfl, hc5, hk5, hm5, hi5, hb5⟩; have HB5 := Aside0.mk (below_step HB4.out hb5); have HC5 := Aside0.mk (And.intro hc5 hk5); have HM5 := Aside0.mk (And.intro hm5 hi5); have HBR := Aside0.mk (blk_below HRES.out (below_step HB2.out HB5.out)); have e0 := (blk_cell HBR.out 0).trans (show _ = some (Value.slice none 0 0) from rfl); have e1 := (blk_cell HBR.out 1).trans (show _ = some (Value.int .i64 0) from rfl); have f0 := blk_frozen HBR.out 0; have f1 := blk_frozen HBR.out 1; clear hc5 hk5 hm5 hi5 hb5) | fail)
        all_goals
          go_wp2
          refine bodyPost_ret (results_ct rfl _ _ (w.heap.size + 1 + 1) 24 #[.slice B5 h'.c.length cb5, .int .i64 h'.keep] (0, 0) _ rfl (hb_store HBR.out) Try.underlying24 rfl (by kernel_rfl)) rfl ?_
          exact ⟨B5, cb5, M5, cm5, rfl, HC5.out.1, cl_store HC5.out.2 HBR.out, HM5.out.1, it_set (it_set HM5.out.2 (Hb_of HBR.out) 0 _) (Hb_of (blk_put HBR.out 0 _ rfl)) 1 _, below_set (below_set (below_step HB0.out (below_step HB2.out HB5.out)) (by omega)) (by omega)⟩
    | false =>
      obtain ⟨t1, t2, t3, t4⟩ := HF.out rfl
      rw [t3, t4] at HWL
      obtain ⟨bd, hbd, _, z1⟩ := at_it (Kd.C_below HROW.out.1 HB2.out) i t1
      subst hbd
      obtain ⟨v, hv⟩ : ∃ v, v = (itAt l i).v := ⟨_, rfl⟩
      rw [← hv] at t2 z1
      have q1 : (i < l.length) = True := eq_true t1
      have HRE := Aside0.mk (fun (W : World) (hb : Below w2.heap.size w2 W) => HIH.out (some ad) c h h1 v x more W (Kd.C_below HR.out.1 (below_step HB2.out hb)) HR.out.2 t2)
      have HMM := Aside0.mk (withO_len HWL.out.1)
      clear t1 t2 t3 t4 hv
      go_upto_region 8 with (fail)
      go_cut [12, 13] from 42 to 53 (fun v12 v13 wx => ∃ (XN : Nat) (A9 : Option Addr) (c9 : Nat) (M : Option Addr) (cm : Nat), v12 = .pointer (some ⟨XN, 0, none⟩) ∧ v13 = .slice M more.length cm ∧ Aside0 (wx.heap[XN]? = some (.cells #[.slice A9 h1.c.length c9, .int .i64 h1.keep] 24 (0, 0)) ∧ w2.heap.size ≤ XN) ∧ Aside0 (h1.c.length ≤ c9 ∧ kCl.C wx A9 h1.c.length h1.c) ∧ Aside0 (kIt.C wx M more.length more) ∧ Aside0 (Below w2.heap.size w2 wx))
      case first =>
        go_region_held3 (fun w' => w'.cell? ⟨w.heap.size, 0, none⟩ = some (.slice (some ad) h.c.length c) ∧ w'.cell? ⟨w.heap.size, 1, none⟩ = some (.int .i64 h.keep) ∧ w'.cell? ⟨w.heap.size + 1 + 1 + 1, 1, none⟩ = some (.slice (some bd) l.length cb) ∧ w'.cell? ⟨(bd.add (i * 2)).block, (bd.add (i * 2)).off + 1, none⟩ = some (.int .i64 v) ∧ w'.cell? ⟨w.heap.size + 1, 0, none⟩ = some (.int .i64 x.k) ∧ w'.cell? ⟨w.heap.size + 1, 1, none⟩ = some (.int .i64 x.v)) (first | exact ⟨d0, d1, d2, z1, d3, d4⟩ | exact (fun (hb : Below w2.heap.size w2 _) => ⟨bcell hb d0, bcell hb d1, bcell hb d2, bcell hb z1, bcell hb d3, bcell hb d4⟩) (by repeat (first | (with_reducible exact Below.refl _ _) | (with_reducible refine below_alloc ?_ _) | (with_reducible refine below_drew1 ?_) | (with_reducible refine pw_below_drewN ?_ _) | (with_reducible exact HB3.out) | (with_reducible refine below_set ?_ (Nat.le_refl _))))) (first | (go_at_call 48; (with_reducible refine (HRE.out _ (by repeat (first | (with_reducible exact Below.refl _ _) | (with_reducible refine below_alloc ?_ _) | (with_reducible refine below_drew1 ?_) | (with_reducible refine pw_below_drewN ?_ _) | fail))).mono ?_); rintro e w3 ⟨A9, c9, M, cm, rfl, hc9, hk9, hm9, hi9, hb9⟩; have HB3 := Aside0.mk (show Below w2.heap.size w2 w3 from below_step (by repeat (first | (with_reducible exact Below.refl _ _) | (with_reducible refine below_alloc ?_ _) | (with_reducible refine below_drew1 ?_) | (with_reducible refine pw_below_drewN ?_ _) | fail)) hb9); have HK9 := Aside0.mk (And.intro hc9 hk9); have HM9 := Aside0.mk (And.intro hm9 hi9); (first | (have qx := blk_below (blk_drew (blk_new w2 (.cells #[.slice none 0 0, .int .i64 0] 24))) hb9; have QX := Aside0.mk qx; have qx0 := (blk_cell qx 0).trans (show _ = some (Value.slice none 0 0) from rfl); have qx1 := (blk_cell qx 1).trans (show _ = some (Value.int .i64 0) from rfl); have qf0 := blk_frozen qx 0; have qf1 := blk_frozen qx 1; clear qx) | skip); clear hc9 hk9 hm9 hi9 hb9) | fail)
        · go_wp2
          go_meet
          case rel => exact ⟨w3.heap.size, A9, c9, M, cm, rfl, rfl, ⟨blk_new _ _, HB3.out.size⟩, ⟨HK9.out.1, Kd.C_alloc HK9.out.2 _⟩, ⟨Kd.C_alloc HM9.out.2 _⟩, ⟨below_alloc HB3.out _⟩⟩
        · go_wp2
          go_meet
          case rel => exact ⟨w2.heap.size, A9, c9, M, cm, rfl, rfl, ⟨hb_store QX.out, Nat.le_refl _⟩, ⟨HK9.out.1, cl_store HK9.out.2 QX.out⟩, ⟨it_set (it_set HM9.out.2 (Hb_of QX.out) 0 _) (Hb_of (blk_put QX.out 0 _ rfl)) 1 _⟩, ⟨below_set (below_set HB3.out (Nat.le_refl _)) (Nat.le_refl _)⟩⟩
      case rest =>
        obtain ⟨XN, A9, c9, M, cm, rfl, rfl, HXN0, HK9, HM9, HBX⟩ := hcut
        obtain ⟨wd, hwd⟩ : ∃ wd, wd = wc := ⟨_, rfl⟩
        rw [← hwd] at HXN0 HK9 HM9 HBX ⊢
        clear hwd d0 d1 d3 d4 d5 z1
        have k0 := (blk_cell HXN0.out.1 0).trans (show _ = some (Value.slice A9 h1.c.length c9) from rfl)
        have k1 := (blk_cell HXN0.out.1 1).trans (show _ = some (Value.int .i64 h1.keep) from rfl)
        have k2 := bcell HBX.out d2
        have HXN := Aside0.mk (And.intro HXN0.out.1 (show XN ≠ w.heap.size + 1 + 1 by have h1 := blk_lt HRES.out; have h2 := HB2.out.size; have h3 := HXN0.out.2; omega))
        have HRESd := Aside0.mk (blk_below HRES.out (below_step HB2.out HBX.out))
        have HROWd := Aside0.mk (Kd.C_below HROW.out.1 (below_step HB2.out HBX.out))
        have HWI := Aside0.mk (fun (W : World) (hb : Below wd.heap.size wd W) => show Calls Try.prog 79 #[.slice (some bd) l.length cb, .int .i64 (i : Int), .int .i64 1, .slice M more.length cm] W (fun e w' => ∃ B cb, e = .returned (.slice B l1.length cb) ∧ l1.length ≤ cb ∧ kIt.C w' B l1.length l1 ∧ Below W.heap.size W w') from refWith_walk (some bd) M cb cm i 1 l more l1 W (Kd.C_below HROWd.out hb) HROW.out.2 (Kd.C_below HM9.out hb) HWL.out.1)
        have HVV := Aside0.mk (fun (W : World) (hb : Below wd.heap.size wd W) => refV_walk M cm more W (Kd.C_below HM9.out hb) HMM.out)
        have HLA := Aside0.mk (fun (Bs : Option Addr) (cbs : Nat) (ts : List Tr) (D : Option Addr) (d : Nat) (W : World) (hb : Below wd.heap.size wd W) (hsl : kSl.C W Bs rows.length ts) (hrc : RowsC W ts rows) (hd : (Kd.int .i64).C W D (vL more).length (vL more)) => refLay_walk A9 D Bs c9 d cbs h1 h' false (vL more) rows ts made W (Kd.C_below HK9.out.2 hb) HK9.out.1 hd hsl hrc (splitO_len HSPL.out) HWL.out.2)
        clear d2
        go_upto_region 9 with (fail)
        go_region_held3 (fun w' => w'.cell? ⟨XN, 0, none⟩ = some (.slice A9 h1.c.length c9) ∧ w'.cell? ⟨XN, 1, none⟩ = some (.int .i64 h1.keep) ∧ w'.cell? ⟨w.heap.size + 1 + 1 + 1, 1, none⟩ = some (.slice (some bd) l.length cb)) (first | exact ⟨k0, k1, k2⟩ | exact ⟨(cell_far HXN.out.2 _).trans ((cell_far HXN.out.2 _).trans (bcell HB5.out k0)), (cell_far HXN.out.2 _).trans ((cell_far HXN.out.2 _).trans (bcell HB5.out k1)), (cell_far HNE.out.2.1 _).trans ((cell_far HNE.out.2.1 _).trans (bcell HB5.out k2))⟩ | exact (fun (hb : Below wd.heap.size wd _) => ⟨bcell hb k0, bcell hb k1, bcell hb k2⟩) (by repeat (first | (with_reducible exact Below.refl _ _) | (with_reducible refine below_alloc ?_ _) | (with_reducible refine below_drew1 ?_) | (with_reducible refine pw_below_drewN ?_ _) | (with_reducible exact HB5.out) | (with_reducible exact HB6.out) | (with_reducible exact HB4.out) | (with_reducible exact HB3.out)))) (first | (go_at_call 79; (with_reducible refine (HWI.out _ (by repeat (first | (with_reducible exact Below.refl _ _) | (with_reducible refine below_alloc ?_ _) | (with_reducible refine below_drew1 ?_) | (with_reducible refine pw_below_drewN ?_ _) | (with_reducible exact Below.refl _ _)))).mono ?_); rintro e w3 ⟨Bw, cbw, rfl, hcw, hrw, hb3⟩; have HB3 := Aside0.mk (show Below wd.heap.size wd w3 from below_step (by repeat (first | (with_reducible exact Below.refl _ _) | (with_reducible refine below_alloc ?_ _) | (with_reducible refine below_drew1 ?_) | (with_reducible refine pw_below_drewN ?_ _) | fail)) hb3); have HRW := Aside0.mk (And.intro hcw hrw); clear hcw hrw hb3) | (go_at_call 78; (with_reducible refine (refSplit_walk Bw cbw l1 rows w3 HRW.out.2 HRW.out.1 HSPL.out).mono ?_); rintro e w4 ⟨Bs, cbs, ts, rfl, hsl, hrc, hb4⟩; have HB4 := Aside0.mk (below_step HB3.out hb4); have HSC := Aside0.mk (And.intro hsl hrc); clear hsl hrc hb4) | (go_at_call 52; (with_reducible refine (HVV.out w4 HB4.out).mono ?_); rintro e w6 ⟨D, d, rfl, hd, hb6⟩; have HD := Aside0.mk (hd _ (Kept.refl _ _)); have HB6 := Aside0.mk (below_step HB4.out hb6); have HSC6 := Aside0.mk (And.intro (Kd.C_below HSC.out.1 hb6) (RowsC_below hb6 HSC.out.2)); clear hd hb6) | (go_at_call 77; (with_reducible refine (HLA.out Bs cbs ts D d w6 HB6.out HSC6.out.1 HSC6.out.2 HD.out).mono ?_); rintro e w5 ⟨B5, cb5, M5, cm5, rfl, hc5, hk5, hm5, hi5, hb5⟩; have HB5 := Aside0.mk (below_step HB6.out hb5); have HC5 := Aside0.mk (And.intro hc5 hk5); have HM5 := Aside0.mk (And.intro hm5 hi5); have HBR := Aside0.mk (blk_below HRESd.out HB5.out); have e0 := (blk_cell HBR.out 0).trans (show _ = some (Value.slice none 0 0) from rfl); have e1 := (blk_cell HBR.out 1).trans (show _ = some (Value.int .i64 0) from rfl); have f0 := blk_frozen HBR.out 0; have f1 := blk_frozen HBR.out 1; clear hc5 hk5 hm5 hi5 hb5) | fail)
        all_goals
          go_wp2
          refine bodyPost_ret (results_ct rfl _ _ (w.heap.size + 1 + 1) 24 #[.slice B5 h'.c.length cb5, .int .i64 h'.keep] (0, 0) _ rfl (hb_store HBR.out) Try.underlying24 rfl (by kernel_rfl)) rfl ?_
          exact ⟨B5, cb5, M5, cm5, rfl, HC5.out.1, cl_store HC5.out.2 HBR.out, HM5.out.1, it_set (it_set HM5.out.2 (Hb_of HBR.out) 0 _) (Hb_of (blk_put HBR.out 0 _ rfl)) 1 _, below_set (below_set (below_step HB0.out (below_step HB2.out (below_step HBX.out HB5.out))) (by omega)) (by omega)⟩
end Go.Proofs.Ytopkoganfnabgaa.H
namespace Go.Proofs.Ytopkoganfnabgaa.H
open Go.RowKit Go.Proofs.YtopkoganfnabgaaW.PrintWords Go.Proofs.YtopkoganfnabgaaW.PrintLast Go.Proofs.YtopkoganfnabgaaW.PrintMore
attribute [local go_sem] max2_int min2_int max_two min_two max_three min_three max_four min_four
set_option linter.unusedVariables false
set_option linter.unusedSimpArgs false
set_option maxHeartbeats 4000000 in
set_option maxRecDepth 100000 in
/-- grow.settled: b is the builder's block. -/
theorem growSettled_walk (f : Nat) (A : Option Addr) (c b : Nat) (h h' : Hp) (k p old q er : Int) (w : World) (hbb : w.heap[b]? = some (.cells #[.slice A h.c.length c, .int .i64 h.keep] 86 (0, 0))) (hr : kCl.C w A h.c.length h.c) (hl : h.c.length ≤ 2000) (hcc : h.c.length ≤ c) (e : settledO f h p old = some (h', q, er)) :
    Calls Try.prog 42 #[.pointer (some ⟨b, 0, none⟩), .agg #[.int .i64 k, .int .i64 p], .int .i64 old] w fun e w' => ∃ B cb, e = .returned (.tuple #[.agg #[.slice B h'.c.length cb, .int .i64 h'.keep], .int .i64 q, .int .i64 er]) ∧ h'.c.length ≤ cb ∧ kCl.C w' B h'.c.length h'.c ∧ KeepBut w w' b none ∧ S3 w w' := by
  obtain ⟨W1, hW1⟩ : ∃ W1, W1 = (w.alloc (.cells #[.int .i64 k, .int .i64 p] 26)).alloc (.cells #[.slice none 0 0, .int .i64 0] 24) := ⟨_, rfl⟩
  have HB0 := Aside0.mk (show Below w.heap.size w W1 by rw [hW1]; exact below_alloc (below_alloc (Below.refl _ _) _) _)
  have HI1 := Aside0.mk (show W1.heap[w.heap.size]? = some (.cells #[.int .i64 k, .int .i64 p] 26) by rw [hW1]; exact blk_alloc (blk_new w _) _)
  have HR1 := Aside0.mk (show W1.heap[w.heap.size + 1]? = some (.cells #[.slice none 0 0, .int .i64 0] 24) by rw [hW1]; exact blk2 w _ _)
  have HBB := Aside0.mk (blk_below hbb HB0.out)
  have HBL := Aside0.mk (blk_lt hbb)
  have HNE := Aside0.mk (show (b ≠ w.heap.size + 1) ∧ (w.heap.size ≠ w.heap.size + 1) by have := HBL.out; omega)
  have HC1 := Aside0.mk (And.intro hcc (Kd.C_below hr HB0.out))
  have hW1' := Aside0.mk hW1
  have c0 := (blk_cell HBB.out 0).trans (show _ = some (Value.slice A h.c.length c) from rfl)
  have c1 := (blk_cell HBB.out 1).trans (show _ = some (Value.int .i64 h.keep) from rfl)
  have n1 := (blk_cell HI1.out 1).trans (show _ = some (Value.int .i64 p) from rfl)
  have c2 := (blk_cell HR1.out 0).trans (show _ = some (Value.slice none 0 0) from rfl)
  have c3 := (blk_cell HR1.out 1).trans (show _ = some (Value.int .i64 0) from rfl)
  have f2 := blk_frozen HR1.out 0
  have f3 := blk_frozen HR1.out 1
  unfold settledO at e
  by_cases ho : 0 ≤ old
  · rw [if_pos ho] at e
    cases hlo : looseH f h old with
    | none => rw [hlo] at e; cases e
    | some g =>
      obtain ⟨g, ge⟩ := g
      rw [hlo] at e
      simp only [Option.map_some, Option.some.injEq, Prod.mk.injEq] at e
      obtain ⟨rfl, rfl, rfl⟩ := e
      have HLO := Aside0.mk (fun (W : World) (hb : Below W1.heap.size W1 W) => heapLoose_walk f A c h g old ge W (Kd.C_below HC1.out.2 hb) hl hcc hlo)
      have r1 : decide (0 ≤ old) = true := decide_eq_true ho
      clear hW1 hbb hr hl hcc hlo ho
      go_enter Try.func42, Try.ntmps42
      go_upto_region 1 with (fail)
      rw [← hW1'.out]
      have f0 := blk_frozen HBB.out 0
      have f1 := blk_frozen HBB.out 1
      go_upto_region 3 with (first | (go_at_call 60; (with_reducible refine (HLO.out _ (by repeat (first | (with_reducible exact Below.refl _ _) | (with_reducible refine below_alloc ?_ _) | (with_reducible refine below_drew1 ?_) | (with_reducible refine pw_below_drewN ?_ _) | (with_reducible exact Below.refl _ _)))).mono ?_); rintro e w2 ⟨B, cb, rfl, hcb, hk2, hb2⟩; have HK2 := Aside0.mk (And.intro hcb hk2); have HB2 := Aside0.mk hb2; have HBB2 := Aside0.mk (blk_below HBB.out hb2); have d0 := bcell hb2 c0; have d1 := bcell hb2 c1; have g0 := blk_frozen HBB2.out 0; have g1 := blk_frozen HBB2.out 1; clear hcb hk2 hb2) | fail)
      obtain ⟨W3, hW3⟩ : ∃ W3, W3 = ((w2.setCell ⟨b, 0, none⟩ (.slice B g.c.length cb)).setCell ⟨b, 1, none⟩ (.int .i64 g.keep)) := ⟨_, rfl⟩
      have HBB3 := Aside0.mk (show W3.heap[b]? = some (.cells #[.slice B g.c.length cb, .int .i64 g.keep] 86) by rw [hW3]; exact hb_store HBB2.out)
      have HI3 := Aside0.mk (show W3.heap[w.heap.size]? = some (.cells #[.int .i64 k, .int .i64 p] 26) by rw [hW3]; exact blk_far (blk_far (blk_below HI1.out HB2.out) (by have := HBL.out; show w.heap.size ≠ b; omega) _) (by have := HBL.out; show w.heap.size ≠ b; omega) _)
      have HR3 := Aside0.mk (show W3.heap[w.heap.size + 1]? = some (.cells #[.slice none 0 0, .int .i64 0] 24) by rw [hW3]; exact blk_far (blk_far (blk_below HR1.out HB2.out) (by have := HBL.out; show w.heap.size + 1 ≠ b; omega) _) (by have := HBL.out; show w.heap.size + 1 ≠ b; omega) _)
      have HC3 := Aside0.mk (show kCl.C W3 B g.c.length g.c by rw [hW3]; exact cl_store HK2.out.2 HBB2.out)
      have HK3 := Aside0.mk (show KeepBut w W3 b none by rw [hW3]; exact keep_trans (KeepBut.of_below (below_step HB0.out HB2.out) b none) (((KeepBut.refl w2 b none).set_ 0 _).set_ 1 _))
      have HS3 := Aside0.mk (show S3 w W3 by rw [hW3]; exact S3.set (S3.set (S3.below (below_step HB0.out HB2.out)) _ _) _ _)
      rw [← hW3]
      have e0 := (blk_cell HBB3.out 0).trans (show _ = some (Value.slice B g.c.length cb) from rfl)
      have e1 := (blk_cell HBB3.out 1).trans (show _ = some (Value.int .i64 g.keep) from rfl)
      have e2 := (blk_cell HI3.out 1).trans (show _ = some (Value.int .i64 p) from rfl)
      have e3 := (blk_cell HR3.out 0).trans (show _ = some (Value.slice none 0 0) from rfl)
      have e4 := (blk_cell HR3.out 1).trans (show _ = some (Value.int .i64 0) from rfl)
      have k0 := blk_frozen HR3.out 0
      have k1 := blk_frozen HR3.out 1
      clear d0 d1 g0 g1 c0 c1 n1 c2 c3 f0 f1 f2 f3 hW3
      go_region_held3 (fun w' => w'.cell? ⟨b, 0, none⟩ = some (.slice B g.c.length cb) ∧ w'.cell? ⟨b, 1, none⟩ = some (.int .i64 g.keep) ∧ w'.cell? ⟨w.heap.size, 1, none⟩ = some (.int .i64 p)) (first | exact ⟨e0, e1, e2⟩ | exact ⟨(cell_far HNE.out.1 _).trans ((cell_far HNE.out.1 _).trans e0), (cell_far HNE.out.1 _).trans ((cell_far HNE.out.1 _).trans e1), (cell_far HNE.out.2 _).trans ((cell_far HNE.out.2 _).trans e2)⟩) (fail)
      all_goals
        go_wp2
        refine bodyPost_ret (results_ctt rfl _ _ (w.heap.size + 1) 24 #[.slice B g.c.length cb, .int .i64 g.keep] (0, 0) _ rfl (hb_store HR3.out) Try.underlying24 rfl (by kernel_rfl)) rfl ?_
        exact ⟨B, cb, rfl, HK2.out.1, cl_store (w := W3) HC3.out HR3.out, keep_far (keep_far HK3.out (by show w.heap.size ≤ w.heap.size + 1; omega) _) (by show w.heap.size ≤ w.heap.size + 1; omega) _, HS3.out⟩
  · rw [if_neg ho] at e
    simp only [Option.some.injEq, Prod.mk.injEq] at e
    obtain ⟨rfl, rfl, rfl⟩ := e
    have r1 : decide (0 ≤ old) = false := decide_eq_false ho
    clear hW1 hbb hr hl hcc ho
    go_enter Try.func42, Try.ntmps42
    go_upto_region 1 with (fail)
    rw [← hW1'.out]
    go_upto_region 3 with (fail)
    go_region_held3 (fun w' => w'.cell? ⟨b, 0, none⟩ = some (.slice A h.c.length c) ∧ w'.cell? ⟨b, 1, none⟩ = some (.int .i64 h.keep) ∧ w'.cell? ⟨w.heap.size, 1, none⟩ = some (.int .i64 p)) (first | exact ⟨c0, c1, n1⟩ | exact ⟨(cell_far HNE.out.1 _).trans ((cell_far HNE.out.1 _).trans c0), (cell_far HNE.out.1 _).trans ((cell_far HNE.out.1 _).trans c1), (cell_far HNE.out.2 _).trans ((cell_far HNE.out.2 _).trans n1)⟩) (fail)
    all_goals
      go_wp2
      refine bodyPost_ret (results_ctt rfl _ _ (w.heap.size + 1) 24 #[.slice A h.c.length c, .int .i64 h.keep] (0, 0) _ rfl (hb_store HR1.out) Try.underlying24 rfl (by kernel_rfl)) rfl ?_
      exact ⟨A, c, rfl, HC1.out.1, cl_store (w := W1) HC1.out.2 HR1.out, keep_far (keep_far (KeepBut.of_below HB0.out b none) (by show w.heap.size ≤ w.heap.size + 1; omega) _) (by show w.heap.size ≤ w.heap.size + 1; omega) _, (S3.below HB0.out : S3 w W1)⟩
end Go.Proofs.Ytopkoganfnabgaa.H
namespace Go.Proofs.Ytopkoganfnabgaa.H
open Go.RowKit Go.Proofs.YtopkoganfnabgaaW.PrintWords Go.Proofs.YtopkoganfnabgaaW.PrintLast Go.Proofs.YtopkoganfnabgaaW.PrintMore
attribute [local go_sem] max2_int min2_int max_two min_two max_three min_three max_four min_four
set_option linter.unusedVariables false
set_option linter.unusedSimpArgs false
set_option maxHeartbeats 4000000 in
set_option maxRecDepth 100000 in
/-- grow.Over. -/
theorem growOver_walk (A B : Option Addr) (c cb : Nat) (h h' : Hp) (l : List It) (p er : Int) (w : World) (hr : kCl.C w A h.c.length h.c) (hcc : h.c.length ≤ c) (hn : kIt.C w B l.length l) (hnb : l.length ≤ cb) (hl : l.length ≤ 1000) (e : overO h l = some (h', p, er)) :
    Calls Try.prog 15 #[.agg #[.slice A h.c.length c, .int .i64 h.keep], .slice B l.length cb] w fun e w' => ∃ B' cb', e = .returned (.tuple #[.agg #[.slice B' h'.c.length cb', .int .i64 h'.keep], .int .i64 p, .int .i64 er]) ∧ h'.c.length ≤ cb' ∧ kCl.C w' B' h'.c.length h'.c ∧ Below w.heap.size w w' := by
  obtain ⟨W1, hW1⟩ : ∃ W1, W1 = (w.alloc (.cells #[.slice A h.c.length c, .int .i64 h.keep] 24)).alloc (.cells #[.slice none 0 0, .int .i64 0] 24) := ⟨_, rfl⟩
  have HB0 := Aside0.mk (show Below w.heap.size w W1 by rw [hW1]; exact below_alloc (below_alloc (Below.refl _ _) _) _)
  have HH1 := Aside0.mk (show W1.heap[w.heap.size]? = some (.cells #[.slice A h.c.length c, .int .i64 h.keep] 24) by rw [hW1]; exact blk_alloc (blk_new w _) _)
  have HR1 := Aside0.mk (show W1.heap[w.heap.size + 1]? = some (.cells #[.slice none 0 0, .int .i64 0] 24) by rw [hW1]; exact blk2 w _ _)
  have c0 := (blk_cell HH1.out 0).trans (show _ = some (Value.slice A h.c.length c) from rfl)
  have c1 := (blk_cell HH1.out 1).trans (show _ = some (Value.int .i64 h.keep) from rfl)
  have HPL := Aside0.mk (fun (W : World) (hb : Below W1.heap.size W1 W) => growPlaces_walk B cb l W (Kd.C_below hn (below_step HB0.out hb)) hl)
  have HAL := Aside0.mk (fun (D : Option Addr) (d : Nat) (W : World) (hb : Below W1.heap.size W1 W) (hd : (Kd.int .i64).C W D (vL l).length (vL l)) => show Calls Try.prog 50 #[.agg #[.slice A h.c.length c, .int .i64 h.keep], .agg #[.bool false, .slice B l.length cb], .slice D (vL l).length d] W (fun e w' => ∃ B' cb', e = .returned (.tuple #[.agg #[.slice B' h'.c.length cb', .int .i64 h'.keep], .int .i64 p, .int .i64 er]) ∧ h'.c.length ≤ cb' ∧ Lv w W w' B' h'.c ∧ Below W.heap.size W w') from heapAlloc_walk A B D c cb d h h' ⟨false, l⟩ (vL l) p er w W hr (below_step HB0.out hb) hcc hn hnb hd e)
  have hW1' := Aside0.mk hW1
  have HNE := Aside0.mk (show w.heap.size ≠ w.heap.size + 1 by omega)
  clear hW1 hr hcc hn hnb hl e
  go_enter Try.func15, Try.ntmps15
  go_upto_region 1 with (fail)
  rw [← hW1'.out]
  go_region_held3 (fun w' => w'.cell? ⟨w.heap.size, 0, none⟩ = some (.slice A h.c.length c) ∧ w'.cell? ⟨w.heap.size, 1, none⟩ = some (.int .i64 h.keep)) (first | exact ⟨c0, c1⟩ | exact ⟨bcell HB3.out c0, bcell HB3.out c1⟩ | exact ⟨(cell_far HNE.out _).trans ((cell_far HNE.out _).trans (bcell HB3.out c0)), (cell_far HNE.out _).trans ((cell_far HNE.out _).trans (bcell HB3.out c1))⟩ | exact (fun (h : Below W1.heap.size W1 _) => ⟨bcell h c0, bcell h c1⟩) (by repeat (first | (with_reducible exact Below.refl _ _) | (with_reducible refine below_alloc ?_ _) | (with_reducible refine below_drew1 ?_) | (with_reducible refine pw_below_drewN ?_ _) | (with_reducible exact HB2.out)))) (first | (go_at_call 51; (with_reducible refine (HPL.out _ (by repeat (first | (with_reducible exact Below.refl _ _) | (with_reducible refine below_alloc ?_ _) | (with_reducible refine below_drew1 ?_) | (with_reducible refine pw_below_drewN ?_ _) | (with_reducible exact Below.refl _ _)))).mono ?_); rintro e w2 ⟨D, d, rfl, hd, hb2⟩; have HD := Aside0.mk hd; have HB2 := Aside0.mk (show Below W1.heap.size W1 w2 from below_step (by repeat (first | (with_reducible exact Below.refl _ _) | (with_reducible refine below_alloc ?_ _) | (with_reducible refine below_drew1 ?_) | (with_reducible refine pw_below_drewN ?_ _) | (with_reducible exact Below.refl _ _))) hb2); clear hd hb2) | (go_at_call 50; (with_reducible refine (HAL.out D d _ (by repeat (first | (with_reducible exact Below.refl _ _) | (with_reducible refine below_alloc ?_ _) | (with_reducible refine below_drew1 ?_) | (with_reducible refine pw_below_drewN ?_ _) | (with_reducible exact HB2.out))) (HD.out _ (by first | exact Kept.refl _ _ | exact Kept.of_below (below_drew (Below.refl _ _)) _))).mono ?_); rintro e w3 ⟨A', c', rfl, hc', hs', hb3⟩; have HB3 := Aside0.mk (show Below W1.heap.size W1 w3 from below_step (by repeat (first | (with_reducible exact Below.refl _ _) | (with_reducible refine below_alloc ?_ _) | (with_reducible refine below_drew1 ?_) | (with_reducible refine pw_below_drewN ?_ _) | (with_reducible exact HB2.out))) hb3); have HS := Aside0.mk (And.intro hc' hs'.now); have HBR := Aside0.mk (blk_below HR1.out HB3.out); have e0 := (blk_cell HBR.out 0).trans (show _ = some (Value.slice none 0 0) from rfl); have e1 := (blk_cell HBR.out 1).trans (show _ = some (Value.int .i64 0) from rfl); have f0 := blk_frozen HBR.out 0; have f1 := blk_frozen HBR.out 1; clear hc' hs' hb3) | fail)
  all_goals
    go_wp2
    refine bodyPost_ret (results_ctt rfl _ _ (w.heap.size + 1) 24 #[.slice A' h'.c.length c', .int .i64 h'.keep] (0, 0) _ rfl (hb_store HBR.out) Try.underlying24 rfl (by kernel_rfl)) rfl ?_
    exact ⟨A', c', rfl, HS.out.1, cl_store HS.out.2 HBR.out, below_set (below_set (below_step HB0.out HB3.out) (by omega)) (by omega)⟩
end Go.Proofs.Ytopkoganfnabgaa.H
namespace Go.Proofs.Ytopkoganfnabgaa.H
open Go.RowKit Go.Proofs.YtopkoganfnabgaaW.PrintWords Go.Proofs.YtopkoganfnabgaaW.PrintLast Go.Proofs.YtopkoganfnabgaaW.PrintMore
attribute [local go_sem] max2_int min2_int max_two min_two max_three min_three max_four min_four
set_option linter.unusedVariables false
set_option linter.unusedSimpArgs false
set_option maxHeartbeats 2000000 in
set_option maxRecDepth 100000 in
theorem high_walk (f : Nat) (A : Option Addr) (c : Nat) (h : Hp) (p : Int) (n : Nat) (w : World) (hf : f ≤ 1000) (hr : kCl.C w A h.c.length h.c) (e : highO f h p = some n) :
    Calls Try.prog 38 #[.agg #[.slice A h.c.length c, .int .i64 h.keep], .int .i64 p] w fun e w' => e = .returned (.int .i64 (n : Nat)) ∧ Below w.heap.size w w' := by
  have hm := Kd.C_max hr
  have hn := highO_le f h p n e
  obtain ⟨W1, hW1⟩ : ∃ W1, W1 = w.alloc (.cells #[.slice A h.c.length c, .int .i64 h.keep] 24) := ⟨_, rfl⟩
  have HB0 := Aside0.mk (show Below w.heap.size w W1 by rw [hW1]; exact below_alloc (Below.refl _ _) _)
  have HBH := Aside0.mk (show W1.heap[w.heap.size]? = some (.cells #[.slice A h.c.length c, .int .i64 h.keep] 24) by rw [hW1]; exact blk_new w _)
  have HR1 := Aside0.mk (Kd.C_below hr HB0.out)
  have hW1' := Aside0.mk hW1
  have HE := Aside0.mk e
  have HN := Aside0.mk (show n ≤ 1000 by omega)
  clear hr hW1 e hn
  go_enter Try.func38, Try.ntmps38
  go_wp2
  rw [← hW1'.out]
  go_loopg [5, 6] f (fun g s5 s6 wr => ∃ (k m : Nat) (q : Int), s5 = .int .i64 k ∧ s6 = .int .i64 q ∧ Aside0 (highO g h q = some m ∧ k + m = n) ∧ Aside0 (Below W1.heap.size W1 wr))
  case atStart => exact ⟨0, n, p, rfl, rfl, ⟨HE.out, by omega⟩, ⟨Below.refl _ _⟩⟩
  case round =>
    obtain ⟨k, m, q, rfl, rfl, HQ, HB⟩ := hrel
    have b0 := (blk_cell (blk_below HBH.out HB.out) 0).trans (show _ = some (Value.slice A h.c.length c) from rfl)
    have HBW := Aside0.mk (below_step HB0.out HB.out)
    obtain ⟨e, hkm⟩ := HQ.out
    cases gk with
    | zero => simp [highO] at e
    | succ g1 =>
    unfold highO at e
    by_cases h0 : q < 0
    · rw [if_pos h0] at e
      obtain rfl : 0 = m := by simpa using e
      have q1 : decide (0 ≤ q) = false := decide_eq_false (by omega)
      have HF := Aside0.mk (show k = n by omega)
      clear h0 e hkm
      go_wp2
      go_ret
      exact ⟨ret_i (by rw [HF.out]), HBW.out⟩
    rw [if_neg h0] at e
    by_cases hin' : inB h q = false
    · rw [hin'] at e; simp at e
    have hin : inB h q = true := by simpa using hin'
    clear hin'
    rw [if_pos hin] at e
    obtain ⟨i, rfl, hi⟩ := inB_nat hin
    rw [clAt_nat] at e
    obtain ⟨ad, B, cb, rfl, x0, x1, x2, x3, _, hB⟩ := at_cl (Kd.C_below HR1.out HB.out) i hi
    obtain ⟨x, hx⟩ : ∃ x, x = h.c.getD i zCl := ⟨_, rfl⟩
    rw [← hx] at x2 x3 hB e
    have q2 : (i < h.c.length) = True := eq_true hi
    have hk1 : wrap64 ((k : Int) + 1) = ((k + 1 : Nat) : Int) := by have := HN.out; unfold wrap64; omega
    have HK1 := Aside0.mk hk1
    obtain ⟨lf, hlf⟩ : ∃ lf, lf = x.n.leaf := ⟨_, rfl⟩
    rw [← hlf] at x2 e
    clear x0 x1 h0 hin hx hi hlf hk1 HQ
    cases lf with
    | true =>
      obtain rfl : 1 = m := by simpa using e
      have HF := Aside0.mk (show k + 1 = n by omega)
      clear e hB hkm
      go_wp2
      go_ret
      exact ⟨ret_i (by rw [HK1.out, HF.out]), by repeat (first | (with_reducible exact Below.refl _ _) | (with_reducible refine below_alloc ?_ _) | (with_reducible refine below_drew1 ?_) | (with_reducible refine pw_below_drewN ?_ _) | (with_reducible exact HBW.out))⟩
    | false =>
      rw [if_neg (by decide)] at e
      cases hit : x.n.it with
      | nil => rw [hit] at e; cases e
      | cons y r =>
        rw [hit] at e
        simp only at e
        cases hq : highO g1 h y.v with
        | none => rw [hq] at e; simp at e
        | some m' =>
          rw [hq] at e
          obtain rfl : m' + 1 = m := by simpa using e
          have hlen : 0 < x.n.it.length := by rw [hit]; simp
          obtain ⟨ad2, rfl, _, z1⟩ := at_it0 hB hlen
          rw [show itAt x.n.it 0 = y by rw [hit]; rfl] at z1
          have z2 := al1 z1
          have r1 : (0 < x.n.it.length) = True := eq_true hlen
          have r2 : ((0 : Int) < (x.n.it.length : Int)) = True := eq_true (by omega)
          have r3 : decide ((0 : Int) < (x.n.it.length : Int)) = true := decide_eq_true (by omega)
          have HQ2 := Aside0.mk (show highO g1 h y.v = some m' ∧ k + 1 + m' = n from ⟨hq, by omega⟩)
          clear e hit hq hlen hB hkm
          go_wp2
          go_roundg g1
          case measure => omega
          case rel => exact ⟨k + 1, m', y.v, by rw [HK1.out], rfl, HQ2, ⟨by repeat (first | (with_reducible exact Below.refl _ _) | (with_reducible refine below_alloc ?_ _) | (with_reducible refine below_drew1 ?_) | (with_reducible refine pw_below_drewN ?_ _) | (with_reducible exact HB.out))⟩⟩
end Go.Proofs.Ytopkoganfnabgaa.H
namespace Go.Proofs.Ytopkoganfnabgaa.H
open Go.RowKit Go.Proofs.YtopkoganfnabgaaW.PrintWords Go.Proofs.YtopkoganfnabgaaW.PrintLast Go.Proofs.YtopkoganfnabgaaW.PrintMore
attribute [local go_sem] max2_int min2_int max_two min_two max_three min_three max_four min_four
set_option linter.unusedVariables false
set_option linter.unusedSimpArgs false
set_option maxHeartbeats 2000000 in
theorem fits_walk (A : Option Addr) (c : Nat) (h : Hp) (n : Int) (deep : Bool) (w : World) (hr : kCl.C w A h.c.length h.c) :
    Calls Try.prog 40 #[.agg #[.slice A h.c.length c, .int .i64 h.keep], .int .i64 n, .bool deep] w fun e w' => e = .returned (.bool (fitsH h n deep)) ∧ Below w.heap.size w w' := by
  obtain ⟨W1, hW1⟩ : ∃ W1, W1 = w.alloc (.cells #[.slice A h.c.length c, .int .i64 h.keep] 24) := ⟨_, rfl⟩
  have HB0 := Aside0.mk (show Below w.heap.size w W1 by rw [hW1]; exact below_alloc (Below.refl _ _) _)
  have HBH := Aside0.mk (show W1.heap[w.heap.size]? = some (.cells #[.slice A h.c.length c, .int .i64 h.keep] 24) by rw [hW1]; exact blk_new w _)
  have HFW := Aside0.mk (fun (W : World) (hb : Below W1.heap.size W1 W) => free_walk A c h W (Kd.C_below (Kd.C_below hr HB0.out) hb))
  have hW1' := Aside0.mk hW1
  obtain ⟨F, hF⟩ : ∃ F, F = freeN h := ⟨_, rfl⟩
  have hfit : fitsH h n deep = if deep then decide (n ≤ (F : Int)) else decide (n ≤ w64 ((F : Int) - h.keep)) := by rw [hF]; rfl
  rw [← hF] at HFW
  rw [hfit]
  have b0 := (blk_cell HBH.out 0).trans (show _ = some (Value.slice A h.c.length c) from rfl)
  have b1 := (blk_cell HBH.out 1).trans (show _ = some (Value.int .i64 h.keep) from rfl)
  clear hr hF hfit hW1
  cases deep with
  | true =>
    go_enter Try.func40, Try.ntmps40
    go_upto_region 1 with (fail)
    rw [← hW1'.out]
    go_wp2_with (first | (go_at_call 69; (with_reducible refine (HFW.out _ (by repeat (first | (with_reducible exact Below.refl _ _) | (with_reducible refine below_alloc ?_ _) | (with_reducible refine below_drew1 ?_) | (with_reducible refine pw_below_drewN ?_ _) | fail))).mono ?_); rintro e w2 ⟨rfl, hb2⟩; have HB2 := Aside0.mk (below_step HB0.out hb2); clear hb2) | fail)
    go_ret
    exact ⟨rfl, HB2.out⟩
  | false =>
    go_enter Try.func40, Try.ntmps40
    go_upto_region 1 with (fail)
    rw [← hW1'.out]
    go_wp2_with (first | (go_at_call 69; (with_reducible refine (HFW.out _ (by repeat (first | (with_reducible exact Below.refl _ _) | (with_reducible refine below_alloc ?_ _) | (with_reducible refine below_drew1 ?_) | (with_reducible refine pw_below_drewN ?_ _) | fail))).mono ?_); rintro e w2 ⟨rfl, hb2⟩; have HB2 := Aside0.mk (below_step HB0.out hb2); have d1 := bcell hb2 b1; clear hb2) | fail)
    go_ret
    exact ⟨ret_b (by rw [w64_eq]), HB2.out⟩
def smallC (c : Cl) : Bool := decide (c.n.it.length ≤ 10) && decide (c.ref ≤ 1000000)
def smallB (h : Hp) (most : Nat) : Bool := decide (h.c.length ≤ most) && h.c.all smallC
def mayB (h : Hp) (most : Nat) : Bool := smallB h most && rightB h
set_option maxHeartbeats 2000000 in
set_option maxRecDepth 100000 in
theorem small_walk (A : Option Addr) (c : Nat) (h : Hp) (most : Nat) (w : World) (hr : kCl.C w A h.c.length h.c) :
    Calls Try.prog 65 #[.agg #[.slice A h.c.length c, .int .i64 h.keep], .int .i64 most] w fun e w' => e = .returned (.bool (smallB h most)) ∧ Below w.heap.size w w' := by
  have hm := Kd.C_max hr
  have hsm : smallB h most = (decide (h.c.length ≤ most) && h.c.all smallC) := rfl
  have HSM := Aside0.mk hsm
  by_cases hle : most < h.c.length
  · have q1 : decide (most < h.c.length) = true := decide_eq_true hle
    have q2 : decide ((most : Int) < (h.c.length : Int)) = true := decide_eq_true (by omega)
    have HF := Aside0.mk (show smallB h most = false by rw [hsm, decide_eq_false (by omega)]; rfl)
    clear hle hsm hr
    go_enter Try.func65, Try.ntmps65
    go_wp2
    go_ret
    exact ⟨ret_b HF.out.symm, by repeat (first | (with_reducible exact Below.refl _ _) | (with_reducible refine below_alloc ?_ _) | (with_reducible refine below_drew1 ?_) | (with_reducible refine pw_below_drewN ?_ _) | fail)⟩
  · have q1 : decide (most < h.c.length) = false := decide_eq_false hle
    have q2 : decide ((most : Int) < (h.c.length : Int)) = false := decide_eq_false (by omega)
    have HLE := Aside0.mk hle
    obtain ⟨W1, hW1⟩ : ∃ W1, W1 = w.alloc (.cells #[.slice A h.c.length c, .int .i64 h.keep] 24) := ⟨_, rfl⟩
    have HB0 := Aside0.mk (show Below w.heap.size w W1 by rw [hW1]; exact below_alloc (Below.refl _ _) _)
    have HBH := Aside0.mk (show W1.heap[w.heap.size]? = some (.cells #[.slice A h.c.length c, .int .i64 h.keep] 24) by rw [hW1]; exact blk_new w _)
    have HR1 := Aside0.mk (Kd.C_below hr HB0.out)
    have hW1' := Aside0.mk hW1
    clear hr hsm hle hW1
    go_enter Try.func65, Try.ntmps65
    go_wp2
    rw [← hW1'.out]
    clear q1 q2
    go_loopg [5] h.c.length (fun g s5 wr => ∃ k : Nat, s5 = .int .i64 k ∧ k + g = h.c.length ∧ Aside0 (∀ i, i < k → smallC (h.c.getD i zCl) = true) ∧ Aside0 (wr = W1))
    case atStart => exact ⟨0, rfl, by omega, ⟨fun i h => by omega⟩, ⟨rfl⟩⟩
    case round =>
      obtain ⟨k, rfl, hk, HO, HB⟩ := hrel
      have hB := HB.out
      subst hB
      have b0 := (blk_cell HBH.out 0).trans (show _ = some (Value.slice A h.c.length c) from rfl)
      by_cases hlt : k < h.c.length
      · obtain ⟨g1, rfl⟩ : ∃ g1, gk = g1 + 1 := ⟨gk - 1, by omega⟩
        have r1 : decide (k < h.c.length) = true := decide_eq_true hlt
        have r2 : (k < h.c.length) = True := eq_true hlt
        obtain ⟨ad, B, cb, rfl, x0, x1, x2, x3, _⟩ := at_cl HR1.out k hlt
        obtain ⟨x, hx⟩ : ∃ x, x = h.c.getD k zCl := ⟨_, rfl⟩
        rw [← hx] at x0 x3
        have hsc : smallC x = (decide (x.n.it.length ≤ 10) && decide (x.ref ≤ 1000000)) := rfl
        have HX := Aside0.mk hx
        have HK := Aside0.mk (And.intro hlt hk)
        have HW := Aside0.mk (show wrap64 ((k : Int) + 1) = ((k + 1 : Nat) : Int) by unfold wrap64; omega)
        clear hx hlt hk
        by_cases e1 : 10 < x.n.it.length
        · have d1 : decide ((10 : Int) < (x.n.it.length : Int)) = true := decide_eq_true (by omega)
          have d2 : decide (10 < x.n.it.length) = true := decide_eq_true e1
          have HF := Aside0.mk (show smallB h most = false by rw [HSM.out, lall_false zCl HK.out.1 (by rw [← HX.out, hsc, decide_eq_false (by omega)]; rfl), Bool.and_false])
          clear e1 hsc
          go_wp2
          go_ret
          exact ⟨ret_b HF.out.symm, HB0.out⟩
        · have d1 : decide ((10 : Int) < (x.n.it.length : Int)) = false := decide_eq_false (by omega)
          have d2 : decide (10 < x.n.it.length) = false := decide_eq_false e1
          by_cases e2 : 1000000 < x.ref
          · have d3 : decide (1000000 < x.ref) = true := decide_eq_true e2
            have HF := Aside0.mk (show smallB h most = false by rw [HSM.out, lall_false zCl HK.out.1 (by rw [← HX.out, hsc, decide_eq_false (show ¬ x.ref ≤ 1000000 by omega), Bool.and_false]), Bool.and_false])
            clear e1 e2 hsc
            go_wp2
            go_ret
            exact ⟨ret_b HF.out.symm, HB0.out⟩
          · have d3 : decide (1000000 < x.ref) = false := decide_eq_false e2
            have HN := Aside0.mk (show smallC x = true by rw [hsc, decide_eq_true (by omega), decide_eq_true (by omega)]; rfl)
            clear e1 e2 hsc
            go_wp2
            go_roundg g1
            case measure => omega
            case rel => exact ⟨k + 1, by rw [HW.out], by have := HK.out; omega, ⟨fun i hi => by rcases Nat.lt_or_ge i k with h | h; exact HO.out i h; obtain rfl : i = k := (by omega); rw [← HX.out]; exact HN.out⟩, ⟨rfl⟩⟩
      · have r1 : decide (k < h.c.length) = false := decide_eq_false hlt
        have r2 : (k < h.c.length) = False := eq_false hlt
        have HF := Aside0.mk (show smallB h most = true by rw [HSM.out, lall_true zCl (fun i hi => HO.out i (by omega)), decide_eq_true (by have := HLE.out; omega)]; rfl)
        clear hlt hk
        go_wp2
        go_ret
        exact ⟨ret_b HF.out.symm, HB0.out⟩
theorem may05_walk (A : Option Addr) (c : Nat) (h : Hp) (most : Nat) (w : World) (hr : kCl.C w A h.c.length h.c) :
    Calls Try.prog 36 #[.agg #[.slice A h.c.length c, .int .i64 h.keep], .int .i64 most] w fun e w' => e = .returned (.bool (mayB h most)) ∧ Below w.heap.size w w' := by
  obtain ⟨W1, hW1⟩ : ∃ W1, W1 = w.alloc (.cells #[.slice A h.c.length c, .int .i64 h.keep] 24) := ⟨_, rfl⟩
  have HB0 := Aside0.mk (show Below w.heap.size w W1 by rw [hW1]; exact below_alloc (Below.refl _ _) _)
  have HBH := Aside0.mk (show W1.heap[w.heap.size]? = some (.cells #[.slice A h.c.length c, .int .i64 h.keep] 24) by rw [hW1]; exact blk_new w _)
  have HSW := Aside0.mk (fun (W : World) (hb : Below W1.heap.size W1 W) => small_walk A c h most W (Kd.C_below (Kd.C_below hr HB0.out) hb))
  have HRW := Aside0.mk (fun (W : World) (hb : Below W1.heap.size W1 W) => right05_walk A c h W (Kd.C_below (Kd.C_below hr HB0.out) hb))
  have hmay : mayB h most = (smallB h most && rightB h) := rfl
  rw [hmay]
  have b0 := (blk_cell HBH.out 0).trans (show _ = some (Value.slice A h.c.length c) from rfl)
  have b1 := (blk_cell HBH.out 1).trans (show _ = some (Value.int .i64 h.keep) from rfl)
  have hW1' := Aside0.mk hW1
  clear hr hmay hW1
  generalize smallB h most = s at HSW ⊢
  cases s with
  | false =>
    go_enter Try.func36, Try.ntmps36
    go_upto_region 1 with (fail)
    rw [← hW1'.out]
    go_wp2_with (first | (go_at_call 65; (with_reducible refine (HSW.out _ (by repeat (first | (with_reducible exact Below.refl _ _) | (with_reducible refine below_alloc ?_ _) | (with_reducible refine below_drew1 ?_) | (with_reducible refine pw_below_drewN ?_ _) | fail))).mono ?_); rintro e w2 ⟨rfl, hb2⟩; have HB2 := Aside0.mk hb2; clear hb2) | fail)
    go_ret
    exact ⟨rfl, below_step HB0.out HB2.out⟩
  | true =>
    go_enter Try.func36, Try.ntmps36
    go_upto_region 1 with (fail)
    rw [← hW1'.out]
    go_wp2_with (first | (go_at_call 65; (with_reducible refine (HSW.out _ (by repeat (first | (with_reducible exact Below.refl _ _) | (with_reducible refine below_alloc ?_ _) | (with_reducible refine below_drew1 ?_) | (with_reducible refine pw_below_drewN ?_ _) | fail))).mono ?_); rintro e w2 ⟨rfl, hb2⟩; have HB2 := Aside0.mk hb2; have d0 := bcell hb2 b0; have d1 := bcell hb2 b1; clear hb2) | (go_at_call 66; (with_reducible refine (HRW.out _ HB2.out).mono ?_); rintro e w3 ⟨rfl, hb3⟩; have HB3 := Aside0.mk (below_step HB2.out hb3); clear hb3) | fail)
    go_ret
    exact ⟨by simp, below_step HB0.out HB3.out⟩
end Go.Proofs.Ytopkoganfnabgaa.H
