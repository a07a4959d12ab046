import Derived.Test.YtopkoganfnabgaaG10
import Derived.Test.YtopkoganfnabgaaG5
import Derived.Test.YtopkoganfnabgaaG8
import Derived.Test.YtopkoganfnabgaaG9
import Derived.Test.YtopkoganfnabgaaG4
import Derived.ChangeArms
import Derived.OpenShut
namespace Go.Proofs.Ytopkoganfnabgaa.H
open Go.RowKit Go.Proofs.YtopkoganfnabgaaW.PrintWords Go.Proofs.YtopkoganfnabgaaW.PrintLast Go.Proofs.YtopkoganfnabgaaW.PrintMore
attribute [local go_sem] max2_int min2_int max_two min_two max_three min_three max_four min_four
set_option linter.unusedVariables false
set_option linter.unusedSimpArgs false
theorem xnewO_lay {f : Nat} {h h' : Hp} {p key : Int} {made : List It} (e : xnewO (f + 1) h p key = some (h', made)) :
    inB h p = true ∧ ∃ (i : Nat) (is : Bool) (h1 : Hp) (more l1 : List It), atO (clAt h p).n.leaf (clAt h p).n.it key = some (i, is) ∧
      ((clAt h p).n.leaf = true → h1 = h ∧ more = []) ∧ ((clAt h p).n.leaf = false → i < (clAt h p).n.it.length ∧ xnewO f h (itAt (clAt h p).n.it i).v key = some (h1, more)) ∧
      withO (clAt h p).n.it i 1 more = some l1 ∧ (l1 = [] → h' = h1 ∧ made = []) ∧ (l1 ≠ [] → layO h1 (clAt h p).n.leaf (vL more) [l1] = some (h', made)) := by
  unfold xnewO at e
  split at e
  · rename_i hin
    refine ⟨hin, ?_⟩
    cases ha : atO (clAt h p).n.leaf (clAt h p).n.it key with
    | none => rw [ha] at e; cases e
    | some t =>
      obtain ⟨i, is⟩ := t
      rw [ha] at e
      simp only [Option.bind_some] at e
      have key2 : ∃ h1 more, (if (clAt h p).n.leaf = true then some (h, []) else if i < (clAt h p).n.it.length then xnewO f h (itAt (clAt h p).n.it i).v key else none) = some (h1, more) := by
        generalize (if (clAt h p).n.leaf = true then some (h, []) else if i < (clAt h p).n.it.length then xnewO f h (itAt (clAt h p).n.it i).v key else none) = o at e
        cases o with
        | none => cases e
        | some r => exact ⟨r.1, r.2, rfl⟩
      obtain ⟨h1, more, hr⟩ := key2
      rw [hr] at e
      simp only [Option.bind_some] at e
      cases hw : withO (clAt h p).n.it i 1 more with
      | none => rw [hw] at e; cases e
      | some l1 =>
        rw [hw] at e
        simp only [Option.bind_some] at e
        refine ⟨i, is, h1, more, l1, rfl, fun hl => ?_, fun hl => ?_, hw, fun hz => ?_, fun hx => ?_⟩
        · rw [hl, if_pos rfl] at hr
          simp only [Option.some.injEq, Prod.mk.injEq] at hr
          exact ⟨hr.1.symm, hr.2.symm⟩
        · rw [hl, if_neg (by simp)] at hr
          split at hr
          · rename_i hi; exact ⟨hi, hr⟩
          · cases hr
        · rw [if_pos hz] at e
          simp only [Option.some.injEq, Prod.mk.injEq] at e
          exact ⟨e.1.symm, e.2.symm⟩
        · rw [if_neg hx] at e
          exact e
  · cases e
set_option maxHeartbeats 8000000 in
set_option maxRecDepth 100000 in
/-- The reference's anew, without a key. -/
theorem refXnew_walk : ∀ (f : Nat) (A : Option Addr) (c : Nat) (h h' : Hp) (p key : Int) (made : List It) (w : World), kCl.C w A h.c.length h.c → h.c.length ≤ c → xnewO f h p key = some (h', made) →
    Calls Try.prog 61 #[.agg #[.slice A h.c.length c, .int .i64 h.keep], .int .i64 p, .int .i64 key] w fun e w' => ∃ B' cb' M cm, e = .returned (.tuple #[.agg #[.slice B' h'.c.length cb', .int .i64 h'.keep], .slice M made.length cm]) ∧ h'.c.length ≤ cb' ∧ kCl.C w' B' h'.c.length h'.c ∧ made.length ≤ cm ∧ kIt.C w' M made.length made ∧ Below w.heap.size w w' := by
  intro f
  induction f with
  | zero => intro A c h h' p key made w _ _ e; simp [xnewO] at e
  | succ f ih =>
    intro A c h h' p key made w hr hcc e
    obtain ⟨hin, i, is, h1, more, l1, hat, hT, hF, hwith, hz, hlay⟩ := xnewO_lay e
    obtain ⟨q, rfl, hq⟩ := inB_nat hin
    have hcl : clAt h (q : Int) = h.c.getD q zCl := by unfold clAt; rw [Int.toNat_natCast]
    rw [hcl] at hat hT hF hwith hlay
    obtain ⟨ad, B, cb, hade, _, _, x2, x3, hcb, hB⟩ := at_cl hr q hq
    obtain ⟨n, hn⟩ : ∃ n, n = (h.c.getD q zCl).n := ⟨_, rfl⟩
    rw [← hn] at hat hT hF hwith hlay x2 x3 hcb hB
    obtain ⟨lf, hlf⟩ : ∃ lf, lf = n.leaf := ⟨_, rfl⟩
    obtain ⟨l, hll⟩ : ∃ l, l = n.it := ⟨_, rfl⟩
    rw [← hlf, ← hll] at hat
    rw [← hlf] at hT hF hlay x2
    rw [← hll] at hF hwith hcb hB x3
    obtain ⟨W1, hW1⟩ : ∃ W1, W1 = ((w.alloc (.cells #[.slice A h.c.length c, .int .i64 h.keep] 24)).alloc (.cells #[.slice none 0 0, .int .i64 0] 24)).alloc (.cells #[.bool lf, .slice B l.length cb] 77) := ⟨_, rfl⟩
    have HB0 := Aside0.mk (show Below w.heap.size w W1 by rw [hW1]; exact below_alloc (below_alloc (below_alloc (Below.refl _ _) _) _) _)
    have HH1 := Aside0.mk (show W1.heap[w.heap.size]? = some (.cells #[.slice A h.c.length c, .int .i64 h.keep] 24 (0, 0)) by rw [hW1]; exact blk_alloc (blk_alloc (blk_new w _) _) _)
    have HRES := Aside0.mk (show W1.heap[w.heap.size + 1]? = some (.cells #[.slice none 0 0, .int .i64 0] 24 (0, 0)) by rw [hW1]; exact blk_alloc (blk2 w _ _) _)
    have HN1 := Aside0.mk (show W1.heap[w.heap.size + 1 + 1]? = some (.cells #[.bool lf, .slice B l.length cb] 77 (0, 0)) by rw [hW1]; exact blk3 w _ _ _)
    have HR := Aside0.mk (And.intro (Kd.C_below hr HB0.out) hcc)
    have HROW := Aside0.mk (And.intro (Kd.C_below hB HB0.out) hcb)
    have HAT := Aside0.mk (fun (W : World) (hb : Below W1.heap.size W1 W) => refAt_walk lf B cb l key i is W (Kd.C_below HROW.out.1 hb) hat)
    have HWL := Aside0.mk (And.intro hwith (And.intro hz hlay))
    have HT := Aside0.mk hT
    have HF := Aside0.mk hF
    have HIH := Aside0.mk ih
    have HNE := Aside0.mk (show w.heap.size ≠ w.heap.size + 1 ∧ w.heap.size + 1 + 1 ≠ w.heap.size + 1 by omega)
    have r1 : (q < h.c.length) = True := eq_true hq
    have hW1' := Aside0.mk hW1
    have hx2 : ∀ (o1 o2 : Obj), ((w.alloc o1).alloc o2).cell? ⟨(ad.add (q * 4)).block, (ad.add (q * 4)).off + 2, none⟩ = some (.bool lf) := fun o1 o2 => al1 (al1 x2 o1) o2
    have hx3 : ∀ (o1 o2 : Obj), ((w.alloc o1).alloc o2).cell? ⟨(ad.add (q * 4)).block, (ad.add (q * 4)).off + 2 + 1, none⟩ = some (.slice B l.length cb) := fun o1 o2 => al1 (al1 x3 o1) o2
    have z2 := hx2 (.cells #[.slice A h.c.length c, .int .i64 h.keep] 24) (.cells #[.slice none 0 0, .int .i64 0] 24)
    have z3 := hx3 (.cells #[.slice A h.c.length c, .int .i64 h.keep] 24) (.cells #[.slice none 0 0, .int .i64 0] 24)
    subst hade
    have c0 := (blk_cell HH1.out 0).trans (show _ = some (Value.slice (some ad) h.c.length c) from rfl)
    have c1 := (blk_cell HH1.out 1).trans (show _ = some (Value.int .i64 h.keep) from rfl)
    have c2 := (blk_cell HN1.out 0).trans (show _ = some (Value.bool lf) from rfl)
    have c3 := (blk_cell HN1.out 1).trans (show _ = some (Value.slice B l.length cb) from rfl)
    clear hin hcl hB hn hlf hll hat hT hF hwith hz hlay hW1 hr hcc e ih hcb hq x2 x3 hx2 hx3
    go_enter Try.func61, Try.ntmps61
    go_upto_region 2 with (fail)
    rw [← hW1'.out]
    clear z2 z3
    go_upto_region 3 with (first | (go_at_call 76; (with_reducible refine (HAT.out _ (by repeat (first | (with_reducible exact Below.refl _ _) | (with_reducible refine below_alloc ?_ _) | (with_reducible refine below_drew1 ?_) | (with_reducible refine pw_below_drewN ?_ _) | (with_reducible exact Below.refl _ _)))).mono ?_); rintro e w2 ⟨rfl, hb2⟩; have HB2 := Aside0.mk (show Below W1.heap.size W1 w2 from below_step (by repeat (first | (with_reducible exact Below.refl _ _) | (with_reducible refine below_alloc ?_ _) | (with_reducible refine below_drew1 ?_) | (with_reducible refine pw_below_drewN ?_ _) | (with_reducible exact Below.refl _ _))) hb2); clear hb2) | fail)
    have d0 := bcell HB2.out c0
    have d1 := bcell HB2.out c1
    have d5 := bcell HB2.out c2
    have d2 := bcell HB2.out c3
    clear c0 c1 c2 c3 r1
    go_upto_if 29 with (fail)
    go_cut [11] from 27 to 44 (fun v11 wc => ∃ (h1 : Hp) (A1 : Option Addr) (c1 : Nat) (more : List It) (M : Option Addr) (cm : Nat) (l1 : List It), v11 = .slice M more.length cm ∧ Aside0 (withO l i 1 more = some l1 ∧ more.length ≤ 1 ∧ (l1 = [] → h' = h1 ∧ made = []) ∧ (l1 ≠ [] → layO h1 lf (vL more) [l1] = some (h', made))) ∧ Aside0 (wc.heap[w.heap.size]? = some (.cells #[.slice A1 h1.c.length c1, .int .i64 h1.keep] 24 (0, 0))) ∧ Aside0 (h1.c.length ≤ c1 ∧ kCl.C wc A1 h1.c.length h1.c) ∧ Aside0 (kIt.C wc M more.length more) ∧ Aside0 (wc.heap[w.heap.size + 1]? = some (.cells #[.slice none 0 0, .int .i64 0] 24 (0, 0))) ∧ Aside0 (wc.heap[w.heap.size + 1 + 1]? = some (.cells #[.bool lf, .slice B l.length cb] 77 (0, 0))) ∧ Aside0 (kIt.C wc B l.length l) ∧ Aside0 (Below w.heap.size w wc))
    case first =>
      cases lf with
      | true =>
        obtain ⟨t1, t2⟩ := HT.out rfl
        rw [t1, t2] at HWL
        clear t1 t2
        go_wp2
        go_meet
        case rel => exact ⟨h, some ad, c, [], none, 0, l1, rfl, ⟨HWL.out.1, Nat.zero_le _, HWL.out.2⟩, ⟨blk_below HH1.out HB2.out⟩, ⟨HR.out.2, Kd.C_below HR.out.1 HB2.out⟩, ⟨Kd.C_nil _ _⟩, ⟨blk_below HRES.out HB2.out⟩, ⟨blk_below HN1.out HB2.out⟩, ⟨Kd.C_below HROW.out.1 HB2.out⟩, ⟨below_step HB0.out HB2.out⟩⟩
      | false =>
        obtain ⟨t1, t2⟩ := HF.out rfl
        obtain ⟨bd, hbd, _, z1⟩ := at_it (Kd.C_below HROW.out.1 HB2.out) i t1
        subst hbd
        obtain ⟨v, hv⟩ : ∃ v, v = (itAt l i).v := ⟨_, rfl⟩
        rw [← hv] at t2 z1
        have q1 : (i < l.length) = True := eq_true t1
        have HRE := Aside0.mk (fun (W : World) (hb : Below w2.heap.size w2 W) => HIH.out (some ad) c h h1 v key more W (Kd.C_below HR.out.1 (below_step HB2.out hb)) HR.out.2 t2)
        have HMM := Aside0.mk (xnewO_len t2).1
        clear t1 t2 hv
        go_upto_region 5 with (fail)
        go_cut [12, 13] from 30 to 42 (fun v12 v13 wx => ∃ (XN : Nat) (A9 : Option Addr) (c9 : Nat) (M : Option Addr) (cm : Nat), v12 = .pointer (some ⟨XN, 0, none⟩) ∧ v13 = .slice M more.length cm ∧ Aside0 (wx.heap[XN]? = some (.cells #[.slice A9 h1.c.length c9, .int .i64 h1.keep] 24 (0, 0)) ∧ w2.heap.size ≤ XN) ∧ Aside0 (h1.c.length ≤ c9 ∧ kCl.C wx A9 h1.c.length h1.c) ∧ Aside0 (kIt.C wx M more.length more) ∧ Aside0 (Below w2.heap.size w2 wx))
        case first =>
          go_region_held3 (fun w' => w'.cell? ⟨w.heap.size, 0, none⟩ = some (.slice (some ad) h.c.length c) ∧ w'.cell? ⟨w.heap.size, 1, none⟩ = some (.int .i64 h.keep) ∧ w'.cell? ⟨w.heap.size + 1 + 1, 1, none⟩ = some (.slice (some bd) l.length cb) ∧ w'.cell? ⟨(bd.add (i * 2)).block, (bd.add (i * 2)).off + 1, none⟩ = some (.int .i64 v)) (first | exact ⟨d0, d1, d2, z1⟩ | exact (fun (hb : Below w2.heap.size w2 _) => ⟨bcell hb d0, bcell hb d1, bcell hb d2, bcell hb z1⟩) (by repeat (first | (with_reducible exact Below.refl _ _) | (with_reducible refine below_alloc ?_ _) | (with_reducible refine below_drew1 ?_) | (with_reducible refine pw_below_drewN ?_ _) | (with_reducible exact HB3.out) | (with_reducible refine below_set ?_ (Nat.le_refl _))))) (first | (go_at_call 61; (with_reducible refine (HRE.out _ (by repeat (first | (with_reducible exact Below.refl _ _) | (with_reducible refine below_alloc ?_ _) | (with_reducible refine below_drew1 ?_) | (with_reducible refine pw_below_drewN ?_ _) | fail))).mono ?_); rintro e w3 ⟨A9, c9, M, cm, rfl, hc9, hk9, hm9, hi9, hb9⟩; have HB3 := Aside0.mk (show Below w2.heap.size w2 w3 from below_step (by repeat (first | (with_reducible exact Below.refl _ _) | (with_reducible refine below_alloc ?_ _) | (with_reducible refine below_drew1 ?_) | (with_reducible refine pw_below_drewN ?_ _) | fail)) hb9); have HK9 := Aside0.mk (And.intro hc9 hk9); have HM9 := Aside0.mk (And.intro hm9 hi9); (first | (have qx := blk_below (blk_drew (blk_new w2 (.cells #[.slice none 0 0, .int .i64 0] 24))) hb9; have QX := Aside0.mk qx; have qx0 := (blk_cell qx 0).trans (show _ = some (Value.slice none 0 0) from rfl); have qx1 := (blk_cell qx 1).trans (show _ = some (Value.int .i64 0) from rfl); have qf0 := blk_frozen qx 0; have qf1 := blk_frozen qx 1; clear qx) | skip); clear hc9 hk9 hm9 hi9 hb9) | fail)
          · go_wp2
            go_meet
            case rel => exact ⟨w3.heap.size, A9, c9, M, cm, rfl, rfl, ⟨blk_new _ _, HB3.out.size⟩, ⟨HK9.out.1, Kd.C_alloc HK9.out.2 _⟩, ⟨Kd.C_alloc HM9.out.2 _⟩, ⟨below_alloc HB3.out _⟩⟩
          · go_wp2
            go_meet
            case rel => exact ⟨w2.heap.size, A9, c9, M, cm, rfl, rfl, ⟨hb_store QX.out, Nat.le_refl _⟩, ⟨HK9.out.1, cl_store HK9.out.2 QX.out⟩, ⟨it_set (it_set HM9.out.2 (Hb_of QX.out) 0 _) (Hb_of (blk_put QX.out 0 _ rfl)) 1 _⟩, ⟨below_set (below_set HB3.out (Nat.le_refl _)) (Nat.le_refl _)⟩⟩
        case rest =>
          obtain ⟨XN, A9, c9, M, cm, rfl, rfl, HXN0, HK9, HM9, HBX⟩ := hcut
          obtain ⟨wd, hwd⟩ : ∃ wd, wd = wc := ⟨_, rfl⟩
          rw [← hwd] at HXN0 HK9 HM9 HBX ⊢
          clear hwd d0 d1 d2 d5 z1
          have HQ := Aside0.mk (blk_below HH1.out (below_step HB2.out HBX.out))
          have HRESd := Aside0.mk (blk_below HRES.out (below_step HB2.out HBX.out))
          have HNd := Aside0.mk (blk_below HN1.out (below_step HB2.out HBX.out))
          have HROWd := Aside0.mk (Kd.C_below HROW.out.1 (below_step HB2.out HBX.out))
          have k0 := (blk_cell HXN0.out.1 0).trans (show _ = some (Value.slice A9 h1.c.length c9) from rfl)
          have k1 := (blk_cell HXN0.out.1 1).trans (show _ = some (Value.int .i64 h1.keep) from rfl)
          have g0 := (blk_cell HQ.out 0).trans (show _ = some (Value.slice (some ad) h.c.length c) from rfl)
          have g1 := (blk_cell HQ.out 1).trans (show _ = some (Value.int .i64 h.keep) from rfl)
          have f0 := blk_frozen HQ.out 0
          have f1 := blk_frozen HQ.out 1
          go_wp2
          go_meet
          case rel => exact ⟨h1, A9, c9, more, M, cm, l1, rfl, ⟨HWL.out.1, HMM.out, HWL.out.2⟩, ⟨hb_store HQ.out⟩, ⟨HK9.out.1, cl_store HK9.out.2 HQ.out⟩, ⟨it_set (it_set HM9.out (Hb_of HQ.out) 0 _) (Hb_of (blk_put HQ.out 0 _ rfl)) 1 _⟩, ⟨blk_far (blk_far HRESd.out HNE.out.1.symm _) HNE.out.1.symm _⟩, ⟨blk_far (blk_far HNd.out (by show w.heap.size + 1 + 1 ≠ w.heap.size; omega) _) (by show w.heap.size + 1 + 1 ≠ w.heap.size; omega) _⟩, ⟨it_set (it_set HROWd.out (Hb_of HQ.out) 0 _) (Hb_of (blk_put HQ.out 0 _ rfl)) 1 _⟩, ⟨below_set (below_set (below_step HB0.out (below_step HB2.out HBX.out)) (Nat.le_refl _)) (Nat.le_refl _)⟩⟩
    case rest =>
      clear HWL HT HF HIH HAT d0 d1 d2 d5
      obtain ⟨h2, A1, c1, more2, M, cm, l2, rfl, HWL, HHc, HKc, HMc, HRc, HNc, HRowc, HBc⟩ := hcut
      obtain ⟨wd, hwd⟩ : ∃ wd, wd = wc := ⟨_, rfl⟩
      rw [← hwd] at HHc HKc HMc HRc HNc HRowc HBc ⊢
      clear hwd
      have n0 := (blk_cell HNc.out 0).trans (show _ = some (Value.bool lf) from rfl)
      have n1 := (blk_cell HNc.out 1).trans (show _ = some (Value.slice B l.length cb) from rfl)
      have HWI := Aside0.mk (refWith_walk B M cb cm i 1 l more2 l2 wd HRowc.out HROW.out.2 HMc.out HWL.out.1)
      rw [show (((1 : Nat)) : Int) = 1 from rfl] at HWI
      go_upto_region 9 with (first | (go_at_call 79; (with_reducible refine HWI.out.mono ?_); rintro e w3 ⟨Bw, cbw, rfl, hcw, hrw, hb3⟩; have HB3 := Aside0.mk hb3; have HRW := Aside0.mk (And.intro hcw hrw); clear hcw hrw hb3) | fail)
      have HH3 := Aside0.mk (blk_below HHc.out HB3.out)
      have HK3 := Aside0.mk (Kd.C_below HKc.out.2 HB3.out)
      have HR3 := Aside0.mk (blk_below HRc.out HB3.out)
      have HN3 := Aside0.mk (blk_below HNc.out HB3.out)
      have HM3 := Aside0.mk (Kd.C_below HMc.out HB3.out)
      have HBW3 := Aside0.mk (below_step HBc.out HB3.out)
      have hrest := HWL.out.2
      clear n0 n1 HWI HWL
      have k0 := (blk_cell HH3.out 0).trans (show _ = some (Value.slice A1 h2.c.length c1) from rfl)
      have k1 := (blk_cell HH3.out 1).trans (show _ = some (Value.int .i64 h2.keep) from rfl)
      rcases l2 with _ | ⟨x, s⟩
      · obtain ⟨rfl, rfl⟩ := hrest.2.1 rfl
        clear hrest
        have e0 := (blk_cell HR3.out 0).trans (show _ = some (Value.slice none 0 0) from rfl)
        have e1 := (blk_cell HR3.out 1).trans (show _ = some (Value.int .i64 0) from rfl)
        have f0 := blk_frozen HR3.out 0
        have f1 := blk_frozen HR3.out 1
        go_wp2
        refine bodyPost_ret (results_ct rfl _ _ (w.heap.size + 1) 24 #[.slice A1 h'.c.length c1, .int .i64 h'.keep] (0, 0) _ rfl (hb_store HR3.out) Try.underlying24 rfl (by kernel_rfl)) rfl ?_
        exact ⟨A1, c1, none, 0, rfl, HKc.out.1, cl_store HK3.out HR3.out, Nat.le_refl _, Kd.C_nil _ _, below_set (below_set HBW3.out (by omega)) (by omega)⟩
      · have hlay := hrest.2.2 (by simp)
        have HML := Aside0.mk hrest.1
        clear hrest
        obtain ⟨ll, hll⟩ : ∃ ll, ll = x :: s := ⟨_, rfl⟩
        rw [← hll] at hlay HRW ⊢
        have p1 : ((ll.length : Int) == 0) = false := beq_eq_false_iff_ne.mpr (by rw [hll]; simp; omega)
        have p2 : (ll.length == 0) = false := beq_eq_false_iff_ne.mpr (by rw [hll]; simp)
        have HVV := Aside0.mk (fun (W : World) (hb : Below w3.heap.size w3 W) => refV_walk M cm more2 W (Kd.C_below HM3.out hb) (by have := HML.out; omega))
        have HLA := Aside0.mk (fun (Bs D : Option Addr) (d : Nat) (W : World) (hb : Below w3.heap.size w3 W) (hsl : kSl.C W Bs 1 [(Bw, ll.length, cbw)]) (hd : (Kd.int .i64).C W D (vL more2).length (vL more2)) => show Calls Try.prog 77 #[.agg #[.slice A1 h2.c.length c1, .int .i64 h2.keep], .bool lf, .slice Bs 1 1, .slice D (vL more2).length d] W (fun e w' => ∃ B' cb' M cm, e = .returned (.tuple #[.agg #[.slice B' h'.c.length cb', .int .i64 h'.keep], .slice M made.length cm]) ∧ h'.c.length ≤ cb' ∧ kCl.C w' B' h'.c.length h'.c ∧ made.length ≤ cm ∧ kIt.C w' M made.length made ∧ Below W.heap.size W w') from refLay_walk A1 D Bs c1 d 1 h2 h' lf (vL more2) [ll] [(Bw, ll.length, cbw)] made W (Kd.C_below HK3.out hb) HKc.out.1 hd hsl ⟨⟨rfl, HRW.out.1, Kd.C_below HRW.out.2 hb⟩, trivial⟩ (by show 1 ≤ 2; omega) hlay)
        have k2 := (blk_cell HN3.out 0).trans (show _ = some (Value.bool lf) from rfl)
        clear hlay hll
        go_upto_region 11 with (fail)
        go_region_held3 (fun w' => w'.cell? ⟨w.heap.size, 0, none⟩ = some (.slice A1 h2.c.length c1) ∧ w'.cell? ⟨w.heap.size, 1, none⟩ = some (.int .i64 h2.keep) ∧ w'.cell? ⟨w.heap.size + 1 + 1, 0, none⟩ = some (.bool lf)) (first | exact ⟨k0, k1, k2⟩ | exact ⟨(cell_far HNE.out.1 _).trans ((cell_far HNE.out.1 _).trans (bcell HB5.out k0)), (cell_far HNE.out.1 _).trans ((cell_far HNE.out.1 _).trans (bcell HB5.out k1)), (cell_far HNE.out.2 _).trans ((cell_far HNE.out.2 _).trans (bcell HB5.out k2))⟩ | exact (fun (hb : Below w3.heap.size w3 _) => ⟨bcell hb k0, bcell hb k1, bcell hb k2⟩) (by repeat (first | (with_reducible exact Below.refl _ _) | (with_reducible refine below_alloc ?_ _) | (with_reducible refine below_drew1 ?_) | (with_reducible refine pw_below_drewN ?_ _) | (with_reducible exact HB5.out) | (with_reducible exact HB6.out)))) (first | (go_at_call 52; (with_reducible refine (HVV.out _ (by repeat (first | (with_reducible exact Below.refl _ _) | (with_reducible refine below_alloc ?_ _) | (with_reducible refine below_drew1 ?_) | (with_reducible refine pw_below_drewN ?_ _) | (with_reducible exact Below.refl _ _)))).mono ?_); rintro e w6 ⟨D, d, rfl, hd, hb6⟩; have HD := Aside0.mk (hd _ (Kept.refl _ _)); have HB6 := Aside0.mk (show Below w3.heap.size w3 w6 from below_step (by repeat (first | (with_reducible exact Below.refl _ _) | (with_reducible refine below_alloc ?_ _) | (with_reducible refine below_drew1 ?_) | (with_reducible refine pw_below_drewN ?_ _) | (with_reducible exact Below.refl _ _))) hb6); (first | (have HSL := Aside0.mk (show kSl.C w6 (some ⟨w3.heap.size, 0, none⟩) 1 [(Bw, ll.length, cbw)] from Kd.C_below (by with_unfolding_all exact sl_one _ (Bw, ll.length, cbw)) hb6)) | skip); clear hd hb6) | (go_at_call 77; (with_reducible refine (HLA.out _ _ _ _ (by repeat (first | (with_reducible exact Below.refl _ _) | (with_reducible refine below_alloc ?_ _) | (with_reducible refine below_drew1 ?_) | (with_reducible refine pw_below_drewN ?_ _) | (with_reducible exact HB6.out))) (by first | (with_reducible exact HSL.out) | with_unfolding_all exact sl_one _ (Bw, ll.length, cbw)) (by first | (with_reducible exact HD.out) | (with_reducible exact Kd.C_alloc HD.out _))).mono ?_); rintro e w5 ⟨B5, cb5, M5, cm5, rfl, hc5, hk5, hm5, hi5, hb5⟩; have HB5 := Aside0.mk (show Below w3.heap.size w3 w5 from below_step (by repeat (first | (with_reducible exact Below.refl _ _) | (with_reducible refine below_alloc ?_ _) | (with_reducible refine below_drew1 ?_) | (with_reducible refine pw_below_drewN ?_ _) | (with_reducible exact HB6.out))) hb5); have HC5 := Aside0.mk (And.intro hc5 hk5); have HM5 := Aside0.mk (And.intro hm5 hi5); have HBR := Aside0.mk (blk_below HR3.out HB5.out); have e0 := (blk_cell HBR.out 0).trans (show _ = some (Value.slice none 0 0) from rfl); have e1 := (blk_cell HBR.out 1).trans (show _ = some (Value.int .i64 0) from rfl); have f0 := blk_frozen HBR.out 0; have f1 := blk_frozen HBR.out 1; clear hc5 hk5 hm5 hi5 hb5) | fail)
        all_goals
          go_wp2
          refine bodyPost_ret (results_ct rfl _ _ (w.heap.size + 1) 24 #[.slice B5 h'.c.length cb5, .int .i64 h'.keep] (0, 0) _ rfl (hb_store HBR.out) Try.underlying24 rfl (by kernel_rfl)) rfl ?_
          exact ⟨B5, cb5, M5, cm5, rfl, HC5.out.1, cl_store HC5.out.2 HBR.out, HM5.out.1, it_set (it_set HM5.out.2 (Hb_of HBR.out) 0 _) (Hb_of (blk_put HBR.out 0 _ rfl)) 1 _, below_set (below_set (below_step HBW3.out HB5.out) (by omega)) (by omega)⟩
end Go.Proofs.Ytopkoganfnabgaa.H
namespace Go.Proofs.Ytopkoganfnabgaa.H
open Go.RowKit Go.Proofs.YtopkoganfnabgaaW.PrintWords Go.Proofs.YtopkoganfnabgaaW.PrintLast Go.Proofs.YtopkoganfnabgaaW.PrintMore
attribute [local go_sem] max2_int min2_int max_two min_two max_three min_three max_four min_four
set_option linter.unusedVariables false
set_option linter.unusedSimpArgs false
theorem cl_eq (x y : Cl) : decide (x = y) = (decide (x.n = y.n) && (decide (x.ref = y.ref) && decide (x.pin = y.pin))) := by
  rw [Bool.eq_iff_iff]
  cases x; cases y
  simp
  constructor
  · rintro ⟨a, b, c⟩; exact ⟨c, a, b⟩
  · rintro ⟨c, a, b⟩; exact ⟨a, b, c⟩
theorem listc_eq {a b : List Cl} (hl : a.length = b.length) (h : ∀ i, i < a.length → a.getD i zCl = b.getD i zCl) : a = b := by
  apply List.ext_getElem hl
  intro i h1 h2
  have := h i h1
  rw [List.getD_eq_getElem?_getD, List.getD_eq_getElem?_getD, List.getElem?_eq_getElem h1, List.getElem?_eq_getElem h2] at this
  exact this
set_option maxHeartbeats 4000000 in
set_option maxRecDepth 100000 in
theorem same05_walk (A1 A2 : Option Addr) (c1 c2 : Nat) (a b : Hp) (w : World) (h1 : kCl.C w A1 a.c.length a.c) (h2 : kCl.C w A2 b.c.length b.c) :
    Calls Try.prog 17 #[.agg #[.slice A1 a.c.length c1, .int .i64 a.keep], .agg #[.slice A2 b.c.length c2, .int .i64 b.keep]] w fun e w' => e = .returned (.bool (decide (a = b))) ∧ Below w.heap.size w w' := by
  have hm := Kd.C_max h1
  obtain ⟨W1, hW1⟩ : ∃ W1, W1 = (w.alloc (.cells #[.slice A1 a.c.length c1, .int .i64 a.keep] 24)).alloc (.cells #[.slice A2 b.c.length c2, .int .i64 b.keep] 24) := ⟨_, rfl⟩
  have HB0 := Aside0.mk (show Below w.heap.size w W1 by rw [hW1]; exact below_alloc (below_alloc (Below.refl _ _) _) _)
  have HBA := Aside0.mk (show W1.heap[w.heap.size]? = some (.cells #[.slice A1 a.c.length c1, .int .i64 a.keep] 24) by rw [hW1]; exact blk_alloc (blk_new w _) _)
  have HBB := Aside0.mk (show W1.heap[w.heap.size + 1]? = some (.cells #[.slice A2 b.c.length c2, .int .i64 b.keep] 24) by rw [hW1]; exact blk2 w _ _)
  have H1 := Aside0.mk (Kd.C_below h1 HB0.out)
  have H2 := Aside0.mk (Kd.C_below h2 HB0.out)
  have hW1' := Aside0.mk hW1
  have c0 := (blk_cell HBA.out 0).trans (show _ = some (Value.slice A1 a.c.length c1) from rfl)
  have c1' := (blk_cell HBA.out 1).trans (show _ = some (Value.int .i64 a.keep) from rfl)
  have d0 := (blk_cell HBB.out 0).trans (show _ = some (Value.slice A2 b.c.length c2) from rfl)
  have d1' := (blk_cell HBB.out 1).trans (show _ = some (Value.int .i64 b.keep) from rfl)
  clear h1 h2 hW1
  go_enter Try.func17, Try.ntmps17
  go_upto_region 1 with (fail)
  rw [← hW1'.out]
  by_cases hk : a.keep = b.keep
  · have q1 : (a.keep != b.keep) = false := bne_f hk
    by_cases hl : a.c.length = b.c.length
    · have q2 : ((a.c.length : Int) != (b.c.length : Int)) = false := bne_f (by omega)
      have q3 : (a.c.length != b.c.length) = false := bne_f hl
      have q4 : (a.c.length = b.c.length) = True := eq_true hl
      have HKL := Aside0.mk (And.intro hk hl)
      clear hk hl
      go_wp2
      clear q1 q2 q3 q4 c0 c1' d0 d1'
      go_loopg [5] a.c.length (fun g s5 wr => ∃ k : Nat, s5 = .int .i64 k ∧ k + g = a.c.length ∧ Aside0 (∀ i, i < k → a.c.getD i zCl = b.c.getD i zCl) ∧ Aside0 (Below W1.heap.size W1 wr))
      case atStart => exact ⟨0, rfl, by omega, ⟨fun i h => by omega⟩, ⟨Below.refl _ _⟩⟩
      case round =>
        obtain ⟨k, rfl, hk, HO, HB⟩ := hrel
        have b0 := (blk_cell (blk_below HBA.out HB.out) 0).trans (show _ = some (Value.slice A1 a.c.length c1) from rfl)
        have b1 := (blk_cell (blk_below HBB.out HB.out) 0).trans (show _ = some (Value.slice A2 b.c.length c2) from rfl)
        have HBW := Aside0.mk (below_step HB0.out HB.out)
        by_cases hlt : k < a.c.length
        · obtain ⟨g1, rfl⟩ : ∃ g1, gk = g1 + 1 := ⟨gk - 1, by omega⟩
          have hltb : k < b.c.length := by have := HKL.out.2; omega
          have r1 : decide (k < a.c.length) = true := decide_eq_true hlt
          have r2 : (k < a.c.length) = True := eq_true hlt
          have r3 : (k < b.c.length) = True := eq_true hltb
          obtain ⟨ad, B, cb, rfl, x0, x1, x2, x3, _, hB⟩ := at_cl (Kd.C_below H1.out HB.out) k hlt
          obtain ⟨ad2, B2, cb2, rfl, y0, y1, y2, y3, _, hB2⟩ := at_cl (Kd.C_below H2.out HB.out) k hltb
          obtain ⟨x, hx⟩ : ∃ x, x = a.c.getD k zCl := ⟨_, rfl⟩
          obtain ⟨y, hy⟩ : ∃ y, y = b.c.getD k zCl := ⟨_, rfl⟩
          rw [← hx] at x0 x1 x2 x3 hB
          rw [← hy] at y0 y1 y2 y3 hB2
          have HXY := Aside0.mk (And.intro hx hy)
          have HSW := Aside0.mk (fun (W : World) (hb : Below wr.heap.size wr W) => ndSame_walk B B2 cb cb2 x.n y.n W (Kd.C_below hB hb) (Kd.C_below hB2 hb))
          have HK := Aside0.mk (And.intro hlt hk)
          have HW := Aside0.mk (show wrap64 ((k : Int) + 1) = ((k + 1 : Nat) : Int) by unfold wrap64; omega)
          have hceq := cl_eq x y
          have HNE := Aside0.mk (fun (h : decide (x = y) = false) => (show decide (a = b) = false from decide_eq_false (fun e => by rw [hx, hy, e] at h; simp at h)))
          clear hx hy hlt hk hltb hB hB2
          obtain ⟨s, hs⟩ : ∃ s, s = decide (x.n = y.n) := ⟨_, rfl⟩
          rw [← hs] at HSW hceq
          clear hs
          cases s with
          | false =>
            have HF := Aside0.mk (HNE.out (by rw [hceq]; rfl))
            clear hceq
            go_wp2
            go_still_tail 12, (by kernel_rfl)
            go_wp2_with (first | (go_at_call 53; (with_reducible refine (HSW.out _ (by repeat (first | (with_reducible exact Below.refl _ _) | (with_reducible refine below_alloc ?_ _) | (with_reducible refine below_drew1 ?_) | (with_reducible refine pw_below_drewN ?_ _) | fail))).mono ?_); rintro e w2 ⟨rfl, hb2⟩; have HB2 := Aside0.mk (show Below wr.heap.size wr w2 from below_step (by repeat (first | (with_reducible exact Below.refl _ _) | (with_reducible refine below_alloc ?_ _) | (with_reducible refine below_drew1 ?_) | (with_reducible refine pw_below_drewN ?_ _) | fail)) hb2); clear hb2) | fail)
            go_quiet (fail)
            go_wp2
            go_ret
            exact ⟨ret_b HF.out.symm, by repeat (first | (with_reducible exact Below.refl _ _) | (with_reducible refine below_alloc ?_ _) | (with_reducible refine below_drew1 ?_) | (with_reducible refine pw_below_drewN ?_ _) | (with_reducible exact below_step HBW.out HB2.out))⟩
          | true =>
            by_cases e1 : x.ref = y.ref
            · have d1 : (x.ref != y.ref) = false := bne_f e1
              rw [decide_eq_true e1] at hceq
              obtain ⟨px, hpx⟩ : ∃ px, px = x.pin := ⟨_, rfl⟩
              obtain ⟨py, hpy⟩ : ∃ py, py = y.pin := ⟨_, rfl⟩
              rw [← hpx, ← hpy] at hceq
              rw [← hpx] at x1
              rw [← hpy] at y1
              clear hpx hpy e1
              cases px <;> cases py
              · have HEQ := Aside0.mk (show x = y from of_decide_eq_true hceq)
                clear hceq
                go_wp2
                go_still_tail 12, (by kernel_rfl)
                go_wp2_with (first | (go_at_call 53; (with_reducible refine (HSW.out _ (by repeat (first | (with_reducible exact Below.refl _ _) | (with_reducible refine below_alloc ?_ _) | (with_reducible refine below_drew1 ?_) | (with_reducible refine pw_below_drewN ?_ _) | fail))).mono ?_); rintro e w2 ⟨rfl, hb2⟩; have HB2 := Aside0.mk (show Below wr.heap.size wr w2 from below_step (by repeat (first | (with_reducible exact Below.refl _ _) | (with_reducible refine below_alloc ?_ _) | (with_reducible refine below_drew1 ?_) | (with_reducible refine pw_below_drewN ?_ _) | fail)) hb2); have b2 := bcell HB2.out b0; have b3 := bcell HB2.out b1; have x4 := bcell HB2.out x0; have x5 := bcell HB2.out x1; have y4 := bcell HB2.out y0; have y5 := bcell HB2.out y1; clear hb2) | fail)
                go_quiet (fail)
                go_wp2
                go_roundg g1
                case measure => omega
                case rel => exact ⟨k + 1, by rw [HW.out], by have := HK.out; omega, ⟨fun i hi => by rcases Nat.lt_or_ge i k with h | h; exact HO.out i h; obtain rfl : i = k := (by omega); rw [← HXY.out.1, ← HXY.out.2]; exact HEQ.out⟩, ⟨by repeat (first | (with_reducible exact Below.refl _ _) | (with_reducible refine below_alloc ?_ _) | (with_reducible refine below_drew1 ?_) | (with_reducible refine pw_below_drewN ?_ _) | (with_reducible exact below_step HB.out HB2.out))⟩⟩
              · have HF := Aside0.mk (HNE.out (by rw [hceq]; rfl))
                clear hceq
                go_wp2
                go_still_tail 12, (by kernel_rfl)
                go_wp2_with (first | (go_at_call 53; (with_reducible refine (HSW.out _ (by repeat (first | (with_reducible exact Below.refl _ _) | (with_reducible refine below_alloc ?_ _) | (with_reducible refine below_drew1 ?_) | (with_reducible refine pw_below_drewN ?_ _) | fail))).mono ?_); rintro e w2 ⟨rfl, hb2⟩; have HB2 := Aside0.mk (show Below wr.heap.size wr w2 from below_step (by repeat (first | (with_reducible exact Below.refl _ _) | (with_reducible refine below_alloc ?_ _) | (with_reducible refine below_drew1 ?_) | (with_reducible refine pw_below_drewN ?_ _) | fail)) hb2); have b2 := bcell HB2.out b0; have b3 := bcell HB2.out b1; have x4 := bcell HB2.out x0; have x5 := bcell HB2.out x1; have y4 := bcell HB2.out y0; have y5 := bcell HB2.out y1; clear hb2) | fail)
                go_quiet (fail)
                go_wp2
                go_ret
                exact ⟨ret_b HF.out.symm, by repeat (first | (with_reducible exact Below.refl _ _) | (with_reducible refine below_alloc ?_ _) | (with_reducible refine below_drew1 ?_) | (with_reducible refine pw_below_drewN ?_ _) | (with_reducible exact below_step HBW.out HB2.out))⟩
              · have HF := Aside0.mk (HNE.out (by rw [hceq]; rfl))
                clear hceq
                go_wp2
                go_still_tail 12, (by kernel_rfl)
                go_wp2_with (first | (go_at_call 53; (with_reducible refine (HSW.out _ (by repeat (first | (with_reducible exact Below.refl _ _) | (with_reducible refine below_alloc ?_ _) | (with_reducible refine below_drew1 ?_) | (with_reducible refine pw_below_drewN ?_ _) | fail))).mono ?_); rintro e w2 ⟨rfl, hb2⟩; have HB2 := Aside0.mk (show Below wr.heap.size wr w2 from below_step (by repeat (first | (with_reducible exact Below.refl _ _) | (with_reducible refine below_alloc ?_ _) | (with_reducible refine below_drew1 ?_) | (with_reducible refine pw_below_drewN ?_ _) | fail)) hb2); have b2 := bcell HB2.out b0; have b3 := bcell HB2.out b1; have x4 := bcell HB2.out x0; have x5 := bcell HB2.out x1; have y4 := bcell HB2.out y0; have y5 := bcell HB2.out y1; clear hb2) | fail)
                go_quiet (fail)
                go_wp2
                go_ret
                exact ⟨ret_b HF.out.symm, by repeat (first | (with_reducible exact Below.refl _ _) | (with_reducible refine below_alloc ?_ _) | (with_reducible refine below_drew1 ?_) | (with_reducible refine pw_below_drewN ?_ _) | (with_reducible exact below_step HBW.out HB2.out))⟩
              · have HEQ := Aside0.mk (show x = y from of_decide_eq_true hceq)
                clear hceq
                go_wp2
                go_still_tail 12, (by kernel_rfl)
                go_wp2_with (first | (go_at_call 53; (with_reducible refine (HSW.out _ (by repeat (first | (with_reducible exact Below.refl _ _) | (with_reducible refine below_alloc ?_ _) | (with_reducible refine below_drew1 ?_) | (with_reducible refine pw_below_drewN ?_ _) | fail))).mono ?_); rintro e w2 ⟨rfl, hb2⟩; have HB2 := Aside0.mk (show Below wr.heap.size wr w2 from below_step (by repeat (first | (with_reducible exact Below.refl _ _) | (with_reducible refine below_alloc ?_ _) | (with_reducible refine below_drew1 ?_) | (with_reducible refine pw_below_drewN ?_ _) | fail)) hb2); have b2 := bcell HB2.out b0; have b3 := bcell HB2.out b1; have x4 := bcell HB2.out x0; have x5 := bcell HB2.out x1; have y4 := bcell HB2.out y0; have y5 := bcell HB2.out y1; clear hb2) | fail)
                go_quiet (fail)
                go_wp2
                go_roundg g1
                case measure => omega
                case rel => exact ⟨k + 1, by rw [HW.out], by have := HK.out; omega, ⟨fun i hi => by rcases Nat.lt_or_ge i k with h | h; exact HO.out i h; obtain rfl : i = k := (by omega); rw [← HXY.out.1, ← HXY.out.2]; exact HEQ.out⟩, ⟨by repeat (first | (with_reducible exact Below.refl _ _) | (with_reducible refine below_alloc ?_ _) | (with_reducible refine below_drew1 ?_) | (with_reducible refine pw_below_drewN ?_ _) | (with_reducible exact below_step HB.out HB2.out))⟩⟩
            · have d1 : (x.ref != y.ref) = true := bne_t e1
              have HF := Aside0.mk (HNE.out (by rw [hceq, decide_eq_false e1]; rfl))
              clear hceq e1
              go_wp2
              go_still_tail 12, (by kernel_rfl)
              go_wp2_with (first | (go_at_call 53; (with_reducible refine (HSW.out _ (by repeat (first | (with_reducible exact Below.refl _ _) | (with_reducible refine below_alloc ?_ _) | (with_reducible refine below_drew1 ?_) | (with_reducible refine pw_below_drewN ?_ _) | fail))).mono ?_); rintro e w2 ⟨rfl, hb2⟩; have HB2 := Aside0.mk (show Below wr.heap.size wr w2 from below_step (by repeat (first | (with_reducible exact Below.refl _ _) | (with_reducible refine below_alloc ?_ _) | (with_reducible refine below_drew1 ?_) | (with_reducible refine pw_below_drewN ?_ _) | fail)) hb2); have b2 := bcell HB2.out b0; have b3 := bcell HB2.out b1; have x4 := bcell HB2.out x0; have y4 := bcell HB2.out y0; clear hb2) | fail)
              go_quiet (fail)
              go_wp2
              go_ret
              exact ⟨ret_b HF.out.symm, by repeat (first | (with_reducible exact Below.refl _ _) | (with_reducible refine below_alloc ?_ _) | (with_reducible refine below_drew1 ?_) | (with_reducible refine pw_below_drewN ?_ _) | (with_reducible exact below_step HBW.out HB2.out))⟩
        · have r1 : decide (k < a.c.length) = false := decide_eq_false hlt
          have r2 : (k < a.c.length) = False := eq_false hlt
          have HF := Aside0.mk (show decide (a = b) = true from decide_eq_true (by
            have h1 := listc_eq HKL.out.2 (fun i hi => HO.out i (by omega))
            have h2 := HKL.out.1
            cases a; cases b; simp only at h1 h2; rw [h1, h2]))
          clear hlt hk
          go_wp2
          go_ret
          exact ⟨ret_b HF.out.symm, HBW.out⟩
    · have q2 : ((a.c.length : Int) != (b.c.length : Int)) = true := bne_t (by omega)
      have q3 : (a.c.length != b.c.length) = true := bne_t hl
      have q4 : (a.c.length = b.c.length) = False := eq_false hl
      have HF := Aside0.mk (show decide (a = b) = false from decide_eq_false (fun e => hl (by rw [e])))
      clear hk hl
      go_wp2
      go_ret
      exact ⟨ret_b HF.out.symm, HB0.out⟩
  · have q1 : (a.keep != b.keep) = true := bne_t hk
    have HF := Aside0.mk (show decide (a = b) = false from decide_eq_false (fun e => hk (by rw [e])))
    clear hk
    go_wp2
    go_ret
    exact ⟨ret_b HF.out.symm, HB0.out⟩
end Go.Proofs.Ytopkoganfnabgaa.H
namespace Go.Proofs.Ytopkoganfnabgaa.H
open Go.RowKit Go.Proofs.YtopkoganfnabgaaW.PrintWords Go.Proofs.YtopkoganfnabgaaW.PrintLast Go.Proofs.YtopkoganfnabgaaW.PrintMore
attribute [local go_sem] max2_int min2_int max_two min_two max_three min_three max_four min_four
set_option linter.unusedVariables false
set_option linter.unusedSimpArgs false
structure TlSt (w W : World) (A : Option Addr) (c : Nat) (h : Hp) (x : It) (D : Option Addr) (l : List It) : Prop where
  b0 : Below w.heap.size w W
  hh : Bx W (w.heap.size + 1) A c h
  hx : Ix W (w.heap.size + 1 + 1) x
  hl : kIt.C W D l.length l
theorem TlSt.step {w W W' : World} {A D : Option Addr} {c : Nat} {h : Hp} {x : It} {l : List It} (s : TlSt w W A c h x D l) (hb : Below W.heap.size W W') : TlSt w W' A c h x D l := ⟨below_step s.b0 hb, s.hh.step hb, s.hx.step hb, Kd.C_below s.hl hb⟩
/-- What a call comes to that makes a heap, a place and an error. -/
abbrev Res3 (W : World) (g : Hp) (p e : Int) : Ending → World → Prop := fun e' w' => ∃ B' cb', e' = .returned (.tuple #[.agg #[.slice B' g.c.length cb', .int .i64 g.keep], .int .i64 p, .int .i64 e]) ∧ g.c.length ≤ cb' ∧ kCl.C w' B' g.c.length g.c ∧ Below W.heap.size W w'
abbrev SameC (g : Hp) : Prop := ∀ (B1 B2 : Option Addr) (c1 c2 : Nat) (W : World), kCl.C W B1 g.c.length g.c → kCl.C W B2 g.c.length g.c → Calls Try.prog 17 #[.agg #[.slice B1 g.c.length c1, .int .i64 g.keep], .agg #[.slice B2 g.c.length c2, .int .i64 g.keep]] W fun e w' => e = .returned (.bool true) ∧ Below W.heap.size W w'
theorem sameC (g : Hp) : SameC g := fun B1 B2 c1 c2 W h1 h2 => by
  have := same05_walk B1 B2 c1 c2 g g W h1 h2
  rw [decide_eq_true rfl] at this
  exact this
end Go.Proofs.Ytopkoganfnabgaa.H
namespace Go.Proofs.Ytopkoganfnabgaa.H
open Go.RowKit Go.Proofs.YtopkoganfnabgaaW.PrintWords Go.Proofs.YtopkoganfnabgaaW.PrintLast Go.Proofs.YtopkoganfnabgaaW.PrintMore
attribute [local go_sem] max2_int min2_int max_two min_two max_three min_three max_four min_four
set_option linter.unusedVariables false
set_option linter.unusedSimpArgs false
structure FlSt (w W : World) (D : Option Addr) (l : List It) (s8 : Nat) (B8 : Option Addr) (k8 : Nat) (h : Hp) : Prop where
  b0 : Below w.heap.size w W
  hh : Bx W s8 B8 k8 h
  hl : kIt.C W D l.length l
theorem FlSt.step {w W W' : World} {D B8 : Option Addr} {l : List It} {s8 k8 : Nat} {h : Hp} (s : FlSt w W D l s8 B8 k8 h) (hb : Below W.heap.size W W') : FlSt w W' D l s8 B8 k8 h := ⟨below_step s.b0 hb, s.hh.step hb, Kd.C_below s.hl hb⟩
theorem tmod_nat {x : Int} {n : Nat} (hx : 0 ≤ x) (hn : 0 < n) : ∃ j : Nat, x.tmod (n : Int) = (j : Int) ∧ x % (n : Int) = (j : Int) ∧ j < n := by
  obtain ⟨m, rfl⟩ := Int.eq_ofNat_of_zero_le hx
  exact ⟨m % n, by rw [Int.tmod_eq_emod_of_nonneg (by omega)]; rfl, rfl, Nat.mod_lt _ hn⟩
end Go.Proofs.Ytopkoganfnabgaa.H
namespace Go.Proofs.Ytopkoganfnabgaa.H
open Go.RowKit Go.Proofs.YtopkoganfnabgaaW.PrintWords Go.Proofs.YtopkoganfnabgaaW.PrintLast Go.Proofs.YtopkoganfnabgaaW.PrintMore
attribute [local go_sem] max2_int min2_int max_two min_two max_three min_three max_four min_four
set_option linter.unusedVariables false
set_option linter.unusedSimpArgs false
theorem rt_len {h : Hp} {root : Int} {d : Nat} {l : List It} (t : Rt h root d l) : l.length ≤ 2147483648 := by
  rcases t with ⟨_, _, rfl⟩ | ⟨_, t⟩
  · simp
  · exact t.gd.len
end Go.Proofs.Ytopkoganfnabgaa.H
namespace Go.Proofs.Ytopkoganfnabgaa.H
open Go.RowKit Go.Proofs.YtopkoganfnabgaaW.PrintWords Go.Proofs.YtopkoganfnabgaaW.PrintLast Go.Proofs.YtopkoganfnabgaaW.PrintMore
attribute [local go_sem] max2_int min2_int max_two min_two max_three min_three max_four min_four
set_option linter.unusedVariables false
set_option linter.unusedSimpArgs false
theorem PuSt.c0 {w W : World} {A : Option Addr} {c : Nat} {h : Hp} (s : PuSt w W A c h) : W.cell? ⟨w.heap.size, 0, none⟩ = some (.slice A h.c.length c) := (blk_cell s.hh 0).trans rfl
theorem PuSt.c1 {w W : World} {A : Option Addr} {c : Nat} {h : Hp} (s : PuSt w W A c h) : W.cell? ⟨w.heap.size, 1, none⟩ = some (.int .i64 h.keep) := (blk_cell s.hh 1).trans rfl
set_option maxHeartbeats 8000000 in
set_option maxRecDepth 100000 in
/-- The reference's Del, of a right tree. -/
theorem refDel_walk (A : Option Addr) (c : Nat) (h h' : Hp) (root key p er : Int) (dd : Nat) (l : List It) (bb : Int) (w : World) (hr : kCl.C w A h.c.length h.c) (hl : h.c.length ≤ 2000) (hcc : h.c.length ≤ c) (ok : Ok h bb) (tr : Rt h root dd l) (e : delO h root key = some (h', p, er)) :
    Calls Try.prog 29 #[.agg #[.slice A h.c.length c, .int .i64 h.keep], .int .i64 root, .int .i64 key] w fun e w' => ∃ B cb, e = .returned (.tuple #[.agg #[.slice B h'.c.length cb, .int .i64 h'.keep], .int .i64 p, .int .i64 er]) ∧ h'.c.length ≤ cb ∧ kCl.C w' B h'.c.length h'.c ∧ Below w.heap.size w w' := by
  obtain ⟨W1, hW1⟩ : ∃ W1, W1 = (w.alloc (.cells #[.slice A h.c.length c, .int .i64 h.keep] 24)).alloc (.cells #[.slice none 0 0, .int .i64 0] 24) := ⟨_, rfl⟩
  have S1 := Aside0.mk (show PuSt w W1 A c h by rw [hW1]; exact pust w A c h hr hcc)
  have hW1' := Aside0.mk hW1
  obtain ⟨v, e1, htg, hcase⟩ := delO_inv e
  have HGE := Aside0.mk (fun (W : World) (hb : Below W1.heap.size W1 W) => get07_walk 21 A c h root key l W (Kd.C_below S1.out.cl.1 hb) tr.list)
  rw [tr.tget ok key] at htg
  have hgl := getL_cases l key
  obtain ⟨v', e', hve⟩ : ∃ v' e', getL l key = (v', e') := ⟨_, _, rfl⟩
  rw [hve] at HGE htg hgl
  simp only [Option.some.injEq, Prod.mk.injEq] at htg
  obtain ⟨rfl, rfl⟩ := htg
  have c0 := (blk_cell S1.out.hh 0).trans (show _ = some (Value.slice A h.c.length c) from rfl)
  have c1 := (blk_cell S1.out.hh 1).trans (show _ = some (Value.int .i64 h.keep) from rfl)
  clear hW1 hr hcc e hve ok tr
  rcases hcase with ⟨h0, rfl, rfl, rfl⟩ | ⟨rfl, d, hhi, hcase⟩
  · have h4 : er = 4 := by rcases hgl with ⟨_, h⟩ | ⟨_, h⟩ <;> simp only at h <;> omega
    subst h4
    clear h0 hgl
    (go_enter Try.func29, Try.ntmps29; go_upto_region 1 with (fail); rw [← hW1'.out]; go_upto_region 2 with (first | (go_at_call 25; (with_reducible refine (HGE.out _ (by repeat (first | (with_reducible exact Below.refl _ _) | (with_reducible refine below_alloc ?_ _) | (with_reducible refine below_drew1 ?_) | (with_reducible refine pw_below_drewN ?_ _) | (with_reducible exact Below.refl _ _)))).mono ?_); rintro e w2 ⟨rfl, hb2⟩; have S2 := Aside0.mk (S1.out.step (below_step (by repeat (first | (with_reducible exact Below.refl _ _) | (with_reducible refine below_alloc ?_ _) | (with_reducible refine below_drew1 ?_) | (with_reducible refine pw_below_drewN ?_ _) | (with_reducible exact Below.refl _ _))) hb2)); have d0 := S2.out.c0; have d1 := S2.out.c1; clear hb2) | fail); clear c0 c1)
    (have f0 := blk_frozen S2.out.hr 0; have f1 := blk_frozen S2.out.hr 1; have z0 := (blk_cell S2.out.hr 0).trans (show _ = some (Value.slice none 0 0) from rfl); have z1 := (blk_cell S2.out.hr 1).trans (show _ = some (Value.int .i64 0) from rfl))
    go_wp2
    (refine bodyPost_ret (results_ctt rfl _ _ (w.heap.size + 1) 24 #[.slice A h'.c.length c, .int .i64 h'.keep] (0, 0) _ rfl (hb_store S2.out.hr) Try.underlying24 rfl (by kernel_rfl)) rfl ?_; exact ⟨A, c, rfl, S2.out.cl.2, cl_store S2.out.cl.1 S2.out.hr, below_set (below_set S2.out.b0 (by omega)) (by omega)⟩)
  · have HHI := Aside0.mk (fun (W2 : World) (s : PuSt w W2 A c h) (W : World) (hb : Below W2.heap.size W2 W) => refHigh_walk 21 A c h root d W (by decide) (Kd.C_below s.cl.1 hb) hhi)
    obtain ⟨fv, hfv⟩ : ∃ fv, fv = fitsH h (d : Int) true := ⟨_, rfl⟩
    have HFT := Aside0.mk (fun (W2 : World) (s : PuSt w W2 A c h) (W : World) (hb : Below W2.heap.size W2 W) => refFits_walk A c h (d : Int) true W (Kd.C_below s.cl.1 hb))
    rw [← hfv] at HFT hcase
    have HCA := Aside0.mk hcase
    have HLL := Aside0.mk hl
    clear hhi hfv hcase hl hgl
    (go_enter Try.func29, Try.ntmps29; go_upto_region 1 with (fail); rw [← hW1'.out]; go_upto_region 2 with (first | (go_at_call 25; (with_reducible refine (HGE.out _ (by repeat (first | (with_reducible exact Below.refl _ _) | (with_reducible refine below_alloc ?_ _) | (with_reducible refine below_drew1 ?_) | (with_reducible refine pw_below_drewN ?_ _) | (with_reducible exact Below.refl _ _)))).mono ?_); rintro e w2 ⟨rfl, hb2⟩; have S2 := Aside0.mk (S1.out.step (below_step (by repeat (first | (with_reducible exact Below.refl _ _) | (with_reducible refine below_alloc ?_ _) | (with_reducible refine below_drew1 ?_) | (with_reducible refine pw_below_drewN ?_ _) | (with_reducible exact Below.refl _ _))) hb2)); have d0 := S2.out.c0; have d1 := S2.out.c1; clear hb2) | fail); clear c0 c1)
    go_upto_region 4 with (fail)
    go_cut [11] from 30 to 35 (fun v11 wc => v11 = .bool fv ∧ Aside0 (Below w2.heap.size w2 wc))
    case first =>
      go_region_held3 (fun w' => w'.cell? ⟨w.heap.size, 0, none⟩ = some (.slice A h.c.length c) ∧ w'.cell? ⟨w.heap.size, 1, none⟩ = some (.int .i64 h.keep)) (first | exact ⟨d0, d1⟩ | exact (fun (H : Below w2.heap.size w2 _) => ⟨bcell H d0, bcell H d1⟩) (by repeat (first | (with_reducible exact Below.refl _ _) | (with_reducible refine below_alloc ?_ _) | (with_reducible refine below_drew1 ?_) | (with_reducible refine pw_below_drewN ?_ _) | (with_reducible exact HB4.out) | (with_reducible exact HB3.out)))) (first | (go_at_call 21; (with_reducible refine (HHI.out _ S2.out _ (by repeat (first | (with_reducible exact Below.refl _ _) | (with_reducible refine below_alloc ?_ _) | (with_reducible refine below_drew1 ?_) | (with_reducible refine pw_below_drewN ?_ _) | (with_reducible exact Below.refl _ _)))).mono ?_); rintro e w3 ⟨rfl, hb3⟩; have HB3 := Aside0.mk (below_step (show Below w2.heap.size w2 _ from (by repeat (first | (with_reducible exact Below.refl _ _) | (with_reducible refine below_alloc ?_ _) | (with_reducible refine below_drew1 ?_) | (with_reducible refine pw_below_drewN ?_ _) | (with_reducible exact Below.refl _ _)))) hb3); clear hb3) | (go_at_call 45; (with_reducible refine (HFT.out _ S2.out _ (by repeat (first | (with_reducible exact Below.refl _ _) | (with_reducible refine below_alloc ?_ _) | (with_reducible refine below_drew1 ?_) | (with_reducible refine pw_below_drewN ?_ _) | (with_reducible exact HB3.out)))).mono ?_); rintro e w4 ⟨rfl, hb4⟩; have HB4 := Aside0.mk (below_step (show Below w2.heap.size w2 _ from (by repeat (first | (with_reducible exact Below.refl _ _) | (with_reducible refine below_alloc ?_ _) | (with_reducible refine below_drew1 ?_) | (with_reducible refine pw_below_drewN ?_ _) | (with_reducible exact HB3.out)))) hb4); clear hb4) | fail)
      all_goals (go_wp2; go_meet; case rel => exact ⟨rfl, HB4⟩)
    case rest =>
      obtain ⟨rfl, HBc⟩ := hcut
      obtain ⟨wq, rfl⟩ : ∃ wq, wq = wc := ⟨_, rfl⟩
      have S4 := Aside0.mk (S2.out.step HBc.out)
      clear d0 d1
      have d0 := (blk_cell S4.out.hh 0).trans (show _ = some (Value.slice A h.c.length c) from rfl)
      have d1 := (blk_cell S4.out.hh 1).trans (show _ = some (Value.int .i64 h.keep) from rfl)
      rcases HCA.out with ⟨rfl, rfl, rfl, rfl⟩ | ⟨rfl, g, made, g2, e2, hx, hdn, hlo, rfl⟩
      · (have f0 := blk_frozen S4.out.hr 0; have f1 := blk_frozen S4.out.hr 1; have z0 := (blk_cell S4.out.hr 0).trans (show _ = some (Value.slice none 0 0) from rfl); have z1 := (blk_cell S4.out.hr 1).trans (show _ = some (Value.int .i64 0) from rfl))
        go_wp2
        (refine bodyPost_ret (results_ctt rfl _ _ (w.heap.size + 1) 24 #[.slice A h'.c.length c, .int .i64 h'.keep] (0, 0) _ rfl (hb_store S4.out.hr) Try.underlying24 rfl (by kernel_rfl)) rfl ?_; exact ⟨A, c, rfl, S4.out.cl.2, cl_store S4.out.cl.1 S4.out.hr, below_set (below_set S4.out.b0 (by omega)) (by omega)⟩)
      · have HAN := Aside0.mk (fun (W : World) (hb : Below wq.heap.size wq W) => refXnew_walk 20 A c h g root key made W (Kd.C_below S4.out.cl.1 hb) S4.out.cl.2 hx)
        have hgl := xnewO_len hx
        have HGL := Aside0.mk (show g.c.length ≤ 2000 by rw [hgl.2]; exact HLL.out)
        have HDN := Aside0.mk (And.intro hdn hlo)
        have HM1 := Aside0.mk hgl.1
        clear hx hdn hlo hgl
        go_upto_region 8 with (first | (go_at_call 61; (with_reducible refine (HAN.out _ (by repeat (first | (with_reducible exact Below.refl _ _) | (with_reducible refine below_alloc ?_ _) | (with_reducible refine below_drew1 ?_) | (with_reducible refine pw_below_drewN ?_ _) | (with_reducible exact Below.refl _ _)))).mono ?_); rintro e w7 ⟨A7, c7, M, cm, rfl, hc7, hr7, hcm, hM, hb7⟩; have HR7 := Aside0.mk (And.intro hc7 hr7); have HM7 := Aside0.mk (And.intro hcm hM); have HB7 := Aside0.mk hb7; clear hc7 hr7 hcm hM hb7) | fail)
        obtain ⟨W7, hW7⟩ : ∃ W7, W7 = w7.alloc (.cells #[.slice A7 g.c.length c7, .int .i64 g.keep] 24) := ⟨_, rfl⟩
        obtain ⟨xb, hxb⟩ : ∃ xb, xb = w7.heap.size := ⟨_, rfl⟩
        have HO7 := Aside0.mk (show Bx W7 xb A7 c7 g by rw [hW7, hxb]; exact Bx.new HR7.out.2 HR7.out.1)
        have HM8 := Aside0.mk (show made.length ≤ cm ∧ kIt.C W7 M made.length made by rw [hW7]; exact ⟨HM7.out.1, Kd.C_alloc HM7.out.2 _⟩)
        have HBq7 := Aside0.mk (show Below wq.heap.size wq W7 by rw [hW7]; exact below_alloc HB7.out _)
        have HXB := Aside0.mk (show w.heap.size + 1 < xb by have h1 := blk_lt S4.out.hr; have h2 := HB7.out.size; rw [hxb]; omega)
        have S7 := Aside0.mk (S4.out.step HBq7.out)
        rw [← hW7, ← hxb]
        clear hW7 hxb d0 d1
        rcases made with _ | ⟨y, r⟩
        · obtain ⟨rfl, rfl⟩ : g2 = g ∧ p = -1 := by
            have := HDN.out.1
            simp only [downO, Option.some.injEq, Prod.mk.injEq] at this
            exact ⟨this.1.symm, this.2.symm⟩
          have HLO := Aside0.mk (fun (B : Option Addr) (cb : Nat) (W : World) (h1' : kCl.C W B g2.c.length g2.c) (h2' : g2.c.length ≤ cb) => refLoose_walk 25 B cb g2 h' root e2 W h1' h2' (by have := HGL.out; omega) HDN.out.2)
          have HOX := HO7
          have HBX := Aside0.mk S7.out.b0
          have HZX := Aside0.mk S7.out.hr
          (have d0 := HOX.out.c0; have d1 := HOX.out.c1; go_upto_region 14 with (first | (go_at_call 49; (with_reducible refine (HLO.out _ _ _ (Kd.C_below HOX.out.cl (by repeat (first | (with_reducible exact Below.refl _ _) | (with_reducible refine below_alloc ?_ _) | (with_reducible refine below_drew1 ?_) | (with_reducible refine pw_below_drewN ?_ _) | (with_reducible exact Below.refl _ _)))) HOX.out.le).mono ?_); rintro e w9 ⟨B9, c9, rfl, hc9, hr9, hb9⟩; have HR9 := Aside0.mk (And.intro hc9 hr9); have HB9 := Aside0.mk hb9; clear hc9 hr9 hb9) | fail); obtain ⟨WA, hWA⟩ : ∃ WA, WA = w9.alloc (.cells #[.slice B9 h'.c.length c9, .int .i64 h'.keep] 24) := ⟨_, rfl⟩; have GA := Aside0.mk (show Bx WA w9.heap.size B9 c9 h' by rw [hWA]; exact Bx.new HR9.out.2 HR9.out.1); have HBA := Aside0.mk (show Below w.heap.size w WA by rw [hWA]; exact below_alloc (below_step HBX.out HB9.out) _); have HZA := Aside0.mk (show WA.heap[w.heap.size + 1]? = some (.cells #[.slice none 0 0, .int .i64 0] 24 (0, 0)) by rw [hWA]; exact blk_alloc (blk_below HZX.out HB9.out) _); rw [← hWA]; clear hWA d0 d1; have e0 := GA.out.c0; have e1 := GA.out.c1; have f0 := blk_frozen HZA.out 0; have f1 := blk_frozen HZA.out 1; have z0 := (blk_cell HZA.out 0).trans (show _ = some (Value.slice none 0 0) from rfl); have z1 := (blk_cell HZA.out 1).trans (show _ = some (Value.int .i64 0) from rfl); go_wp2; refine bodyPost_ret (results_ctt rfl _ _ (w.heap.size + 1) 24 #[.slice B9 h'.c.length c9, .int .i64 h'.keep] (0, 0) _ rfl (hb_store HZA.out) Try.underlying24 rfl (by kernel_rfl)) rfl ?_; exact ⟨B9, c9, rfl, HR9.out.1, cl_store GA.out.cl HZA.out, below_set (below_set HBA.out (by omega)) (by omega)⟩)
        · have hr0 : r = [] := List.length_eq_zero_iff.mp (by have := HM1.out; simp only [List.length_cons] at this; omega)
          subst hr0
          have hlow : lowO 21 g y.v = some (g2, p) := HDN.out.1
          have hl2 : g2.c.length ≤ 2000 := by rw [lowO_len 21 g g2 y.v p hlow]; exact HGL.out
          have HLO := Aside0.mk (fun (B : Option Addr) (cb : Nat) (W : World) (h1' : kCl.C W B g2.c.length g2.c) (h2' : g2.c.length ≤ cb) => refLoose_walk 25 B cb g2 h' root e2 W h1' h2' (by omega) HDN.out.2)
          have HLW := Aside0.mk (fun (W : World) (hb : Below W7.heap.size W7 W) => refLow_walk 21 A7 c7 g g2 y.v p W (Kd.C_below HO7.out.cl hb) HGL.out HO7.out.le hlow)
          obtain ⟨ad, rfl, _, v0⟩ := at_it0 HM8.out.2 (by simp)
          rw [show itAt [y] 0 = y from rfl] at v0
          have d0 := HO7.out.c0
          have d1 := HO7.out.c1
          clear hlow hl2
          go_upto_region 10 with (fail)
          go_cut [15, 16] from 49 to 58 (fun v15 v16 wd => ∃ (XN : Nat) (B8 : Option Addr) (c8 : Nat), v15 = .pointer (some ⟨XN, 0, none⟩) ∧ v16 = .int .i64 p ∧ Aside0 (Bx wd XN B8 c8 g2) ∧ Aside0 (Below W7.heap.size W7 wd))
          case first =>
            go_region_held3 (fun w' => w'.cell? ⟨xb, 0, none⟩ = some (.slice A7 g.c.length c7) ∧ w'.cell? ⟨xb, 1, none⟩ = some (.int .i64 g.keep) ∧ w'.cell? ⟨ad.block, ad.off + 1, none⟩ = some (.int .i64 y.v)) (first | exact ⟨d0, d1, v0⟩ | exact (fun (H : Below W7.heap.size W7 _) => ⟨bcell H d0, bcell H d1, bcell H v0⟩) (by repeat (first | (with_reducible exact Below.refl _ _) | (with_reducible refine below_alloc ?_ _) | (with_reducible refine below_drew1 ?_) | (with_reducible refine pw_below_drewN ?_ _) | (with_reducible exact HB8.out) | (with_reducible refine below_set ?_ (Nat.le_refl _))))) (first | (go_at_call 31; (with_reducible refine (HLW.out _ (by repeat (first | (with_reducible exact Below.refl _ _) | (with_reducible refine below_alloc ?_ _) | (with_reducible refine below_drew1 ?_) | (with_reducible refine pw_below_drewN ?_ _) | fail))).mono ?_); rintro e w8 ⟨B8, c8, rfl, hc8, hr8, hb8⟩; have HB8 := Aside0.mk (show Below W7.heap.size W7 w8 from below_step (by repeat (first | (with_reducible exact Below.refl _ _) | (with_reducible refine below_alloc ?_ _) | (with_reducible refine below_drew1 ?_) | (with_reducible refine pw_below_drewN ?_ _) | fail)) hb8); have HR8 := Aside0.mk (And.intro hc8 hr8); (first | (have qx := blk_below (blk_drew (blk_new W7 (.cells #[.slice none 0 0, .int .i64 0] 24))) hb8; have QX := Aside0.mk qx; have qx0 := (blk_cell qx 0).trans (show _ = some (Value.slice none 0 0) from rfl); have qx1 := (blk_cell qx 1).trans (show _ = some (Value.int .i64 0) from rfl); have qf0 := blk_frozen qx 0; have qf1 := blk_frozen qx 1; clear qx) | skip); clear hb8 hc8 hr8) | fail)
            all_goals
              go_wp2
              go_meet
              case rel => first | exact ⟨w8.heap.size, B8, c8, rfl, rfl, ⟨Bx.new HR8.out.2 HR8.out.1⟩, ⟨below_alloc HB8.out _⟩⟩ | exact ⟨W7.heap.size, B8, c8, rfl, rfl, ⟨⟨hb_store QX.out, cl_store HR8.out.2 QX.out, HR8.out.1⟩⟩, ⟨below_set (below_set HB8.out (Nat.le_refl _)) (Nat.le_refl _)⟩⟩
          case rest =>
            obtain ⟨WD, rfl⟩ : ∃ WD, WD = wc := ⟨_, rfl⟩
            obtain ⟨XN, B8, c8, rfl, rfl, BXX, HB9⟩ := hcut
            have HO9 := Aside0.mk (HO7.out.step HB9.out)
            have S9 := Aside0.mk (S7.out.step HB9.out)
            clear d0 d1 v0
            have x0 := BXX.out.c0
            have x1 := BXX.out.c1
            have d0 := HO9.out.c0
            have d1 := HO9.out.c1
            have f0 := blk_frozen HO9.out.bx 0
            have f1 := blk_frozen HO9.out.bx 1
            go_upto_region 12 with (fail)
            obtain ⟨WX, hWX⟩ : ∃ WX, WX = ((WD.setCell ⟨xb, 0, none⟩ (.slice B8 g2.c.length c8)).setCell ⟨xb, 1, none⟩ (.int .i64 g2.keep)) := ⟨_, rfl⟩
            have HOX := Aside0.mk (show Bx WX xb B8 c8 g2 by rw [hWX]; exact ⟨hb_store HO9.out.bx, cl_store BXX.out.cl HO9.out.bx, BXX.out.le⟩)
            have HBX := Aside0.mk (show Below w.heap.size w WX by rw [hWX]; exact below_set (below_set S9.out.b0 (by have := HXB.out; show w.heap.size ≤ xb; omega)) (by have := HXB.out; show w.heap.size ≤ xb; omega))
            have HZX := Aside0.mk (show WX.heap[w.heap.size + 1]? = some (.cells #[.slice none 0 0, .int .i64 0] 24 (0, 0)) by rw [hWX]; exact blk_far (blk_far S9.out.hr (by have := HXB.out; show w.heap.size + 1 ≠ xb; omega) _) (by have := HXB.out; show w.heap.size + 1 ≠ xb; omega) _)
            rw [← hWX]
            clear hWX x0 x1 d0 d1 f0 f1
            (have d0 := HOX.out.c0; have d1 := HOX.out.c1; go_upto_region 14 with (first | (go_at_call 49; (with_reducible refine (HLO.out _ _ _ (Kd.C_below HOX.out.cl (by repeat (first | (with_reducible exact Below.refl _ _) | (with_reducible refine below_alloc ?_ _) | (with_reducible refine below_drew1 ?_) | (with_reducible refine pw_below_drewN ?_ _) | (with_reducible exact Below.refl _ _)))) HOX.out.le).mono ?_); rintro e w9 ⟨B9, c9, rfl, hc9, hr9, hb9⟩; have HR9 := Aside0.mk (And.intro hc9 hr9); have HB9 := Aside0.mk hb9; clear hc9 hr9 hb9) | fail); obtain ⟨WA, hWA⟩ : ∃ WA, WA = w9.alloc (.cells #[.slice B9 h'.c.length c9, .int .i64 h'.keep] 24) := ⟨_, rfl⟩; have GA := Aside0.mk (show Bx WA w9.heap.size B9 c9 h' by rw [hWA]; exact Bx.new HR9.out.2 HR9.out.1); have HBA := Aside0.mk (show Below w.heap.size w WA by rw [hWA]; exact below_alloc (below_step HBX.out HB9.out) _); have HZA := Aside0.mk (show WA.heap[w.heap.size + 1]? = some (.cells #[.slice none 0 0, .int .i64 0] 24 (0, 0)) by rw [hWA]; exact blk_alloc (blk_below HZX.out HB9.out) _); rw [← hWA]; clear hWA d0 d1; have e0 := GA.out.c0; have e1 := GA.out.c1; have f0 := blk_frozen HZA.out 0; have f1 := blk_frozen HZA.out 1; have z0 := (blk_cell HZA.out 0).trans (show _ = some (Value.slice none 0 0) from rfl); have z1 := (blk_cell HZA.out 1).trans (show _ = some (Value.int .i64 0) from rfl); go_wp2; refine bodyPost_ret (results_ctt rfl _ _ (w.heap.size + 1) 24 #[.slice B9 h'.c.length c9, .int .i64 h'.keep] (0, 0) _ rfl (hb_store HZA.out) Try.underlying24 rfl (by kernel_rfl)) rfl ?_; exact ⟨B9, c9, rfl, HR9.out.1, cl_store GA.out.cl HZA.out, below_set (below_set HBA.out (by omega)) (by omega)⟩)
set_option maxHeartbeats 8000000 in
set_option maxRecDepth 100000 in
/-- The reference's Cut. -/
theorem refCut_walk (A : Option Addr) (c : Nat) (h h' : Hp) (root lo hi p er : Int) (d0 m n : Nat) (l0 : List It) (w : World) (hr : kCl.C w A h.c.length h.c) (hcc : h.c.length ≤ c) (f : FP h root d0 l0) (hm : m ≤ 1000) (e : cutO lo hi m h root = some (h', p, n, er)) :
    Calls Try.prog 33 #[.agg #[.slice A h.c.length c, .int .i64 h.keep], .int .i64 root, .int .i64 lo, .int .i64 hi, .int .i64 m] w fun e w' => ∃ B cb, e = .returned (.tuple #[.agg #[.slice B h'.c.length cb, .int .i64 h'.keep], .int .i64 p, .int .i64 n, .int .i64 er]) ∧ h'.c.length ≤ cb ∧ kCl.C w' B h'.c.length h'.c ∧ Below w.heap.size w w' := by
  obtain ⟨W1, hW1⟩ : ∃ W1, W1 = (w.alloc (.cells #[.slice A h.c.length c, .int .i64 h.keep] 24)).alloc (.cells #[.slice none 0 0, .int .i64 0] 24) := ⟨_, rfl⟩
  have S1 := Aside0.mk (show PuSt w W1 A c h by rw [hW1]; exact pust w A c h hr hcc)
  have HE := Aside0.mk (And.intro e f)
  have HM := Aside0.mk hm
  have hW1' := Aside0.mk hW1
  have qm : decide ((m : Int) < 0) = false := decide_eq_false (by omega)
  have qm2 : (m : Int) < 0 ↔ False := ⟨fun h => by omega, fun h => h.elim⟩
  clear hW1 hr hcc e f hm
  go_enter Try.func33, Try.ntmps33
  go_wp2
  rw [← hW1'.out]
  go_loopg [1, 14, 15, 16, 17, 18] m (fun g s1 s14 s15 s16 s17 s18 wr => (∃ (k n1 : Nat) (hk : Hp) (rk : Int) (A' : Option Addr) (c' : Nat) (d : Nat) (l : List It), s14 = .int .i64 k ∧ s1 = .int .i64 rk ∧ k + g = m ∧ k + n1 = n ∧ Aside0 (cutO lo hi g hk rk = some (h', p, n1, er) ∧ FP hk rk d l) ∧ Aside0 (wr.heap[w.heap.size]? = some (.cells #[.slice A' hk.c.length c', .int .i64 hk.keep] 24 (0, 0))) ∧ Aside0 (hk.c.length ≤ c' ∧ kCl.C wr A' hk.c.length hk.c) ∧ Aside0 (wr.heap[w.heap.size + 1]? = some (.cells #[.slice none 0 0, .int .i64 0] 24 (0, 0))) ∧ Aside0 (Below w.heap.size w wr)))
  case atStart => exact ⟨0, n, h, root, A, c, d0, l0, rfl, rfl, by omega, by omega, HE, ⟨S1.out.hh⟩, ⟨S1.out.cl.2, S1.out.cl.1⟩, ⟨S1.out.hr⟩, ⟨S1.out.b0⟩⟩
  case round =>
    obtain ⟨k, n1, hk, rk, A', c', d, l, rfl, rfl, hkg, hkn, HQ, HH, HC, HZ, HB⟩ := hrel
    have b0 := (blk_cell HH.out 0).trans (show _ = some (Value.slice A' hk.c.length c') from rfl)
    have b1 := (blk_cell HH.out 1).trans (show _ = some (Value.int .i64 hk.keep) from rfl)
    have f0 := blk_frozen HZ.out 0
    have f1 := blk_frozen HZ.out 1
    have z0 := (blk_cell HZ.out 0).trans (show _ = some (Value.slice none 0 0) from rfl)
    have z1 := (blk_cell HZ.out 1).trans (show _ = some (Value.int .i64 0) from rfl)
    cases gk with
    | zero =>
      have hq := HQ.out.1
      unfold cutO at hq
      simp only [Option.some.injEq, Prod.mk.injEq] at hq
      obtain ⟨rfl, rfl, rfl, rfl⟩ := hq
      have r1 : decide (k < m) = false := decide_eq_false (by omega)
      have r2 : decide ((k : Int) < (m : Int)) = false := decide_eq_false (by omega)
      have HKN := Aside0.mk (show m = n by omega)
      have r3 : decide (0 < (m : Int)) = decide (0 < m) := by congr 1; exact propext ⟨fun h => by omega, fun h => by omega⟩
      clear hkg hkn
      go_wp2
      all_goals
        try (exfalso; omega)
        (refine bodyPost_ret (results_cttt rfl _ _ (w.heap.size + 1) 24 #[.slice A' hk.c.length c', .int .i64 hk.keep] (0, 0) _ rfl (hb_store HZ.out) Try.underlying24 rfl (by kernel_rfl)) rfl ?_)
        refine ⟨A', c', ?_, HC.out.1, cl_store HC.out.2 HZ.out, below_set (below_set HB.out (by omega)) (by omega)⟩
        have := HKN.out
        first | (rw [this]; rfl) | (congr <;> omega) | (simp; omega)
    | succ g1 =>
      have r1 : decide (k < m) = true := decide_eq_true (by omega)
      have r2 : decide ((k : Int) < (m : Int)) = true := decide_eq_true (by omega)
      have HKG := Aside0.mk (And.intro hkg hkn)
      have HSC := Aside0.mk (fun (W : World) (hb : Below wr.heap.size wr W) => refScan_walk A' c' hk rk lo hi l W (Kd.C_below HC.out.2 hb) HQ.out.2.tr.list (rt_len HQ.out.2.tr))
      have hinv := cutO_inv HQ.out.2.tr.list HQ.out.1
      obtain ⟨sl, hsl⟩ : ∃ sl, sl = scanL lo hi l := ⟨_, rfl⟩
      rw [← hsl] at HSC hinv
      clear hkg hkn hsl
      go_upto_region 5 with (first | (go_at_call 34; (with_reducible refine (HSC.out _ (by repeat (first | (with_reducible exact Below.refl _ _) | (with_reducible refine below_alloc ?_ _) | (with_reducible refine below_drew1 ?_) | (with_reducible refine pw_below_drewN ?_ _) | (with_reducible exact Below.refl _ _)))).mono ?_); rintro e w2 ⟨M, cm, rfl, hcm, hM, hb2⟩; have HM2 := Aside0.mk (And.intro hcm hM); have HB2 := Aside0.mk hb2; clear hcm hM hb2) | fail)
      have HH2 := Aside0.mk (blk_below HH.out HB2.out)
      have HZ2 := Aside0.mk (blk_below HZ.out HB2.out)
      clear b0 b1 f0 f1 z0 z1
      have b0 := (blk_cell HH2.out 0).trans (show _ = some (Value.slice A' hk.c.length c') from rfl)
      have b1 := (blk_cell HH2.out 1).trans (show _ = some (Value.int .i64 hk.keep) from rfl)
      rcases hinv with ⟨hs, rfl, rfl, rfl, rfl⟩ | ⟨x, r, g2, p2, e2, hs, hdel, hrest⟩
      · subst hs
        have f0 := blk_frozen HZ2.out 0
        have f1 := blk_frozen HZ2.out 1
        have z0 := (blk_cell HZ2.out 0).trans (show _ = some (Value.slice none 0 0) from rfl)
        have z1 := (blk_cell HZ2.out 1).trans (show _ = some (Value.int .i64 0) from rfl)
        have HKN := Aside0.mk (show k = n by have := HKG.out.2; omega)
        go_wp2
        (refine bodyPost_ret (results_cttt rfl _ _ (w.heap.size + 1) 24 #[.slice A' h'.c.length c', .int .i64 h'.keep] (0, 0) _ rfl (hb_store HZ2.out) Try.underlying24 rfl (by kernel_rfl)) rfl ?_)
        rw [HKN.out]
        exact ⟨A', c', rfl, HC.out.1, cl_store (Kd.C_below HC.out.2 HB2.out) HZ2.out, below_set (below_set (below_step HB.out HB2.out) (by omega)) (by omega)⟩
      · have hl2 := HQ.out.2.ok.l2
        have HPD := Aside0.mk (fun (W : World) (hb : Below w2.heap.size w2 W) => refDel_walk A' c' hk g2 rk x.k p2 e2 d l 8001 W (Kd.C_below (Kd.C_below HC.out.2 HB2.out) hb) hl2 HC.out.1 HQ.out.2.ok HQ.out.2.tr hdel)
        have hl0 : 0 < sl.length := by rw [hs]; simp
        have p1 : ((sl.length : Int) == 0) = false := beq_eq_false_iff_ne.mpr (by omega)
        have p2' : (sl.length == 0) = false := beq_eq_false_iff_ne.mpr (by omega)
        have p3 : (0 < sl.length) = True := eq_true hl0
        obtain ⟨ad, rfl, v0, _⟩ := at_it0 HM2.out.2 hl0
        rw [show itAt sl 0 = x by rw [hs]; rfl] at v0
        have HREST := Aside0.mk hrest
        have HFD := Aside0.mk (show e2 = 0 → ∃ d' l', FP g2 p2 d' l' from fun h0 => by
          obtain ⟨g3, p3, e3, h1, h2⟩ := HQ.out.2.del x.k
          rw [hdel] at h1
          simp only [Option.some.injEq, Prod.mk.injEq] at h1
          obtain ⟨rfl, rfl, rfl⟩ := h1
          rcases h2 with ⟨h2, _⟩ | ⟨h2, _⟩ | ⟨_, _, _, _, _, d', _, f'⟩
          · omega
          · omega
          · exact ⟨d', _, f'⟩)
        clear hs hdel hrest hl0 hl2
        go_upto_region 7 with (fail)
        go_cut [16, 17, 18] from 35 to 46 (fun v16 v17 v18 wd => ∃ (XN : Nat) (B' : Option Addr) (c2 : Nat), v16 = .pointer (some ⟨XN, 0, none⟩) ∧ v17 = .int .i64 p2 ∧ v18 = .int .i64 e2 ∧ Aside0 (Bx wd XN B' c2 g2) ∧ Aside0 (Below w2.heap.size w2 wd))
        case first =>
          go_region_held3 (fun w' => w'.cell? ⟨w.heap.size, 0, none⟩ = some (.slice A' hk.c.length c') ∧ w'.cell? ⟨w.heap.size, 1, none⟩ = some (.int .i64 hk.keep) ∧ w'.cell? ad = some (.int .i64 x.k)) (first | exact ⟨b0, b1, v0⟩ | exact (fun (H : Below w2.heap.size w2 _) => ⟨bcell H b0, bcell H b1, bcell H v0⟩) (by repeat (first | (with_reducible exact Below.refl _ _) | (with_reducible refine below_alloc ?_ _) | (with_reducible refine below_drew1 ?_) | (with_reducible refine pw_below_drewN ?_ _) | (with_reducible exact HB3.out) | (with_reducible refine below_set ?_ (Nat.le_refl _))))) (first | (go_at_call 29; (with_reducible refine (HPD.out _ (by repeat (first | (with_reducible exact Below.refl _ _) | (with_reducible refine below_alloc ?_ _) | (with_reducible refine below_drew1 ?_) | (with_reducible refine pw_below_drewN ?_ _) | fail))).mono ?_); rintro e w3 ⟨B', c2, rfl, hc', hr', hb3⟩; have HB3 := Aside0.mk (show Below w2.heap.size w2 w3 from below_step (by repeat (first | (with_reducible exact Below.refl _ _) | (with_reducible refine below_alloc ?_ _) | (with_reducible refine below_drew1 ?_) | (with_reducible refine pw_below_drewN ?_ _) | fail)) hb3); have HR3 := Aside0.mk (And.intro hc' hr'); (first | (have qx := blk_below (blk_drew (blk_new w2 (.cells #[.slice none 0 0, .int .i64 0] 24))) hb3; have QX := Aside0.mk qx; have qx0 := (blk_cell qx 0).trans (show _ = some (Value.slice none 0 0) from rfl); have qx1 := (blk_cell qx 1).trans (show _ = some (Value.int .i64 0) from rfl); have qf0 := blk_frozen qx 0; have qf1 := blk_frozen qx 1; clear qx) | skip); clear hb3 hc' hr') | fail)
          · go_wp2
            go_meet
            case rel => exact ⟨w3.heap.size, B', c2, rfl, rfl, rfl, ⟨Bx.new HR3.out.2 HR3.out.1⟩, ⟨below_alloc HB3.out _⟩⟩
          · go_wp2
            go_meet
            case rel => exact ⟨w2.heap.size, B', c2, rfl, rfl, rfl, ⟨⟨hb_store QX.out, cl_store HR3.out.2 QX.out, HR3.out.1⟩⟩, ⟨below_set (below_set HB3.out (Nat.le_refl _)) (Nat.le_refl _)⟩⟩
        case rest =>
          obtain ⟨XN, B2, c2, rfl, rfl, rfl, BXX, HB4⟩ := hcut
          have HH4 := Aside0.mk (blk_below HH2.out HB4.out)
          have HZ4 := Aside0.mk (blk_below HZ2.out HB4.out)
          have HBW4 := Aside0.mk (below_step (below_step HB.out HB2.out) HB4.out)
          clear b0 b1 v0 p1 p2' p3
          have b0 := (blk_cell HH4.out 0).trans (show _ = some (Value.slice A' hk.c.length c') from rfl)
          have b1 := (blk_cell HH4.out 1).trans (show _ = some (Value.int .i64 hk.keep) from rfl)
          rcases HREST.out with ⟨h0, rfl, rfl, rfl, rfl⟩ | ⟨rfl, n2, hnext, rfl⟩
          · have q1 := bne_t h0
            have f0 := blk_frozen HZ4.out 0
            have f1 := blk_frozen HZ4.out 1
            have z0 := (blk_cell HZ4.out 0).trans (show _ = some (Value.slice none 0 0) from rfl)
            have z1 := (blk_cell HZ4.out 1).trans (show _ = some (Value.int .i64 0) from rfl)
            have HKN := Aside0.mk (show k = n by have := HKG.out.2; omega)
            clear h0
            go_wp2
            (refine bodyPost_ret (results_cttt rfl _ _ (w.heap.size + 1) 24 #[.slice A' h'.c.length c', .int .i64 h'.keep] (0, 0) _ rfl (hb_store HZ4.out) Try.underlying24 rfl (by kernel_rfl)) rfl ?_)
            rw [HKN.out]
            exact ⟨A', c', rfl, HC.out.1, cl_store (Kd.C_below (Kd.C_below HC.out.2 HB2.out) HB4.out) HZ4.out, below_set (below_set HBW4.out (by omega)) (by omega)⟩
          · obtain ⟨d', l', fp'⟩ := HFD.out rfl
            have HNX := Aside0.mk (And.intro hnext fp')
            have HW := Aside0.mk (show wrap64 ((k : Int) + 1) = ((k + 1 : Nat) : Int) by have := HKG.out.1; have := HM.out; unfold wrap64; omega)
            have x0 := BXX.out.c0
            have x1 := BXX.out.c1
            have f0 := blk_frozen HH4.out 0
            have f1 := blk_frozen HH4.out 1
            clear hnext fp'
            go_wp2
            go_roundg g1
            case measure => omega
            case rel => exact ⟨k + 1, n2, g2, p2, B2, c2, d', l', by rw [HW.out], rfl, by have := HKG.out.1; omega, by have := HKG.out.2; omega, HNX, ⟨hb_store HH4.out⟩, ⟨BXX.out.le, cl_store BXX.out.cl HH4.out⟩, ⟨blk_far (blk_far HZ4.out (by show w.heap.size + 1 ≠ w.heap.size; omega) _) (by show w.heap.size + 1 ≠ w.heap.size; omega) _⟩, ⟨below_set (below_set HBW4.out (Nat.le_refl _)) (Nat.le_refl _)⟩⟩
end Go.Proofs.Ytopkoganfnabgaa.H
namespace Go.Proofs.Ytopkoganfnabgaa.H
open Go.RowKit Go.Proofs.YtopkoganfnabgaaW.PrintWords Go.Proofs.YtopkoganfnabgaaW.PrintLast Go.Proofs.YtopkoganfnabgaaW.PrintMore
attribute [local go_sem] max2_int min2_int max_two min_two max_three min_three max_four min_four
set_option linter.unusedVariables false
set_option linter.unusedSimpArgs false
/-- What a call comes to that makes a heap and a place. -/
abbrev Res2 (W : World) (g : Hp) (p : Int) : Ending → World → Prop := fun e' w' => ∃ B' cb', e' = .returned (.tuple #[.agg #[.slice B' g.c.length cb', .int .i64 g.keep], .int .i64 p]) ∧ g.c.length ≤ cb' ∧ kCl.C w' B' g.c.length g.c ∧ Below W.heap.size W w'
/-- What a call comes to that makes a heap, a place, a count and an error. -/
abbrev Res4 (W : World) (g : Hp) (p : Int) (n : Nat) (e : Int) : Ending → World → Prop := fun e' w' => ∃ B' cb', e' = .returned (.tuple #[.agg #[.slice B' g.c.length cb', .int .i64 g.keep], .int .i64 p, .int .i64 n, .int .i64 e]) ∧ g.c.length ≤ cb' ∧ kCl.C w' B' g.c.length g.c ∧ Below W.heap.size W w'
set_option maxHeartbeats 8000000 in
set_option maxRecDepth 100000 in
theorem ptells_walk (A : Option Addr) (c : Nat) (h : Hp) (root key lo hi m : Int) (w : World) (hr : kCl.C w A h.c.length h.c) (hcc : h.c.length ≤ c) (hm : 0 ≤ m ∧ m ≤ 255) :
    Calls Try.prog 7 #[.agg #[.slice A h.c.length c, .int .i64 h.keep, .int .i64 root, .int .i64 key, .int .i64 lo, .int .i64 hi, .int .u8 m]] w fun e w' => e = .returned (.bool true) ∧ Below w.heap.size w w' := by
  obtain ⟨W1, hW1⟩ : ∃ W1, W1 = (w.alloc (.cells #[.slice A h.c.length c, .int .i64 h.keep, .int .i64 root, .int .i64 key, .int .i64 lo, .int .i64 hi, .int .u8 m] 61)).alloc (.cells #[.slice A h.c.length c, .int .i64 h.keep] 24) := ⟨_, rfl⟩
  have S0 := Aside0.mk (show PqSt w W1 (w.heap.size + 1) A c h by
    rw [hW1]
    have := Bx.new (Kd.C_alloc hr (.cells #[.slice A h.c.length c, .int .i64 h.keep, .int .i64 root, .int .i64 key, .int .i64 lo, .int .i64 hi, .int .u8 m] 61)) hcc
    rw [World.size_alloc] at this
    exact ⟨below_alloc (below_alloc (Below.refl _ _) _) _, this⟩)
  have hW1' := Aside0.mk hW1
  obtain ⟨b, hb⟩ := may7_some (h := h) (root := root) 60
  have HMA := Aside0.mk (show ∀ (W : World), kCl.C W A h.c.length h.c → Calls Try.prog 12 #[.agg #[.slice A h.c.length c, .int .i64 h.keep], .int .i64 root, .int .i64 60] W fun e w' => e = .returned (.bool b) ∧ Below W.heap.size W w' from fun W hcl => may07_walk A c h root 60 b W hcl hb)
  have HCC := Aside0.mk hcc
  clear hW1 hr hcc
  cases b with
  | false =>
    clear hb hm
    (go_enter Try.func7, Try.ntmps7; go_upto_region 7 with (fail); rw [← hW1'.out]; go_upto_region 8 with (first | (go_at_call 27; (with_reducible refine (shown10_walk _).mono ?_); rintro e w1 ⟨rfl, hb1⟩; have S1 := Aside0.mk (S0.out.step hb1); have c0 := S1.out.hh.c0; have c1 := S1.out.hh.c1; clear hb1) | fail))
    go_wp2_with (first | (go_at_call 12; (with_reducible refine (HMA.out _ (Kd.C_below S1.out.hh.cl (by repeat (first | (with_reducible exact Below.refl _ _) | (with_reducible refine below_alloc ?_ _) | (with_reducible refine below_drew1 ?_) | (with_reducible refine pw_below_drewN ?_ _) | (with_reducible exact Below.refl _ _))))).mono ?_); rintro e w2 ⟨rfl, hb2⟩; have S2 := Aside0.mk (S1.out.step (below_step (show Below w1.heap.size w1 _ from (by repeat (first | (with_reducible exact Below.refl _ _) | (with_reducible refine below_alloc ?_ _) | (with_reducible refine below_drew1 ?_) | (with_reducible refine pw_below_drewN ?_ _) | (with_reducible exact Below.refl _ _)))) hb2)); have y0 := S2.out.hh.c0; have y1 := S2.out.hh.c1; clear hb2) | fail)
    go_ret
    exact ⟨rfl, S2.out.b0⟩
  | true =>
    obtain ⟨o, hl60, d, li, tr⟩ := may7_facts hb
    obtain ⟨a, p, e, hdel, _⟩ := del_spec key o (by decide) (by decide) tr
    obtain ⟨c', r, hlow⟩ := low_some o (by decide) tr
    have HP1 := Aside0.mk (show ∀ W : World, kCl.C W A h.c.length h.c → Calls Try.prog 28 #[.agg #[.slice A h.c.length c, .int .i64 h.keep], .int .i64 root, .int .i64 key] W (Res3 W a p e) from fun W hcl => pdel_walk A c h a root key p e W hcl (by omega) HCC.out hdel)
    have HP2 := Aside0.mk (show ∀ W : World, kCl.C W A h.c.length h.c → Calls Try.prog 29 #[.agg #[.slice A h.c.length c, .int .i64 h.keep], .int .i64 root, .int .i64 key] W (Res3 W a p e) from fun W hcl => refDel_walk A c h a root key p e d li 1000000 W hcl (by omega) HCC.out o tr hdel)
    have HP3 := Aside0.mk (show ∀ W : World, kCl.C W A h.c.length h.c → Calls Try.prog 30 #[.agg #[.slice A h.c.length c, .int .i64 h.keep], .int .i64 root] W (Res2 W c' r) from fun W hcl => low_walk A c h c' root r 21 W hcl (by omega) HCC.out hlow)
    have HP4 := Aside0.mk (show ∀ W : World, kCl.C W A h.c.length h.c → Calls Try.prog 31 #[.agg #[.slice A h.c.length c, .int .i64 h.keep], .int .i64 root] W (Res2 W c' r) from fun W hcl => refLow_walk 21 A c h c' root r W hcl (by omega) HCC.out hlow)
    have HS1 := Aside0.mk (sameC a)
    have HS2 := Aside0.mk (sameC c')
    obtain ⟨j, j1, j2, j3⟩ := tmod_nat (n := 8) hm.1 (by decide)
    have jw : wrap64 (m.tmod 8) = (j : Int) := by rw [show m.tmod 8 = (j : Int) from j1]; unfold wrap64; omega
    have HJ := Aside0.mk j3
    clear hdel hlow hl60 tr o hb j1 j2 hm j3
    (go_enter Try.func7, Try.ntmps7; go_upto_region 7 with (fail); rw [← hW1'.out]; go_upto_region 8 with (first | (go_at_call 27; (with_reducible refine (shown10_walk _).mono ?_); rintro e w1 ⟨rfl, hb1⟩; have S1 := Aside0.mk (S0.out.step hb1); have c0 := S1.out.hh.c0; have c1 := S1.out.hh.c1; clear hb1) | fail))
    go_upto_region 10 with (first | (go_at_call 12; (with_reducible refine (HMA.out _ (Kd.C_below S1.out.hh.cl (by repeat (first | (with_reducible exact Below.refl _ _) | (with_reducible refine below_alloc ?_ _) | (with_reducible refine below_drew1 ?_) | (with_reducible refine pw_below_drewN ?_ _) | (with_reducible exact Below.refl _ _))))).mono ?_); rintro e w2 ⟨rfl, hb2⟩; have S2 := Aside0.mk (S1.out.step (below_step (show Below w1.heap.size w1 _ from (by repeat (first | (with_reducible exact Below.refl _ _) | (with_reducible refine below_alloc ?_ _) | (with_reducible refine below_drew1 ?_) | (with_reducible refine pw_below_drewN ?_ _) | (with_reducible exact Below.refl _ _)))) hb2)); have y0 := S2.out.hh.c0; have y1 := S2.out.hh.c1; clear hb2) | fail)
    clear c0 c1
    go_upto_region 11 with (first | (go_at_call 28; (with_reducible refine (HP1.out _ (Kd.C_below S2.out.hh.cl (by repeat (first | (with_reducible exact Below.refl _ _) | (with_reducible refine below_alloc ?_ _) | (with_reducible refine below_drew1 ?_) | (with_reducible refine pw_below_drewN ?_ _) | (with_reducible exact Below.refl _ _))))).mono ?_); rintro e w3 ⟨E1, k1, rfl, hc3, hr3, hb3⟩; have HR3 := Aside0.mk (And.intro hc3 hr3); have HB3 := Aside0.mk hb3; clear hc3 hr3 hb3) | fail)
    obtain ⟨s3, hs3⟩ : ∃ s, s = w3.heap.size := ⟨_, rfl⟩
    (obtain ⟨W4, hW4⟩ : ∃ W, W = w3.alloc (.cells #[.slice E1 a.c.length k1, .int .i64 a.keep] 24) := ⟨_, rfl⟩; have hb4 : Below w2.heap.size w2 W4 := (by rw [hW4]; exact below_alloc HB3.out _); have BA0 := Aside0.mk (show Bx W4 w3.heap.size E1 k1 a by rw [hW4]; exact Bx.new HR3.out.2 HR3.out.1); rw [← hW4]; clear hW4)
    rw [← hs3] at BA0 ⊢
    have S4 := Aside0.mk (S2.out.step hb4)
    clear hb4 hs3 y0 y1
    have y0 := S4.out.hh.c0
    have y1 := S4.out.hh.c1
    go_upto_region 12 with (first | (go_at_call 29; (with_reducible refine (HP2.out _ (Kd.C_below S4.out.hh.cl (by repeat (first | (with_reducible exact Below.refl _ _) | (with_reducible refine below_alloc ?_ _) | (with_reducible refine below_drew1 ?_) | (with_reducible refine pw_below_drewN ?_ _) | (with_reducible exact Below.refl _ _))))).mono ?_); rintro e w3 ⟨E2, k2, rfl, hc3, hr3, hb3⟩; have HR3 := Aside0.mk (And.intro hc3 hr3); have HB3 := Aside0.mk hb3; clear hc3 hr3 hb3) | fail)
    obtain ⟨s5, hs5⟩ : ∃ s, s = w3.heap.size := ⟨_, rfl⟩
    (obtain ⟨W6, hW6⟩ : ∃ W, W = w3.alloc (.cells #[.slice E2 a.c.length k2, .int .i64 a.keep] 24) := ⟨_, rfl⟩; have hb4 : Below W4.heap.size W4 W6 := (by rw [hW6]; exact below_alloc HB3.out _); have BB0 := Aside0.mk (show Bx W6 w3.heap.size E2 k2 a by rw [hW6]; exact Bx.new HR3.out.2 HR3.out.1); rw [← hW6]; clear hW6)
    rw [← hs5] at BB0 ⊢
    have S6 := Aside0.mk (S4.out.step hb4)
    have BA1 := Aside0.mk (BA0.out.step hb4)
    clear hb4 hs5 y0 y1
    have y0 := S6.out.hh.c0
    have y1 := S6.out.hh.c1
    go_upto_region 13 with (first | (go_at_call 30; (with_reducible refine (HP3.out _ (Kd.C_below S6.out.hh.cl (by repeat (first | (with_reducible exact Below.refl _ _) | (with_reducible refine below_alloc ?_ _) | (with_reducible refine below_drew1 ?_) | (with_reducible refine pw_below_drewN ?_ _) | (with_reducible exact Below.refl _ _))))).mono ?_); rintro e w3 ⟨E3, k3, rfl, hc3, hr3, hb3⟩; have HR3 := Aside0.mk (And.intro hc3 hr3); have HB3 := Aside0.mk hb3; clear hc3 hr3 hb3) | fail)
    obtain ⟨s7, hs7⟩ : ∃ s, s = w3.heap.size := ⟨_, rfl⟩
    (obtain ⟨W8, hW8⟩ : ∃ W, W = w3.alloc (.cells #[.slice E3 c'.c.length k3, .int .i64 c'.keep] 24) := ⟨_, rfl⟩; have hb4 : Below W6.heap.size W6 W8 := (by rw [hW8]; exact below_alloc HB3.out _); have BC0 := Aside0.mk (show Bx W8 w3.heap.size E3 k3 c' by rw [hW8]; exact Bx.new HR3.out.2 HR3.out.1); rw [← hW8]; clear hW8)
    rw [← hs7] at BC0 ⊢
    have S8 := Aside0.mk (S6.out.step hb4)
    have BA2 := Aside0.mk (BA1.out.step hb4)
    have BB1 := Aside0.mk (BB0.out.step hb4)
    clear hb4 hs7 y0 y1
    have y0 := S8.out.hh.c0
    have y1 := S8.out.hh.c1
    go_upto_region 14 with (first | (go_at_call 31; (with_reducible refine (HP4.out _ (Kd.C_below S8.out.hh.cl (by repeat (first | (with_reducible exact Below.refl _ _) | (with_reducible refine below_alloc ?_ _) | (with_reducible refine below_drew1 ?_) | (with_reducible refine pw_below_drewN ?_ _) | (with_reducible exact Below.refl _ _))))).mono ?_); rintro e w3 ⟨E4, k4, rfl, hc3, hr3, hb3⟩; have HR3 := Aside0.mk (And.intro hc3 hr3); have HB3 := Aside0.mk hb3; clear hc3 hr3 hb3) | fail)
    obtain ⟨s9, hs9⟩ : ∃ s, s = w3.heap.size := ⟨_, rfl⟩
    (obtain ⟨W12, hW12⟩ : ∃ W, W = w3.alloc (.cells #[.slice E4 c'.c.length k4, .int .i64 c'.keep] 24) := ⟨_, rfl⟩; have hb4 : Below W8.heap.size W8 W12 := (by rw [hW12]; exact below_alloc HB3.out _); have BD := Aside0.mk (show Bx W12 w3.heap.size E4 k4 c' by rw [hW12]; exact Bx.new HR3.out.2 HR3.out.1); rw [← hW12]; clear hW12)
    rw [← hs9] at BD ⊢
    have S12 := Aside0.mk (S8.out.step hb4)
    have BA := Aside0.mk (BA2.out.step hb4)
    have BB := Aside0.mk (BB1.out.step hb4)
    have BC := Aside0.mk (BC0.out.step hb4)
    clear hb4 hs9 y0 y1
    have a0 := BA.out.c0
    have a1 := BA.out.c1
    have b0 := BB.out.c0
    have b1 := BB.out.c1
    go_upto_region 16 with (first | (go_at_call 17; (with_reducible refine (HS1.out _ _ _ _ _ (Kd.C_below BA.out.cl (by repeat (first | (with_reducible exact Below.refl _ _) | (with_reducible refine below_alloc ?_ _) | (with_reducible refine below_drew1 ?_) | (with_reducible refine pw_below_drewN ?_ _) | (with_reducible exact Below.refl _ _)))) (Kd.C_below BB.out.cl (by repeat (first | (with_reducible exact Below.refl _ _) | (with_reducible refine below_alloc ?_ _) | (with_reducible refine below_drew1 ?_) | (with_reducible refine pw_below_drewN ?_ _) | (with_reducible exact Below.refl _ _))))).mono ?_); rintro e w13 ⟨rfl, hb5⟩; have HS3 := Aside0.mk (show Below W12.heap.size W12 _ from below_step (show Below W12.heap.size W12 _ from (by repeat (first | (with_reducible exact Below.refl _ _) | (with_reducible refine below_alloc ?_ _) | (with_reducible refine below_drew1 ?_) | (with_reducible refine pw_below_drewN ?_ _) | (with_reducible exact Below.refl _ _)))) hb5); clear hb5; have u0 := (BC.out.step HS3.out).c0; have u1 := (BC.out.step HS3.out).c1; have u2 := (BD.out.step HS3.out).c0; have u3 := (BD.out.step HS3.out).c1) | (go_at_call 17; (with_reducible refine (HS2.out _ _ _ _ _ (Kd.C_below BC.out.cl (by repeat (first | (with_reducible exact Below.refl _ _) | (with_reducible refine below_alloc ?_ _) | (with_reducible refine below_drew1 ?_) | (with_reducible refine pw_below_drewN ?_ _) | (with_reducible exact HS3.out)))) (Kd.C_below BD.out.cl (by repeat (first | (with_reducible exact Below.refl _ _) | (with_reducible refine below_alloc ?_ _) | (with_reducible refine below_drew1 ?_) | (with_reducible refine pw_below_drewN ?_ _) | (with_reducible exact HS3.out))))).mono ?_); rintro e w14 ⟨rfl, hb5⟩; have HS4 := Aside0.mk (show Below W12.heap.size W12 _ from below_step (show Below W12.heap.size W12 _ from (by repeat (first | (with_reducible exact Below.refl _ _) | (with_reducible refine below_alloc ?_ _) | (with_reducible refine below_drew1 ?_) | (with_reducible refine pw_below_drewN ?_ _) | (with_reducible exact HS3.out)))) hb5); clear hb5) | fail)
    clear a0 a1 b0 b1 u0 u1 u2 u3
    have S14 := Aside0.mk (S12.out.step HS4.out)
    have y0 := S14.out.hh.c0
    have y1 := S14.out.hh.c1
    obtain ⟨b, hb⟩ := fine_some (h := h) (root := root) 60
    have HFI := Aside0.mk (show FineC A c h root 60 b from fineC 60 hb)
    cases b with
    | false =>
      clear hb
      go_wp2_with (first | (go_at_call 18; (with_reducible refine (HFI.out _ _ (one_int _ root) (Kd.C_below S14.out.hh.cl (by repeat (first | (with_reducible exact Below.refl _ _) | (with_reducible refine below_alloc ?_ _) | (with_reducible refine below_drew1 ?_) | (with_reducible refine pw_below_drewN ?_ _) | (with_reducible exact Below.refl _ _))))).mono ?_); rintro e w15 ⟨rfl, hb5⟩; have S15 := Aside0.mk (S14.out.step (below_step (show Below w14.heap.size w14 _ from (by repeat (first | (with_reducible exact Below.refl _ _) | (with_reducible refine below_alloc ?_ _) | (with_reducible refine below_drew1 ?_) | (with_reducible refine pw_below_drewN ?_ _) | (with_reducible exact Below.refl _ _)))) hb5)); clear hb5) | fail)
      go_ret
      exact ⟨rfl, S15.out.b0⟩
    | true =>
      obtain ⟨-, d1, l1, fp⟩ := fine_facts hb
      obtain ⟨t, u, n, e4, d', hcut, -⟩ := cut_spec lo hi j fp
      have HF1 := Aside0.mk (show ∀ W : World, kCl.C W A h.c.length h.c → Calls Try.prog 32 #[.agg #[.slice A h.c.length c, .int .i64 h.keep], .int .i64 root, .int .i64 lo, .int .i64 hi, .int .i64 j] W (Res4 W t u n e4) from fun W hcl => pcut_walk scan_walk A c h t root lo hi u e4 d1 j n l1 W hcl HCC.out fp (by have := HJ.out; omega) hcut)
      have HF2 := Aside0.mk (show ∀ W : World, kCl.C W A h.c.length h.c → Calls Try.prog 33 #[.agg #[.slice A h.c.length c, .int .i64 h.keep], .int .i64 root, .int .i64 lo, .int .i64 hi, .int .i64 j] W (Res4 W t u n e4) from fun W hcl => refCut_walk A c h t root lo hi u e4 d1 j n l1 W hcl HCC.out fp (by have := HJ.out; omega) hcut)
      have HS5 := Aside0.mk (sameC t)
      clear hb fp hcut
      go_upto_region 18 with (first | (go_at_call 18; (with_reducible refine (HFI.out _ _ (one_int _ root) (Kd.C_below S14.out.hh.cl (by repeat (first | (with_reducible exact Below.refl _ _) | (with_reducible refine below_alloc ?_ _) | (with_reducible refine below_drew1 ?_) | (with_reducible refine pw_below_drewN ?_ _) | (with_reducible exact Below.refl _ _))))).mono ?_); rintro e w15 ⟨rfl, hb5⟩; have S15 := Aside0.mk (S14.out.step (below_step (show Below w14.heap.size w14 _ from (by repeat (first | (with_reducible exact Below.refl _ _) | (with_reducible refine below_alloc ?_ _) | (with_reducible refine below_drew1 ?_) | (with_reducible refine pw_below_drewN ?_ _) | (with_reducible exact Below.refl _ _)))) hb5)); clear hb5) | fail)
      clear y0 y1
      have y0 := S15.out.hh.c0
      have y1 := S15.out.hh.c1
      go_upto_region 20 with (first | (go_at_call 32; (with_reducible refine (HF1.out _ (Kd.C_below S15.out.hh.cl (by repeat (first | (with_reducible exact Below.refl _ _) | (with_reducible refine below_alloc ?_ _) | (with_reducible refine below_drew1 ?_) | (with_reducible refine pw_below_drewN ?_ _) | (with_reducible exact Below.refl _ _))))).mono ?_); rintro e w3 ⟨E5, k5, rfl, hc3, hr3, hb3⟩; have HR3 := Aside0.mk (And.intro hc3 hr3); have HB3 := Aside0.mk hb3; clear hc3 hr3 hb3) | fail)
      obtain ⟨s16, hs16⟩ : ∃ s, s = w3.heap.size := ⟨_, rfl⟩
      (obtain ⟨W16, hW16⟩ : ∃ W, W = w3.alloc (.cells #[.slice E5 t.c.length k5, .int .i64 t.keep] 24) := ⟨_, rfl⟩; have hb4 : Below w15.heap.size w15 W16 := (by rw [hW16]; exact below_alloc HB3.out _); have BT0 := Aside0.mk (show Bx W16 w3.heap.size E5 k5 t by rw [hW16]; exact Bx.new HR3.out.2 HR3.out.1); rw [← hW16]; clear hW16)
      rw [← hs16] at BT0 ⊢
      have S16 := Aside0.mk (S15.out.step hb4)
      clear hb4 hs16 y0 y1
      have y0 := S16.out.hh.c0
      have y1 := S16.out.hh.c1
      go_upto_region 21 with (first | (go_at_call 33; (with_reducible refine (HF2.out _ (Kd.C_below S16.out.hh.cl (by repeat (first | (with_reducible exact Below.refl _ _) | (with_reducible refine below_alloc ?_ _) | (with_reducible refine below_drew1 ?_) | (with_reducible refine pw_below_drewN ?_ _) | (with_reducible exact Below.refl _ _))))).mono ?_); rintro e w3 ⟨E6, k6, rfl, hc3, hr3, hb3⟩; have HR3 := Aside0.mk (And.intro hc3 hr3); have HB3 := Aside0.mk hb3; clear hc3 hr3 hb3) | fail)
      obtain ⟨s18, hs18⟩ : ∃ s, s = w3.heap.size := ⟨_, rfl⟩
      (obtain ⟨W18, hW18⟩ : ∃ W, W = w3.alloc (.cells #[.slice E6 t.c.length k6, .int .i64 t.keep] 24) := ⟨_, rfl⟩; have hb4 : Below W16.heap.size W16 W18 := (by rw [hW18]; exact below_alloc HB3.out _); have BV := Aside0.mk (show Bx W18 w3.heap.size E6 k6 t by rw [hW18]; exact Bx.new HR3.out.2 HR3.out.1); rw [← hW18]; clear hW18)
      rw [← hs18] at BV ⊢
      have S18 := Aside0.mk (S16.out.step hb4)
      have BT := Aside0.mk (BT0.out.step hb4)
      clear hb4 hs18 y0 y1
      have a0 := BT.out.c0
      have a1 := BT.out.c1
      have b0 := BV.out.c0
      have b1 := BV.out.c1
      go_wp2_with (first | (go_at_call 17; (with_reducible refine (HS5.out _ _ _ _ _ (Kd.C_below BT.out.cl (by repeat (first | (with_reducible exact Below.refl _ _) | (with_reducible refine below_alloc ?_ _) | (with_reducible refine below_drew1 ?_) | (with_reducible refine pw_below_drewN ?_ _) | (with_reducible exact Below.refl _ _)))) (Kd.C_below BV.out.cl (by repeat (first | (with_reducible exact Below.refl _ _) | (with_reducible refine below_alloc ?_ _) | (with_reducible refine below_drew1 ?_) | (with_reducible refine pw_below_drewN ?_ _) | (with_reducible exact Below.refl _ _))))).mono ?_); rintro e w18 ⟨rfl, hb5⟩; have HS6 := Aside0.mk (show Below W18.heap.size W18 _ from below_step (show Below W18.heap.size W18 _ from (by repeat (first | (with_reducible exact Below.refl _ _) | (with_reducible refine below_alloc ?_ _) | (with_reducible refine below_drew1 ?_) | (with_reducible refine pw_below_drewN ?_ _) | (with_reducible exact Below.refl _ _)))) hb5); clear hb5) | fail)
      go_ret
      exact ⟨rfl, below_step S18.out.b0 HS6.out⟩
end Go.Proofs.Ytopkoganfnabgaa.H
namespace Go.Proofs.Ytopkoganfnabgaa.H
open Go.RowKit Go.Proofs.YtopkoganfnabgaaW.PrintWords Go.Proofs.YtopkoganfnabgaaW.PrintLast Go.Proofs.YtopkoganfnabgaaW.PrintMore
attribute [local go_sem] max2_int min2_int max_two min_two max_three min_three max_four min_four
set_option linter.unusedVariables false
set_option linter.unusedSimpArgs false
/-- What a value of type t reads as, as a Lean datum of the kind d. -/
def Rd {α : Type} (P : Program) (t : TypeId) (d : Kd α) (I : α → Prop) : Prop :=
  ∀ (H : Type) (enc : TypeId × Value → H) (w : World) (base : Nat) (spare : Nat → Bool) (held : Bool) (fuel : Nat) (cs : List Value) (x : DataW H × List MemPlace), DataW.trod enc P w base spare held fuel t cs = some x → ∃ a, d.K w a cs ∧ I a
theorem rd_choose {α : Type} (n : Nat) (Q : Nat → α → Prop) (h : ∀ i, i < n → ∃ a, Q i a) : ∃ l : List α, l.length = n ∧ ∀ i a, l[i]? = some a → Q i a := by
  induction n with
  | zero => exact ⟨[], rfl, fun i a e => by simp at e⟩
  | succ n ih =>
    obtain ⟨l, hl, hq⟩ := ih (fun i hi => h i (by omega))
    obtain ⟨a, ha⟩ := h n (by omega)
    refine ⟨l ++ [a], by simp [hl], fun i b e => ?_⟩
    by_cases hi : i < l.length
    · rw [List.getElem?_append_left hi] at e; exact hq i b e
    · rw [List.getElem?_append_right (by omega)] at e
      have : i - l.length = 0 := by
        rcases Nat.eq_zero_or_pos (i - l.length) with h | h
        · exact h
        · rw [List.getElem?_eq_none (by simp; omega)] at e; cases e
      rw [this] at e
      have hin : i = n := by omega
      subst hin
      simp at e
      rw [← e]; exact ha
theorem mapM_get {α β : Type} (f : α → Option β) : ∀ (l : List α) (cs : List β), l.mapM f = some cs → ∀ (i : Nat) (a : α), l[i]? = some a → f a = cs[i]?
  | [], cs, h, i, a, e => by simp at e
  | x :: l, cs, h, i, a, e => by
    rw [List.mapM_cons] at h
    simp only [Option.bind_eq_bind, Option.bind_eq_some_iff, Option.pure_def, Option.some.injEq] at h
    obtain ⟨b, hb, bs, hbs, rfl⟩ := h
    cases i with
    | zero => simp at e; subst e; simpa using hb
    | succ i => simpa using mapM_get f l bs hbs i a (by simpa using e)
theorem cells_get {w : World} {base n : Nat} {a : Addr} {cs : List Value} (h : w.cells? base a n = some cs) : cs.length = n ∧ ∀ i, i < n → w.cell? (a.add i) = cs[i]? := by
  unfold World.cells? at h
  split at h
  · have h2 := mapM_get _ _ _ h
    refine ⟨?_, fun i hi => h2 i i (by simp [hi])⟩
    have e := congrArg (Option.map List.length) h
    have : ∀ (l : List Nat) (bs : List Value), (l.mapM fun i => w.cell? (a.add i)) = some bs → bs.length = l.length := by
      intro l
      induction l with
      | nil => intro bs hb; simp at hb; subst hb; rfl
      | cons y l ih =>
        intro bs hb
        rw [List.mapM_cons] at hb
        simp only [Option.bind_eq_bind, Option.bind_eq_some_iff, Option.pure_def, Option.some.injEq] at hb
        obtain ⟨b, _, bs', hbs, rfl⟩ := hb
        simp [ih bs' hbs]
    simpa using this _ _ h
  · cases h
theorem rd_slice {α : Type} {P : Program} {t e : TypeId} {d : Kd α} {I : α → Prop} (ht : P.underlying t = some (.slice e)) (hc : P.cellsOf e = d.sz) (he : Rd P e d I) : Rd P t (Kd.slice e d) (fun xs => ∀ x ∈ xs, I x) := by
  intro H enc w base spare held fuel cs x h
  rcases DataW.trod_slice ht h with ⟨rfl, _⟩ | ⟨a, len, cap, elems, rest, n, _, rfl, _, _, hl, hm, hlen, hel, _, _⟩
  · exact ⟨[], ⟨none, 0, rfl, Nat.le_refl _, rfl, by simp, fun h => absurd h (by simp)⟩, fun _ hx => absurd hx (by simp)⟩
  · obtain ⟨xs, hxl, hxs⟩ := rd_choose len (fun i y => (∃ c, c.length = d.sz ∧ d.K w y c ∧ ∀ j u, c[j]? = some u → w.cell? (a.add (i * d.sz + j)) = some u) ∧ I y) (fun i hi => by
      have h1 := hel i hi
      rw [List.getElem?_eq_getElem (by omega), Option.bind_eq_some_iff, hc] at h1
      obtain ⟨c, h2, h3⟩ := h1
      obtain ⟨y, hk, hI⟩ := he H enc w base spare held n c _ h3
      obtain ⟨c1, c2⟩ := cells_get h2
      refine ⟨y, ⟨c, c1, hk, fun j u hu => ?_⟩, hI⟩
      have hj : j < c.length := (List.getElem?_eq_some_iff.1 hu).1
      have := c2 j (by omega)
      rw [hu] at this
      rw [← this, Addr.add_add])
    refine ⟨xs, ⟨some a, cap, by rw [hxl], by omega, rfl, by unfold maxLen at hm; omega, fun _ => ⟨a, rfl, fun j p hp => (hxs j p hp).1⟩⟩, fun x hx => ?_⟩
    obtain ⟨i, hi, rfl⟩ := List.getElem_of_mem hx
    exact (hxs i _ (List.getElem?_eq_getElem hi)).2
theorem cons_of {α : Type} {l : List α} {n : Nat} (h : l.length = n + 1) : ∃ a t, l = a :: t ∧ t.length = n := by
  cases l with
  | nil => simp at h
  | cons a t => exact ⟨a, t, rfl, by simpa using h⟩
theorem field {H : Type} {enc : TypeId × Value → H} {P : Program} {w : World} {base : Nat} {spare : Nat → Bool} {held : Bool} {n : Nat} {t : TypeId} {cs : List Value} {xs : List (DataW H × List MemPlace)} {j : Nat}
    (h : DataW.trod enc P w base spare held n t cs = xs[j]?) (hj : j < xs.length) : DataW.trod enc P w base spare held n t cs = some xs[j] := by rw [h, List.getElem?_eq_getElem hj]
def kHp : Kd Hp := (Kd.pair (Kd.slice 79 kCl) (Kd.int .i64)).iso (fun h => (h.c, h.keep))
theorem rd_item : Rd Try.prog 26 kIt (fun _ => True) := by
  intro H enc w base spare held fuel cs x h
  obtain ⟨xs, n, rfl, rfl, hl, hx, hf⟩ := DataW.trod_struct Try.underlying26 h
  rw [show Try.prog.cellsOf 26 = 2 by kernel_rfl] at hl
  have hxl : xs.length = 2 := hx
  obtain ⟨z0, y0, rfl, hl0⟩ := cons_of hl
  obtain ⟨z1, y1, rfl, hl1⟩ := cons_of hl0
  obtain rfl := List.eq_nil_of_length_eq_zero hl1
  have g0 : DataW.trod enc Try.prog w base spare held n 3 (([z0, z1].drop 0).take (Try.prog.cellsOf 3)) = some xs[0] := field (hf 0 _ rfl) (by omega)
  rw [show Try.prog.cellsOf 3 = 1 by kernel_rfl] at g0
  replace g0 : DataW.trod enc Try.prog w base spare held n 3 [z0] = some xs[0] := g0
  have g1 : DataW.trod enc Try.prog w base spare held n 3 (([z0, z1].drop 1).take (Try.prog.cellsOf 3)) = some xs[1] := field (hf 1 _ rfl) (by omega)
  rw [show Try.prog.cellsOf 3 = 1 by kernel_rfl] at g1
  replace g1 : DataW.trod enc Try.prog w base spare held n 3 [z1] = some xs[1] := g1
  obtain ⟨a, e0, _, i0⟩ := DataW.trod_int Try.underlying3 g0
  obtain rfl := (List.cons.inj e0).1
  obtain ⟨b, e1, _, i1⟩ := DataW.trod_int Try.underlying3 g1
  obtain rfl := (List.cons.inj e1).1
  exact ⟨⟨a, b⟩, ⟨[.int .i64 a], [.int .i64 b], rfl, rfl, rfl⟩, trivial⟩
theorem rd_items : Rd Try.prog 27 (Kd.slice 26 kIt) (fun xs => ∀ x ∈ xs, True) := rd_slice Try.underlying27 (by kernel_rfl) rd_item
theorem rd_node : Rd Try.prog 77 kNd (fun _ => True) := by
  intro H enc w base spare held fuel cs x h
  obtain ⟨xs, n, rfl, rfl, hl, hx, hf⟩ := DataW.trod_struct Try.underlying77 h
  rw [show Try.prog.cellsOf 77 = 2 by kernel_rfl] at hl
  have hxl : xs.length = 2 := hx
  obtain ⟨z0, y0, rfl, hl0⟩ := cons_of hl
  obtain ⟨z1, y1, rfl, hl1⟩ := cons_of hl0
  obtain rfl := List.eq_nil_of_length_eq_zero hl1
  have g0 : DataW.trod enc Try.prog w base spare held n 4 (([z0, z1].drop 0).take (Try.prog.cellsOf 4)) = some xs[0] := field (hf 0 _ rfl) (by omega)
  rw [show Try.prog.cellsOf 4 = 1 by kernel_rfl] at g0
  replace g0 : DataW.trod enc Try.prog w base spare held n 4 [z0] = some xs[0] := g0
  have g1 : DataW.trod enc Try.prog w base spare held n 27 (([z0, z1].drop 1).take (Try.prog.cellsOf 27)) = some xs[1] := field (hf 1 _ rfl) (by omega)
  rw [show Try.prog.cellsOf 27 = 1 by kernel_rfl] at g1
  replace g1 : DataW.trod enc Try.prog w base spare held n 27 [z1] = some xs[1] := g1
  obtain ⟨a, e0, _⟩ := DataW.trod_bool Try.underlying4 g0
  obtain rfl := (List.cons.inj e0).1
  obtain ⟨l, k1, _⟩ := rd_items H enc w base spare held n _ _ g1
  exact ⟨⟨a, l⟩, ⟨[.bool a], [z1], rfl, rfl, k1⟩, trivial⟩
theorem rd_cell : Rd Try.prog 79 kCl (fun _ => True) := by
  intro H enc w base spare held fuel cs x h
  obtain ⟨xs, n, rfl, rfl, hl, hx, hf⟩ := DataW.trod_struct Try.underlying79 h
  rw [show Try.prog.cellsOf 79 = 4 by kernel_rfl] at hl
  have hxl : xs.length = 3 := hx
  obtain ⟨z0, y0, rfl, hl0⟩ := cons_of hl
  obtain ⟨z1, y1, rfl, hl1⟩ := cons_of hl0
  obtain ⟨z2, y2, rfl, hl2⟩ := cons_of hl1
  obtain ⟨z3, y3, rfl, hl3⟩ := cons_of hl2
  obtain rfl := List.eq_nil_of_length_eq_zero hl3
  have g0 : DataW.trod enc Try.prog w base spare held n 3 (([z0, z1, z2, z3].drop 0).take (Try.prog.cellsOf 3)) = some xs[0] := field (hf 0 _ rfl) (by omega)
  rw [show Try.prog.cellsOf 3 = 1 by kernel_rfl] at g0
  replace g0 : DataW.trod enc Try.prog w base spare held n 3 [z0] = some xs[0] := g0
  have g1 : DataW.trod enc Try.prog w base spare held n 4 (([z0, z1, z2, z3].drop 1).take (Try.prog.cellsOf 4)) = some xs[1] := field (hf 1 _ rfl) (by omega)
  rw [show Try.prog.cellsOf 4 = 1 by kernel_rfl] at g1
  replace g1 : DataW.trod enc Try.prog w base spare held n 4 [z1] = some xs[1] := g1
  have g2 : DataW.trod enc Try.prog w base spare held n 77 (([z0, z1, z2, z3].drop 2).take (Try.prog.cellsOf 77)) = some xs[2] := field (hf 2 _ rfl) (by omega)
  rw [show Try.prog.cellsOf 77 = 2 by kernel_rfl] at g2
  replace g2 : DataW.trod enc Try.prog w base spare held n 77 [z2, z3] = some xs[2] := g2
  obtain ⟨a, e0, _, i0⟩ := DataW.trod_int Try.underlying3 g0
  obtain rfl := (List.cons.inj e0).1
  obtain ⟨b, e1, _⟩ := DataW.trod_bool Try.underlying4 g1
  obtain rfl := (List.cons.inj e1).1
  obtain ⟨n', k2, _⟩ := rd_node H enc w base spare held n _ _ g2
  exact ⟨⟨a, b, n'⟩, ⟨[.int .i64 a], [.bool b, z2, z3], rfl, rfl, [.bool b], [z2, z3], rfl, rfl, k2⟩, trivial⟩
theorem rd_cells : Rd Try.prog 22 (Kd.slice 79 kCl) (fun xs => ∀ x ∈ xs, True) := rd_slice Try.underlying22 (by kernel_rfl) rd_cell
theorem rd_heap : Rd Try.prog 24 kHp (fun _ => True) := by
  intro H enc w base spare held fuel cs x h
  obtain ⟨xs, n, rfl, rfl, hl, hx, hf⟩ := DataW.trod_struct Try.underlying24 h
  rw [show Try.prog.cellsOf 24 = 2 by kernel_rfl] at hl
  have hxl : xs.length = 2 := hx
  obtain ⟨z0, y0, rfl, hl0⟩ := cons_of hl
  obtain ⟨z1, y1, rfl, hl1⟩ := cons_of hl0
  obtain rfl := List.eq_nil_of_length_eq_zero hl1
  have g0 : DataW.trod enc Try.prog w base spare held n 22 (([z0, z1].drop 0).take (Try.prog.cellsOf 22)) = some xs[0] := field (hf 0 _ rfl) (by omega)
  rw [show Try.prog.cellsOf 22 = 1 by kernel_rfl] at g0
  replace g0 : DataW.trod enc Try.prog w base spare held n 22 [z0] = some xs[0] := g0
  have g1 : DataW.trod enc Try.prog w base spare held n 3 (([z0, z1].drop 1).take (Try.prog.cellsOf 3)) = some xs[1] := field (hf 1 _ rfl) (by omega)
  rw [show Try.prog.cellsOf 3 = 1 by kernel_rfl] at g1
  replace g1 : DataW.trod enc Try.prog w base spare held n 3 [z1] = some xs[1] := g1
  obtain ⟨l, k0, _⟩ := rd_cells H enc w base spare held n _ _ g0
  obtain ⟨a, e1, _, i1⟩ := DataW.trod_int Try.underlying3 g1
  obtain rfl := (List.cons.inj e1).1
  exact ⟨⟨l, a⟩, ⟨[z0], [.int .i64 a], rfl, k0, rfl⟩, trivial⟩
theorem rd_hp {H : Type} {enc : TypeId × Value → H} {w : World} {base : Nat} {spare : Nat → Bool} {held : Bool} {fuel : Nat} {cs : List Value} {x : DataW H × List MemPlace} (h : DataW.trod enc Try.prog w base spare held fuel 24 cs = some x) : ∃ (A : Option Addr) (c : Nat) (g : Hp), cs = [.slice A g.c.length c, .int .i64 g.keep] ∧ g.c.length ≤ c ∧ kCl.C w A g.c.length g.c := by
  obtain ⟨g, ⟨c0, c1, rfl, ⟨A, c, rfl, h1, h2⟩, rfl⟩, _⟩ := rd_heap H enc w base spare held fuel cs x h
  exact ⟨A, c, g, rfl, h1, h2⟩
theorem rd_ptells {H : Type} {enc : TypeId × Value → H} {w : World} {base : Nat} {spare : Nat → Bool} {held : Bool} {fuel : Nat} {cs : List Value} {x : DataW H × List MemPlace} (h : DataW.trod enc Try.prog w base spare held fuel 61 cs = some x) : ∃ (A : Option Addr) (c : Nat) (g : Hp) (r k lo hi m : Int), cs = [.slice A g.c.length c, .int .i64 g.keep, .int .i64 r, .int .i64 k, .int .i64 lo, .int .i64 hi, .int .u8 m] ∧ g.c.length ≤ c ∧ kCl.C w A g.c.length g.c ∧ 0 ≤ m ∧ m ≤ 255 := by
  obtain ⟨xs, n, rfl, rfl, hl, hx, hf⟩ := DataW.trod_struct Try.underlying61 h
  rw [show Try.prog.cellsOf 61 = 7 by kernel_rfl] at hl
  have hxl : xs.length = 6 := hx
  obtain ⟨z0, y0, rfl, hl0⟩ := cons_of hl
  obtain ⟨z1, y1, rfl, hl1⟩ := cons_of hl0
  obtain ⟨z2, y2, rfl, hl2⟩ := cons_of hl1
  obtain ⟨z3, y3, rfl, hl3⟩ := cons_of hl2
  obtain ⟨z4, y4, rfl, hl4⟩ := cons_of hl3
  obtain ⟨z5, y5, rfl, hl5⟩ := cons_of hl4
  obtain ⟨z6, y6, rfl, hl6⟩ := cons_of hl5
  obtain rfl := List.eq_nil_of_length_eq_zero hl6
  have g0 : DataW.trod enc Try.prog w base spare held n 24 (([z0, z1, z2, z3, z4, z5, z6].drop 0).take (Try.prog.cellsOf 24)) = some xs[0] := field (hf 0 _ rfl) (by omega)
  rw [show Try.prog.cellsOf 24 = 2 by kernel_rfl] at g0
  replace g0 : DataW.trod enc Try.prog w base spare held n 24 [z0, z1] = some xs[0] := g0
  have g1 : DataW.trod enc Try.prog w base spare held n 3 (([z0, z1, z2, z3, z4, z5, z6].drop 2).take (Try.prog.cellsOf 3)) = some xs[1] := field (hf 1 _ rfl) (by omega)
  rw [show Try.prog.cellsOf 3 = 1 by kernel_rfl] at g1
  replace g1 : DataW.trod enc Try.prog w base spare held n 3 [z2] = some xs[1] := g1
  have g2 : DataW.trod enc Try.prog w base spare held n 3 (([z0, z1, z2, z3, z4, z5, z6].drop 3).take (Try.prog.cellsOf 3)) = some xs[2] := field (hf 2 _ rfl) (by omega)
  rw [show Try.prog.cellsOf 3 = 1 by kernel_rfl] at g2
  replace g2 : DataW.trod enc Try.prog w base spare held n 3 [z3] = some xs[2] := g2
  have g3 : DataW.trod enc Try.prog w base spare held n 3 (([z0, z1, z2, z3, z4, z5, z6].drop 4).take (Try.prog.cellsOf 3)) = some xs[3] := field (hf 3 _ rfl) (by omega)
  rw [show Try.prog.cellsOf 3 = 1 by kernel_rfl] at g3
  replace g3 : DataW.trod enc Try.prog w base spare held n 3 [z4] = some xs[3] := g3
  have g4 : DataW.trod enc Try.prog w base spare held n 3 (([z0, z1, z2, z3, z4, z5, z6].drop 5).take (Try.prog.cellsOf 3)) = some xs[4] := field (hf 4 _ rfl) (by omega)
  rw [show Try.prog.cellsOf 3 = 1 by kernel_rfl] at g4
  replace g4 : DataW.trod enc Try.prog w base spare held n 3 [z5] = some xs[4] := g4
  have g5 : DataW.trod enc Try.prog w base spare held n 5 (([z0, z1, z2, z3, z4, z5, z6].drop 6).take (Try.prog.cellsOf 5)) = some xs[5] := field (hf 5 _ rfl) (by omega)
  rw [show Try.prog.cellsOf 5 = 1 by kernel_rfl] at g5
  replace g5 : DataW.trod enc Try.prog w base spare held n 5 [z6] = some xs[5] := g5
  obtain ⟨A, c, g, e0, hc, hr⟩ := rd_hp g0
  simp only [List.cons.injEq, and_true] at e0
  obtain ⟨rfl, rfl⟩ := e0
  obtain ⟨r, e1, _, i1⟩ := DataW.trod_int Try.underlying3 g1
  obtain rfl := (List.cons.inj e1).1
  obtain ⟨k, e2, _, i2⟩ := DataW.trod_int Try.underlying3 g2
  obtain rfl := (List.cons.inj e2).1
  obtain ⟨lo, e3, _, i3⟩ := DataW.trod_int Try.underlying3 g3
  obtain rfl := (List.cons.inj e3).1
  obtain ⟨hi, e4, _, i4⟩ := DataW.trod_int Try.underlying3 g4
  obtain rfl := (List.cons.inj e4).1
  obtain ⟨m, e5, _, i5⟩ := DataW.trod_int Try.underlying5 g5
  obtain rfl := (List.cons.inj e5).1
  have hw5 : 0 ≤ m ∧ m ≤ 255 := by simp only [Lit.wf, IntKind.min, IntKind.max, IntKind.signed, IntKind.bits, Bool.and_eq_true] at i5; simp at i5; omega
  exact ⟨A, c, g, r, k, lo, hi, m, rfl, hc, hr, hw5⟩
end Go.Proofs.Ytopkoganfnabgaa.H
