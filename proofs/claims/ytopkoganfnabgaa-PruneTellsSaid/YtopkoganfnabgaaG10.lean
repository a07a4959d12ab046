import Derived.Test.YtopkoganfnabgaaG9
import Derived.Test.YtopkoganfnabgaaG7
import Derived.Test.YtopkoganfnabgaaG8
namespace Go.Proofs.Ytopkoganfnabgaa.H
open Go.RowKit Go.Proofs.YtopkoganfnabgaaW.PrintWords Go.Proofs.YtopkoganfnabgaaW.PrintLast Go.Proofs.YtopkoganfnabgaaW.PrintMore
attribute [local go_sem] max2_int min2_int max_two min_two max_three min_three max_four min_four
set_option linter.unusedVariables false
set_option linter.unusedSimpArgs false
attribute [local go_sem] Oper.semAt_some
theorem titems_walk (v : Array Value) (root lo : Int) (w : World) (hv : v.size = 2) :
    Calls Try.prog 97 #[.agg v, .int .i64 root, .int .i64 lo] w fun e w' => e = .returned (.func (.func 111) #[] #[.pointer (some ⟨w.heap.size, 0, none⟩), .pointer (some ⟨w.heap.size + 1 + 1, 0, none⟩), .pointer (some ⟨w.heap.size + 1, 0, none⟩)]) ∧ w' = ((w.alloc (.cells v 24)).alloc (.cells #[.int .i64 root] 3)).alloc (.cells #[.int .i64 lo] 3) := by
  go_enter Try.func97, Try.ntmps97
  go_wp2
  go_ret
  simp
def intOf2 : Value → Int
  | .int _ x => x
  | _ => 0
theorem yield_any {n m : Nat} {P : Program} {l : Nat} {args : Array Value} {W : World} {R : Ending → World → Prop} (h : YieldAt Fence.wide n P l args W R) : YieldAt Fence.wide m P l args W R := by
  obtain ⟨fn, tmps, assign, body, h1, h2⟩ := h
  exact ⟨fn, tmps, assign, body, h1, h2.1, fun c cs _ => h2.2 c cs (room_wide _)⟩
/-- What the iterator's inner function stands on. -/
structure ItB (b L : Nat) (w0 W : World) (hb lob yb bb l : Nat) (A : Option Addr) (n c : Nat) (keep lo : Int) : Prop where
  s : ItS b L w0 W
  h : BxS b L W hb (.cells #[.slice A n c, .int .i64 keep] 24 (0, 0))
  lo : BxS b L W lob (.cells #[.int .i64 lo] 3 (0, 0))
  y : BxS b L W yb (.cells #[.func (.yield l) #[] #[]] 140 (0, 0))
  b : BxS b L W bb (.cells #[.func (.func 112) #[] #[.pointer (some ⟨hb, 0, none⟩), .pointer (some ⟨lob, 0, none⟩), .pointer (some ⟨yb, 0, none⟩), .pointer (some ⟨bb, 0, none⟩)]] 81 (0, 0))
theorem ItB.kp {b L : Nat} {w0 W W' : World} {hb lob yb bb l : Nat} {A : Option Addr} {n c : Nat} {keep lo : Int} (x : ItB b L w0 W hb lob yb bb l A n c keep lo) (q : KpS b L W W') : ItB b L w0 W' hb lob yb bb l A n c keep lo :=
  ⟨x.s.kp q, x.h.kp q, x.lo.kp q, x.y.kp q, x.b.kp q⟩
theorem ItB.below {b L : Nat} {w0 W W' : World} {hb lob yb bb l : Nat} {A : Option Addr} {n c : Nat} {keep lo : Int} (x : ItB b L w0 W hb lob yb bb l A n c keep lo) (q : Below W.heap.size W W') : ItB b L w0 W' hb lob yb bb l A n c keep lo := x.kp (.of_below q x.s.hb)
set_option maxHeartbeats 8000000 in
set_option maxRecDepth 100000 in
/-- The iterator's inner function. -/
theorem bel_walk (A : Option Addr) (c : Nat) (h : Hp) (B : Int) (lo : Int) (o : Ok h B) (w0 : World) (hr : kCl.C w0 A h.c.length h.c) (b L l hb lob yb bb : Nat) (WL : List It) (J Jx : List It → World → Prop)
    (hJs : ∀ s A B, J s A → Below A.heap.size A B → J s B)
    (hY : ∀ pre x W, J pre W → (∃ post, WL = pre ++ [x] ++ post) → YieldAt Fence.wide 0 Try.prog l #[.agg #[.int .i64 x.k, .int .i64 x.v]] W fun e W' => (e = .returned (.bool true) ∧ J (pre ++ [x]) W' ∧ KpS b L W W') ∨ (e = .returned (.bool false) ∧ Jx (pre ++ [x]) W')) :
    ∀ (d : Nat) (p : Int) (li : List It) (n : Nat) (pre : List It) (W : World), T h d p li → (∃ post, WL = pre ++ fromL lo li ++ post) → J pre W → ItB b L w0 W hb lob yb bb l A h.c.length c h.keep lo →
      CallsIn Fence.wide n Try.prog 112 #[.int .i64 p, .pointer (some ⟨hb, 0, none⟩), .pointer (some ⟨lob, 0, none⟩), .pointer (some ⟨yb, 0, none⟩), .pointer (some ⟨bb, 0, none⟩)] W fun e W' =>
        (e = .returned (.bool true) ∧ J (pre ++ fromL lo li) W' ∧ KpS b L W W') ∨ (e = .returned (.bool false) ∧ ∃ pr, pr <+: WL ∧ Jx pr W') := by
  intro d
  induction d with
  | zero => intro p li n pre W t; exact t.elim
  | succ d ih =>
  intro p li n pre W t hpost hj hS
  obtain ⟨k, is, ls, F⟩ := t.node o lo
  have hn1 : 0 < (clAt h p).n.it.length := by
    obtain ⟨_, ng⟩ := nodeRight_iff.mp (o.right p t.used)
    exact List.length_pos_iff.mpr ng.ne
  obtain ⟨i, rfl, hi⟩ := inB_nat (used_iff.mp t.used).1
  obtain ⟨ad, Bk, cb, rfl, -, -, x2, x3, x4, hB⟩ := at_cl hr i hi
  have F0 := Aside0.mk F
  obtain ⟨hat, hile, hfl, hlen, hpre, hlf, hnd⟩ := F
  rw [clAt_nat] at hat hile hlen hlf hnd hn1
  obtain ⟨x, hx⟩ : ∃ x, x = h.c.getD i zCl := ⟨_, rfl⟩
  rw [← hx] at x2 x3 x4 hB hat hile hlen hlf hnd hn1
  obtain ⟨lf, hlfe⟩ : ∃ lf, lf = x.n.leaf := ⟨_, rfl⟩
  rw [← hlfe] at x2 hat hlf hnd
  obtain ⟨adB, rfl, -, -⟩ := at_it hB 0 hn1
  have q2 : (i < h.c.length) = True := eq_true hi
  have x2' := bcell hS.s.bl x2
  have x3' := bcell hS.s.bl x3
  have c0 := (blk_cell hS.h.hh 0).trans (show _ = some (Value.slice (some ad) h.c.length c) from rfl)
  have c1 := (blk_cell hS.lo.hh 0).trans (show _ = some (Value.int .i64 lo) from rfl)
  have c1' := bcell (below_alloc (Below.refl _ W) (.cells #[.bool lf, .slice (some adB) x.n.it.length cb] 77)) c1
  have HAT := Aside0.mk (fun (W1 : World) (hb1 : Below W.heap.size W W1) => nodeAt_walk lf (some adB) cb x.n.it lo k is W1 (Kd.C_below (Kd.C_below hB hS.s.bl) hb1) hat)
  have g1 : (0 : Int) ≤ (k : Int) := by omega
  have g2 : (k : Int) ≤ (x.n.it.length : Int) := by omega
  have g3 : (k : Int) ≤ (cb : Int) := by omega
  have g4 : (x.n.it.length : Int) ≤ (cb : Int) := by omega
  have HP := Aside0.mk hpost
  have HJ := Aside0.mk hj
  have HI := Aside0.mk hS
  have HB0 := Aside0.mk hB
  have HX4 := Aside0.mk (And.intro hile (And.intro x4 hn1))
  have HL := Aside0.mk (And.intro hfl (And.intro hlen hpre))
  have HLF := Aside0.mk (And.intro hlf hnd)
  have hro : Fence.wide.round = none := rfl
  refine callsIn_of_wp Try.func112 rfl trivial ?_ hro
  simp only [Try.ntmps112, List.size_toArray, List.length_cons, List.length_nil, Nat.reduceAdd, Nat.reduceSub, Array.replicate_succ, Array.replicate_zero, List.push_toArray, List.append_toArray, List.nil_append, List.cons_append]
  clear hpost hj hS hB x2 x3 x4 hat hile hlen hlf hnd hx hlfe hfl hpre hn1 hi t
  by_cases hcj : cb = k
  · have f8 : (cb = k) = True := eq_true hcj
    clear hcj
    (gi_wp2_with fail; refine ⟨trivial, (fun h => by cases h), ?_⟩; refine (callsIn_wide.2 (HAT.out _ (by repeat (first | (with_reducible exact Below.refl _ _) | (with_reducible refine below_alloc ?_ _) | (with_reducible refine below_drew1 ?_) | (with_reducible refine pw_below_drewN ?_ _) | fail)))).mono ?_; rintro e w2 ⟨rfl, hb2⟩; have HB2 := Aside0.mk (show Below W.heap.size W w2 from below_step (by repeat (first | (with_reducible exact Below.refl _ _) | (with_reducible refine below_alloc ?_ _) | (with_reducible refine below_drew1 ?_) | (with_reducible refine pw_below_drewN ?_ _) | fail)) hb2); have HN2 := Aside0.mk (blk_below (blk_new W (.cells #[.bool lf, .slice (some adB) x.n.it.length cb] 77)) hb2); have HBA := Aside0.mk hb2; have n1 := (blk_cell HN2.out 1).trans (show _ = some (Value.slice (some adB) x.n.it.length cb) from rfl); clear hb2)
    clear c0 c1 c1' x2' x3'
    gi_wp2
    have e0 : x.n.it.length - k = 0 := by have := HX4.out; have : cb = k := by simpa using f8
                                          omega
    have HKE := Aside0.mk (show k = ls.length by have := HX4.out; have := HL.out.2.1; omega)
    rw [e0]
    gi_loopw [30] (fun v30 wr => v30 = .int .i64 0 ∧ wr = w2) (fun _ _ => 0)
    case atStart => exact ⟨rfl, rfl⟩
    case round =>
      obtain ⟨rfl, rfl⟩ := hrel
      gi_wp2
      go_ret
      refine .inl ⟨rfl, ?_, .of_below HB2.out HI.out.s.hb⟩
      have e := HL.out.2.2
      rw [HL.out.1, show fromL lo ls.flatten = [] by rw [← goneL_all, ← HKE.out]; exact e, List.append_nil]
      exact hJs _ _ _ HJ.out HB2.out
  · have HCJ := Aside0.mk hcj
    have f8 : (cb = k) = False := eq_false hcj
    clear hcj
    (gi_wp2_with fail; refine ⟨trivial, (fun h => by cases h), ?_⟩; refine (callsIn_wide.2 (HAT.out _ (by repeat (first | (with_reducible exact Below.refl _ _) | (with_reducible refine below_alloc ?_ _) | (with_reducible refine below_drew1 ?_) | (with_reducible refine pw_below_drewN ?_ _) | fail)))).mono ?_; rintro e w2 ⟨rfl, hb2⟩; have HB2 := Aside0.mk (show Below W.heap.size W w2 from below_step (by repeat (first | (with_reducible exact Below.refl _ _) | (with_reducible refine below_alloc ?_ _) | (with_reducible refine below_drew1 ?_) | (with_reducible refine pw_below_drewN ?_ _) | fail)) hb2); have HN2 := Aside0.mk (blk_below (blk_new W (.cells #[.bool lf, .slice (some adB) x.n.it.length cb] 77)) hb2); have HBA := Aside0.mk hb2; have n1 := (blk_cell HN2.out 1).trans (show _ = some (Value.slice (some adB) x.n.it.length cb) from rfl); clear hb2)
    clear c0 c1 c1' x2' x3'
    gi_wp2
    obtain ⟨M, hM⟩ : ∃ M, M = x.n.it.length - k := ⟨_, rfl⟩
    rw [← hM]
    have HMM := Aside0.mk hM
    have HD := Aside0.mk (show ∀ W : World, Below w0.heap.size w0 W → kIt.C W (some (adB.add (k * 2))) M (x.n.it.drop k) from fun W q => by
      have e1 := Kd.C_drop (m := k) (c := cb) HB0.out HX4.out.1 HX4.out.2.1
      rw [if_neg HCJ.out, show (x.n.it.drop k).length = M by rw [hM]; exact List.length_drop] at e1
      exact Kd.C_below e1 q)
    have HSN := Aside0.mk (show BxS b L w2 W.heap.size (.cells #[.bool lf, .slice (some adB) x.n.it.length cb] 77 (0, 0)) from (BxS.new HI.out.s.hb HI.out.s.hL HI.out.s.inb).kp (.of_below HBA.out (by have := HI.out.s.hb; simp; omega)))
    clear hM n1
    gi_loopw [30] (fun v30 wr => ∃ j : Nat, v30 = .int .i64 j ∧ j ≤ M ∧ Aside0 (J (pre ++ goneL lo ls (k + j)) wr) ∧ Aside0 (KpS b L W wr) ∧ Aside0 (BxS b L wr W.heap.size (.cells #[.bool lf, .slice (some adB) x.n.it.length cb] 77 (0, 0)))) (fun v30 _ => ((M : Int) - intOf2 v30).toNat)
    case atStart => exact ⟨0, rfl, Nat.zero_le _, ⟨by rw [show goneL lo ls (k + 0) = [] from HL.out.2.2, List.append_nil]; exact hJs _ _ _ HJ.out HB2.out⟩, ⟨.of_below HB2.out HI.out.s.hb⟩, HSN⟩
    case round =>
      obtain ⟨j, rfl, hj, HJJ, HK, HN⟩ := hrel
      by_cases hlt : j < M
      · have q1 : (j < M) = True := eq_true hlt
        have q2 : decide (j < M) = true := decide_eq_true hlt
        have q3 : decide ((j : Int) < (M : Int)) = true := decide_eq_true (by omega)
        have HT := Aside0.mk (HI.out.kp HK.out)
        obtain ⟨ad', e1, z0, z1⟩ := at_it (HD.out wr HT.out.s.bl) j hlt
        cases e1
        have ey : itAt (x.n.it.drop k) j = itAt x.n.it (k + j) := by unfold itAt; rw [List.getD_eq_getElem?_getD, List.getElem?_drop, List.getD_eq_getElem?_getD]
        rw [ey] at z0 z1
        have hkl : k + j < ls.length := by have := HMM.out; have := HL.out.2.1; omega
        obtain ⟨y, hy⟩ : ∃ y, y = itAt x.n.it (k + j) := ⟨_, rfl⟩
        rw [← hy] at z0 z1
        have bl := below_alloc (Below.refl wr.heap.size wr) (.cells #[.int .i64 y.k, .int .i64 y.v] 26)
        have n0 := bcell bl ((blk_cell HN.out.hh 0).trans (show _ = some (Value.bool lf) from rfl))
        have y0 := bcell bl ((blk_cell HT.out.y.hh 0).trans (show _ = some (Value.func (.yield l) #[] #[]) from rfl))
        have b0 := bcell bl ((blk_cell HT.out.b.hh 0).trans (show _ = some (Value.func (.func 112) #[] #[.pointer (some ⟨hb, 0, none⟩), .pointer (some ⟨lob, 0, none⟩), .pointer (some ⟨yb, 0, none⟩), .pointer (some ⟨bb, 0, none⟩)]) from rfl))
        have HY1 := Aside0.mk (And.intro hy hkl)
        have HLT := Aside0.mk hlt
        have HBL := Aside0.mk bl
        have HJ1 := Aside0.mk (hJs _ _ _ HJJ.out bl)
        have HWK := Aside0.mk (show wrap64 ((j : Int) + 1) = ((j + 1 : Nat) : Int) by have := HMM.out; have := (Kd.C_max (HB0.out)); unfold wrap64; omega)
        have HGS := Aside0.mk (goneL_succ lo ls (k + j) hkl)
        clear hj hlt ey hy hkl bl
        cases lf with
        | true =>
          have hls := HLF.out.1 rfl (k + j) (by omega) (by have := HY1.out.2; have := HL.out.2.1; omega)
          rw [← HY1.out.1] at hls
          have HPS := Aside0.mk (show ∃ post, WL = pre ++ goneL lo ls (k + j) ++ [y] ++ post by
            obtain ⟨p1, e1⟩ := HP.out
            obtain ⟨p2, e2⟩ := goneL_split lo ls (k + j) HY1.out.2
            rw [HL.out.1, e2, hls] at e1
            exact ⟨p2 ++ p1, by rw [e1]; simp⟩)
          rw [hls] at HGS
          obtain ⟨fn, tmps, assign, body, hyl, hRn⟩ := yield_any (m := n - 1) (hY _ y _ HJ1.out HPS.out)
          clear hls
          gi_wp2_with fail
          refine ⟨(fun h => by cases h), ?_⟩
          refine hRn.mono ?_
          rintro e2 W3 (⟨rfl, hJ3, hk3⟩ | ⟨rfl, hJx3⟩)
          · have HJ3 := Aside0.mk (show J (pre ++ goneL lo ls (k + (j + 1))) W3 by rw [← Nat.add_assoc, HGS.out, ← List.append_assoc]; exact hJ3)
            (have HK3 := Aside0.mk ((HK.out.trans (.of_below HBL.out HT.out.s.hb)).trans hk3); have HN3 := Aside0.mk ((HN.out.kp (.of_below HBL.out HT.out.s.hb)).kp hk3); clear hJ3 hk3 z0 z1 n0 y0 b0 hyl hRn; gi_wp2; rw [HWK.out]; refine ⟨⟨j + 1, rfl, HLT.out, HJ3, HK3, HN3⟩, ?_⟩; have := HLT.out; simp only [intOf2]; omega)
          · have HJX := Aside0.mk hJx3
            clear hJx3 z0 z1 n0 y0 b0 hyl hRn
            gi_wp2
            go_ret
            obtain ⟨post, hp⟩ := HPS.out
            exact .inr ⟨rfl, _, ⟨post, hp.symm⟩, HJX.out⟩
        | false =>
          obtain ⟨d', ed, ht⟩ := HLF.out.2 rfl
          obtain rfl : d = d' := by omega
          have ht := ht (k + j) (by have := HY1.out.2; have := HL.out.2.1; omega)
          rw [← HY1.out.1] at ht
          have HPS := Aside0.mk (show ∃ post, WL = (pre ++ goneL lo ls (k + j)) ++ fromL lo (ls.getD (k + j) []) ++ post by
            obtain ⟨p1, e1⟩ := HP.out
            obtain ⟨p2, e2⟩ := goneL_split lo ls (k + j) HY1.out.2
            rw [HL.out.1, e2] at e1
            exact ⟨p2 ++ p1, by rw [e1]; simp⟩)
          have HIH := Aside0.mk (fun m => ih y.v _ m _ _ ht HPS.out HJ1.out (HT.out.below HBL.out))
          clear ht ed
          gi_wp2_with fail
          refine ⟨trivial, (fun h => by cases h), ?_⟩
          refine (HIH.out _).mono ?_
          rintro e2 W3 (⟨rfl, hJ3, hk3⟩ | ⟨rfl, pr, hpr, hJx3⟩)
          · have hyl := hJ3
            have hRn := hJ3
            have HJ3 := Aside0.mk (show J (pre ++ goneL lo ls (k + (j + 1))) W3 by rw [← Nat.add_assoc, HGS.out, ← List.append_assoc]; exact hJ3)
            (have HK3 := Aside0.mk ((HK.out.trans (.of_below HBL.out HT.out.s.hb)).trans hk3); have HN3 := Aside0.mk ((HN.out.kp (.of_below HBL.out HT.out.s.hb)).kp hk3); clear hJ3 hk3 z0 z1 n0 y0 b0 hyl hRn; gi_wp2; rw [HWK.out]; refine ⟨⟨j + 1, rfl, HLT.out, HJ3, HK3, HN3⟩, ?_⟩; have := HLT.out; simp only [intOf2]; omega)
          · have HJX := Aside0.mk (And.intro hpr hJx3)
            clear hpr hJx3 z0 z1 n0 y0 b0
            gi_wp2
            go_ret
            exact .inr ⟨rfl, _, HJX.out.1, HJX.out.2⟩
      · have q2 : decide (j < M) = false := decide_eq_false hlt
        have q3 : decide ((j : Int) < (M : Int)) = false := decide_eq_false (by omega)
        have HKK := Aside0.mk (show k + j = ls.length by have := HMM.out; have := HL.out.2.1; have := HX4.out.1; omega)
        clear hj hlt
        gi_wp2
        go_ret
        refine .inl ⟨rfl, ?_, HK.out⟩
        have := HJJ.out
        rw [HKK.out, goneL_all, ← HL.out.1] at this
        exact this
end Go.Proofs.Ytopkoganfnabgaa.H
namespace Go.Proofs.Ytopkoganfnabgaa.H
open Go.RowKit Go.Proofs.YtopkoganfnabgaaW.PrintWords Go.Proofs.YtopkoganfnabgaaW.PrintLast Go.Proofs.YtopkoganfnabgaaW.PrintMore
attribute [local go_sem] max2_int min2_int max_two min_two max_three min_three max_four min_four
set_option linter.unusedVariables false
set_option linter.unusedSimpArgs false
attribute [local go_sem] Oper.semAt_some
theorem saf_of {b L : Nat} {w W : World} (hb : Below w.heap.size w W) (ho : ownB w b = none) (hbw : b < w.heap.size) (hL : w.heap.size ≤ L) {k : Nat} (hk : k < w.heap.size) (hn : k ≠ b) : Saf b L W k :=
  ⟨Nat.lt_of_lt_of_le hk hb.size, hn, by omega, by rw [ownB_below hb hbw, ho]; simp⟩
theorem it_start {b L : Nat} {w0 W : World} {hb lob l : Nat} {A : Option Addr} {n c : Nat} {keep lo : Int} (s : ItS b L w0 W) (h : BxS b L W hb (.cells #[.slice A n c, .int .i64 keep] 24 (0, 0))) (h2 : BxS b L W lob (.cells #[.int .i64 lo] 3 (0, 0))) :
    ItB b L w0 ((W.alloc (.cells #[.func (.yield l) #[] #[]] 140)).alloc (.cells #[(Value.func (.func 112) #[] #[.pointer (some ⟨hb, 0, none⟩), .pointer (some ⟨lob, 0, none⟩), .pointer (some ⟨W.heap.size, 0, none⟩), .pointer (some ⟨W.heap.size + 1, 0, none⟩)])] 81)) hb lob W.heap.size (W.heap.size + 1) l A n c keep lo ∧
      Below W.heap.size W ((W.alloc (.cells #[.func (.yield l) #[] #[]] 140)).alloc (.cells #[(Value.func (.func 112) #[] #[.pointer (some ⟨hb, 0, none⟩), .pointer (some ⟨lob, 0, none⟩), .pointer (some ⟨W.heap.size, 0, none⟩), .pointer (some ⟨W.heap.size + 1, 0, none⟩)])] 81)) := by
  refine ⟨?_, below_alloc (below_alloc (Below.refl _ _) _) _⟩
  obtain ⟨W1, hW1⟩ : ∃ W1, W1 = W.alloc (.cells #[.func (.yield l) #[] #[]] 140) := ⟨_, rfl⟩
  have z1 : W1.heap.size = W.heap.size + 1 := by rw [hW1]; exact World.size_alloc _ _
  have b1 : Below W.heap.size W W1 := by rw [hW1]; exact below_alloc (Below.refl _ _) _
  have y1 : BxS b L W1 W.heap.size (.cells #[.func (.yield l) #[] #[]] 140 (0, 0)) := by rw [hW1]; exact .new s.hb s.hL s.inb
  have s1 := s.kp (.of_below b1 s.hb)
  rw [← hW1]
  clear hW1
  have b2 : Below W1.heap.size W1 (W1.alloc (.cells #[(Value.func (.func 112) #[] #[.pointer (some ⟨hb, 0, none⟩), .pointer (some ⟨lob, 0, none⟩), .pointer (some ⟨W.heap.size, 0, none⟩), .pointer (some ⟨W.heap.size + 1, 0, none⟩)])] 81)) := below_alloc (Below.refl _ _) _
  have y2 := BxS.new (c := #[(Value.func (.func 112) #[] #[.pointer (some ⟨hb, 0, none⟩), .pointer (some ⟨lob, 0, none⟩), .pointer (some ⟨W.heap.size, 0, none⟩), .pointer (some ⟨W.heap.size + 1, 0, none⟩)])]) (t := 81) s1.hb s1.hL s1.inb
  rw [z1] at y2
  exact ⟨s1.kp (.of_below b2 s1.hb), (h.kp (.of_below b1 s.hb)).kp (.of_below b2 s1.hb), (h2.kp (.of_below b1 s.hb)).kp (.of_below b2 s1.hb), y1.kp (.of_below b2 s1.hb), y2⟩
theorem itemsIter (m : Nat) (A : Option Addr) (c : Nat) (h : Hp) (B lo root : Int) (o : Ok h B) (w0 : World) (hr : kCl.C w0 A h.c.length h.c) (hb lob rb b d : Nat) (li : List It) (w : World) (t : Rt h root d li)
    (hw : Below w0.heap.size w0 w) (hbw : b < w.heap.size) (h0b : w0.heap.size ≤ b) (hhb : w.heap[hb]? = some (.cells #[.slice A h.c.length c, .int .i64 h.keep] 24 (0, 0))) (hlob : w.heap[lob]? = some (.cells #[.int .i64 lo] 3 (0, 0))) (hrb : w.heap[rb]? = some (.cells #[.int .i64 root] 3 (0, 0)))
    (hne : hb ≠ b ∧ lob ≠ b) (ho : ownB w b = none) :
    SeqSt Fence.wide m Try.prog 111 #[.pointer (some ⟨hb, 0, none⟩), .pointer (some ⟨lob, 0, none⟩), .pointer (some ⟨rb, 0, none⟩)] (fun x : It => #[.agg #[.int .i64 x.k, .int .i64 x.v]])
      (KpS b (w.heap.size + 1)) (fun A B => Below A.heap.size A B) (fun xs => xs = fromL lo li) (fun xs => xs <+: fromL lo li) (fromL lo li).length w := by
  intro l J Jx W hbW hsz2 hJ hJx hJs hY h0
  have hro : Fence.wide.round = none := rfl
  refine callsIn_of_wp Try.func111 rfl trivial ?_ hro
  simp only [Try.ntmps111, List.size_toArray, List.length_cons, List.length_nil, Nat.reduceAdd, Nat.reduceSub, Array.replicate_succ, Array.replicate_zero, List.push_toArray, List.append_toArray, List.nil_append, List.cons_append]
  have hs0 := hw.size
  have HS := Aside0.mk (show ItS b (w.heap.size + 1) w0 W from ⟨hw.trans (hbW.mono hs0), fun k hk => saf_of hbW ho hbw (by omega) (by omega) (by omega), by have := hbW.size; omega, by omega, fun k hk => by rw [ownB_below hbW hbw, ho] at hk; cases hk⟩)
  have HH := Aside0.mk (show BxS b (w.heap.size + 1) W hb _ from ⟨(hbW.block hb (blk_lt hhb)).trans hhb, saf_of hbW ho hbw (by omega) (blk_lt hhb) hne.1⟩)
  have HLo := Aside0.mk (show BxS b (w.heap.size + 1) W lob _ from ⟨(hbW.block lob (blk_lt hlob)).trans hlob, saf_of hbW ho hbw (by omega) (blk_lt hlob) hne.2⟩)
  have hrW := (hbW.block rb (blk_lt hrb)).trans hrb
  have r0 := (blk_cell hrW 0).trans (show _ = some (Value.int .i64 root) from rfl)
  have IST := Aside0.mk (it_start (l := l) HS.out HH.out HLo.out)
  have r1 := bcell IST.out.2 r0
  have HY := Aside0.mk (fun (pre : List It) (x : It) (W1 : World) (hj : J pre W1) (hp : ∃ post, fromL lo li = pre ++ [x] ++ post) => yield_any (m := 0) (hY pre x W1 hj (by obtain ⟨p, e⟩ := hp; rw [e]; simp) (by obtain ⟨p, e⟩ := hp; exact ⟨p, e.symm⟩)))
  have HT := Aside0.mk t
  have HJ0 := Aside0.mk h0
  clear hw hbw h0b hhb hlob hrb hne ho hY hbW hrW t h0 hs0 hsz2
  rcases HT.out with ⟨rfl, -, rfl⟩ | ⟨-, t⟩
  · gi_wp2
    refine bodyPost_end (results_none rfl _ _ _) rfl ?_
    exact ⟨⟨_, rfl⟩, .inl (hJs _ _ _ HJ0.out IST.out.2)⟩
  · have hp : decide (0 ≤ root) = true := decide_eq_true (by have := neg_of_used t.used; omega)
    have hp2 : (0 ≤ root) = True := eq_true (by have := neg_of_used t.used; omega)
    have HBW := Aside0.mk (fun n => bel_walk A c h B lo o w0 hr b (w.heap.size + 1) l hb lob W.heap.size (W.heap.size + 1) (fromL lo li) J Jx hJs HY.out d root li n [] _ t ⟨[], by simp⟩ (hJs _ _ _ HJ0.out IST.out.2) IST.out.1)
    clear t
    gi_wp2_with fail
    refine ⟨trivial, (fun h => by cases h), ?_⟩
    refine (HBW.out _).mono ?_
    rintro e2 W3 (⟨rfl, hJ3, -⟩ | ⟨rfl, pr, hpr, hJx3⟩)
    · have HJ3 := Aside0.mk hJ3
      clear hJ3 r0 r1
      gi_wp2
      refine bodyPost_end (results_none rfl _ _ _) rfl ?_
      exact ⟨⟨_, rfl⟩, .inl ⟨_, rfl, HJ3.out⟩⟩
    · have HJ3 := Aside0.mk (And.intro hpr hJx3)
      clear hpr hJx3 r0 r1
      gi_wp2
      refine bodyPost_end (results_none rfl _ _ _) rfl ?_
      exact ⟨⟨_, rfl⟩, .inr ⟨_, HJ3.out.1, HJ3.out.2⟩⟩
end Go.Proofs.Ytopkoganfnabgaa.H
namespace Go.Proofs.Ytopkoganfnabgaa.H
open Go.RowKit Go.Proofs.YtopkoganfnabgaaW.PrintWords Go.Proofs.YtopkoganfnabgaaW.PrintLast Go.Proofs.YtopkoganfnabgaaW.PrintMore
attribute [local go_sem] max2_int min2_int max_two min_two max_three min_three max_four min_four
set_option linter.unusedVariables false
set_option linter.unusedSimpArgs false
attribute [local go_sem] Oper.semAt_some
attribute [-go_sem] Builtin.append_
theorem row_kept {W W' : World} {row : Option Nat} {base size k : Nat} {e : TypeId} {v : Value} {xs : List Value} (hr : W.ownsRow base e size v k xs) (hg : W.grownBy W' row) (hrow : ∀ r, row = some r → ∃ o : Obj, W.heap[r]? = some o ∧ o.isCells = false) : W'.ownsRow base e size v k xs := by
  refine hr.kept hg ?_
  rcases hr.2 with ⟨rfl, _⟩ | ⟨g, cap, cur, rfl, _, hgb, _⟩
  · exact .inl rfl
  · refine .inr fun e' => ?_
    obtain ⟨o, ho, hc⟩ := hrow g (by simpa [Value.ownBlock] using e'.symm)
    rw [hgb] at ho
    cases ho
    cases hc
theorem row_other {W : World} {base size k : Nat} {e : TypeId} {v : Value} {xs : List Value} (hr : W.ownsRow base e size v k xs) {c : Nat} (hc : c < base) (u : Value) : (W.setCell ⟨c, 0, none⟩ u).ownsRow base e size v k xs :=
  hr.kept (grownBy_setCell' W c u) (.inr fun e => by have := own_base hr c e; omega)
def icells (l : List It) : List Value := l.flatMap fun x => [.int .i64 x.k, .int .i64 x.v]
theorem icells_get : ∀ (l : List It) (j : Nat) (p : It), l[j]? = some p → ∀ (i : Nat) (u : Value), [Value.int .i64 p.k, .int .i64 p.v][i]? = some u → (icells l)[j * 2 + i]? = some u
  | [], j, p, h, _, _, _ => by simp at h
  | x :: l, 0, p, h, i, u, hu => by
    obtain rfl : x = p := by simpa using h
    have hi : i < 2 := (List.getElem?_eq_some_iff.1 hu).1
    match i, hi with
    | 0, _ | 1, _ => exact hu
  | x :: l, j + 1, p, h, i, u, hu => by
    have ih := icells_get l j p (by simpa using h) i u hu
    rw [show (j + 1) * 2 + i = (j * 2 + i) + 1 + 1 by omega]
    exact ih
theorem icells_snoc (l : List It) (x : It) : icells (l ++ [x]) = icells l ++ [.int .i64 x.k, .int .i64 x.v] := by unfold icells; simp
theorem own_items {W : World} {base : Nat} {v : Value} {l : List It} (h : W.ownsRow base 26 2 v l.length (icells l)) : ∃ A c, v = .slice A l.length c ∧ l.length ≤ c ∧ kIt.C W A l.length l := by
  rcases Nat.eq_zero_or_pos l.length with h0 | h0
  · rcases h.2 with ⟨rfl, h1⟩ | ⟨g, cap, cur, rfl, _, _, h2, _⟩
    · exact ⟨none, 0, by rw [h0], by omega, rfl, by omega, fun hp => absurd hp (by omega)⟩
    · exact ⟨_, cap, rfl, h2, rfl, by omega, fun hp => absurd hp (by omega)⟩
  · obtain ⟨g, cap, rfl, _, _⟩ := h.form h0
    have hm : l.length ≤ 9223372036854775807 ∧ l.length ≤ cap := by
      rcases h.2 with ⟨_, h1⟩ | ⟨g', cap', cur, he, _, _, h1, h2, _⟩
      · omega
      · simp only [maxLen] at h2
        cases he
        omega
    refine ⟨_, cap, rfl, hm.2, rfl, hm.1, fun _ => ⟨_, rfl, fun j p hj => ⟨[.int .i64 p.k, .int .i64 p.v], rfl, ⟨_, _, rfl, rfl, rfl⟩, fun i u hu => ?_⟩⟩⟩
    exact h.cells (g := g) rfl (j * 2 + i) _ (icells_get l j p hj i u hu)
/-- Scan's own word: what is gathered yet. -/
def ScI (w W6 : World) (hi : Int) (pre : List It) (W : World) : Prop :=
  ∃ v, Boxed W (w.heap.size + 1 + 1) 27 v ∧ W.ownsRow W6.heap.size 26 2 v pre.length (icells pre) ∧ W.heap[w.heap.size + 1]? = some (.cells #[.int .i64 hi] 3 (0, 0)) ∧ Below w.heap.size w W ∧ W6.heap.size ≤ W.heap.size ∧ ∀ y ∈ pre, y.k < hi
theorem scI_own (w W6 : World) (hi : Int) (hw : w.heap.size + 3 ≤ W6.heap.size) : OwnFrom W6.heap.size (ScI w W6 hi) := by
  rintro pre W W' row ⟨v, h1, h2, h3, h7, h8, h9⟩ hg hr
  refine ⟨v, h1.kept hg (fun e => ?_), row_kept h2 hg (fun r e => (hr r e).2), (hg.block _ (by omega) (fun e => ?_)).trans h3, h7.grown hg h7.size (fun k e => ?_), by have := hg.size; omega, h9⟩
  · have := (hr _ e.symm).1; omega
  · have := (hr _ e.symm).1; omega
  · have := (hr k e).1; omega
theorem scI_st (w W6 : World) (hi : Int) (hw : w.heap.size + 3 ≤ W6.heap.size) (pre : List It) (A B : World) (h : ScI w W6 hi pre A) (hs : Below A.heap.size A B) : ScI w W6 hi pre B := by
  obtain ⟨v, h1, h2, h3, h7, h8, h9⟩ := h
  exact ⟨v, (hs.block _ h1.lt).trans h1, own_move h2 (fun k hk => hs.block k (own_lt h2 k hk)), (hs.block _ (by omega)).trans h3, below_step h7 hs, Nat.le_trans h8 hs.size, h9⟩
def ScX (w W6 : World) (hi : Int) (c : Code) (s : List It) (W : World) : Prop := c = .exit 0 ∧ ∃ pr y, s = pr ++ [y] ∧ hi ≤ y.k ∧ ScI w W6 hi pr W
theorem scX_own (w W6 : World) (hi : Int) (hw : w.heap.size + 3 ≤ W6.heap.size) (c : Code) : OwnFrom W6.heap.size (ScX w W6 hi c) := by
  rintro s W W' row ⟨h1, pr, y, h2, h3, h4⟩ hg hr
  exact ⟨h1, pr, y, h2, h3, scI_own w W6 hi hw pr W W' row h4 hg hr⟩
theorem sc_app {B : Nat} {W W2 : World} {v : Value} {xs : List Value} {n : Nat} (y : It) (hn : n ≤ 4294967296) (h : W.ownsRow B 26 2 v n xs) (hb : Below W.heap.size W W2) (hB : B ≤ W.heap.size) :
    ∃ g' cap' w', (Builtin.append_ #[27, 27] 27 #[v, .slice (some ⟨W2.heap.size, 0, none⟩) 1 1]).run Try.prog (W2.alloc (.cells #[.int .i64 y.k, .int .i64 y.v] 26)) = .ok (.slice (some ⟨g', 0, none⟩) (n + 1) cap') w' ∧
      w'.ownsRow B 26 2 (.slice (some ⟨g', 0, none⟩) (n + 1) cap') (n + 1) (xs ++ [.int .i64 y.k, .int .i64 y.v]) ∧ (W2.alloc (.cells #[.int .i64 y.k, .int .i64 y.v] 26)).grownBy w' v.ownBlock ∧ (W.heap.size ≤ g' ∨ v.ownBlock = some g') := by
  obtain ⟨i0, hi, hz0, hz1, hz2⟩ := info_parts info_it
  have h2 : W2.ownsRow B 26 2 v n xs := own_move h (fun k hk => hb.block k (own_lt h k hk))
  have hc : ∀ j u, [Value.int .i64 y.k, .int .i64 y.v][j]? = some u → (W2.alloc (.cells #[.int .i64 y.k, .int .i64 y.v] 26)).cell? ((⟨W2.heap.size, 0, none⟩ : Addr).add j) = some u := by
    intro j u hu
    have := (blk_cell (World.alloc_heap_new W2 (.cells #[.int .i64 y.k, .int .i64 y.v] 26)) j)
    rw [show (Addr.add ⟨W2.heap.size, 0, none⟩ j) = ⟨W2.heap.size, j, none⟩ by simp [Addr.add]; intro e; exact e.symm]
    rw [this]
    simpa using hu
  have h1 : ∀ u ∈ [Value.int .i64 y.k, .int .i64 y.v], u.oneCell' = true := by
    intro u hu
    simp at hu
    rcases hu with rfl | rfl <;> rfl
  obtain ⟨v', w', hrun, hown, hg, _, hat⟩ := run_append_own_at (P := Try.prog) (W2.alloc (.cells #[.int .i64 y.k, .int .i64 y.v] 26)) B 27 27 26 i0 (.agg #[.int .i64 0, .int .i64 0]) 2 16 Try.underlying27 hi hz0 hz1 hz2 rfl (by decide) v n xs (h2.alloc _) ⟨W2.heap.size, 0, none⟩ 1 1 [.int .i64 y.k, .int .i64 y.v] rfl hc h1 (by unfold maxLen; omega) (by omega) (by have := hb.size; simp; omega)
  obtain ⟨g', cap', rfl⟩ := ownsRow_succ hown
  refine ⟨g', cap', w', hrun, hown, hg, ?_⟩
  rcases hat with e | e
  · exact .inr (by simpa [Value.ownBlock] using e.symm)
  · refine .inl ?_
    have : g' = W2.heap.size + 1 := by simpa [Value.ownBlock] using e
    have := hb.size
    omega
theorem sc_more {w W6 W w3 : World} {g' cap' : Nat} {hi : Int} {pre : List It} {y : It} {v : Value} {a : Act} (hw6 : w.heap.size + 3 ≤ W6.heap.size) (h1 : Boxed W (w.heap.size + 1 + 1) 27 v)
    (i2 : W.ownsRow W6.heap.size 26 2 v pre.length (icells pre)) (h3 : W.heap[w.heap.size + 1]? = some (.cells #[.int .i64 hi] 3 (0, 0))) (h7 : Below w.heap.size w W) (h8 : W6.heap.size ≤ W.heap.size) (h9 : ∀ y ∈ pre, y.k < hi) (hv : Boxed w3 (w.heap.size + 1 + 1) 27 v)
    (ho : w3.ownsRow W6.heap.size 26 2 (.slice (some ⟨g', 0, none⟩) (pre.length + 1) cap') (pre.length + 1) (icells pre ++ [.int .i64 y.k, .int .i64 y.v])) (hg : (W.alloc (.cells #[.int .i64 y.k, .int .i64 y.v] 26)).grownBy w3 v.ownBlock) (hy : y.k < hi) (hg' : W.heap.size ≤ g' ∨ v.ownBlock = some g') :
    ownPostK (KpS (w.heap.size + 1 + 1) (W6.heap.size + 1)) (ScI w W6 hi) (ScX w W6 hi) (pre ++ [y]) W .normal a (w3.setCell ⟨w.heap.size + 1 + 1, 0, none⟩ (.slice (some ⟨g', 0, none⟩) (pre.length + 1) cap')) := by
  have hne : ∀ k, v.ownBlock = some k → W6.heap.size ≤ k := fun k e => own_base i2 k e
  have hz := (grownBy_setCell' w3 (w.heap.size + 1 + 1) (.slice (some ⟨g', 0, none⟩) (pre.length + 1) cap')).size
  have hz2 := hg.size
  simp at hz2
  have hkeep : ∀ k, k < W.heap.size → k ≠ w.heap.size + 1 + 1 → v.ownBlock ≠ some k → (w3.setCell ⟨w.heap.size + 1 + 1, 0, none⟩ (.slice (some ⟨g', 0, none⟩) (pre.length + 1) cap')).heap[k]? = W.heap[k]? := fun k h1 h2 h3 =>
    (Below.heap_setCell _ _ _ _ h2).trans ((hg.block k (by simp; omega) (fun e => h3 e.symm)).trans (Below.heap_alloc _ _ _ h1))
  have hcb : (w3.setCell ⟨w.heap.size + 1 + 1, 0, none⟩ (.slice (some ⟨g', 0, none⟩) (pre.length + 1) cap')).cell? ⟨w.heap.size + 1 + 1, 0, none⟩ = some (.slice (some ⟨g', 0, none⟩) (pre.length + 1) cap') := (hv.set _).cell
  have hoB : ∀ k, ownB (w3.setCell ⟨w.heap.size + 1 + 1, 0, none⟩ (.slice (some ⟨g', 0, none⟩) (pre.length + 1) cap')) (w.heap.size + 1 + 1) = some k ↔ g' = k := fun k => by unfold ownB; rw [hcb]; simp [Value.ownBlock]
  have hoA : ownB W (w.heap.size + 1 + 1) = v.ownBlock := by unfold ownB; rw [h1.cell]; rfl
  have hB : Below w.heap.size w (w3.setCell ⟨w.heap.size + 1 + 1, 0, none⟩ (.slice (some ⟨g', 0, none⟩) (pre.length + 1) cap')) := ((h7.alloc h7.size _).grown hg (by simp; omega) (fun k e => by have := hne k e; omega)).setCell (p := ⟨w.heap.size + 1 + 1, 0, none⟩) (by show w.heap.size ≤ w.heap.size + 1 + 1; omega) _
  refine ⟨((KeepsOthers.alloc _ _).trans (KeepsOthers.of_grownBy hg fun j o e ho' => ?_)).trans (KeepsOthers.setCell _ _ _), ⟨hB.os.trans h7.os.symm, hB.tape.trans h7.tape.symm, hB.output.trans h7.output.symm, by omega, fun k hk => ?_, fun _ k hk => ?_⟩, _, hv.set _, ?_, ?_, hB, ?_, ?_⟩
  · obtain ⟨cells, hc⟩ := own_typed (i2.alloc _) j e
    rw [hc] at ho'
    cases ho'
    rfl
  · have hno : v.ownBlock ≠ some k := by rw [← hoA]; exact hk.no
    refine ⟨⟨by have := hk.lt; omega, hk.nb, hk.nl, fun e => ?_⟩, hkeep k hk.lt hk.nb hno⟩
    rw [hoB] at e
    rcases hg' with h | h
    · have := hk.lt; omega
    · rw [e] at h; exact hno h
  · rw [hoB] at hk
    have := own_lt ho g' (by simp [Value.ownBlock])
    omega
  · rw [icells_snoc, List.length_append]
    exact row_other ho (by omega) _
  · exact (hkeep _ (by omega) (by omega) (fun e => by have := hne _ e; omega)).trans h3
  · omega
  · intro z hz
    rcases List.mem_append.1 hz with hz | hz
    · exact h9 z hz
    · rw [List.mem_singleton.1 hz]; exact hy
end Go.Proofs.Ytopkoganfnabgaa.H
namespace Go.Proofs.Ytopkoganfnabgaa.H
open Go.RowKit Go.Proofs.YtopkoganfnabgaaW.PrintWords Go.Proofs.YtopkoganfnabgaaW.PrintLast Go.Proofs.YtopkoganfnabgaaW.PrintMore
attribute [local go_sem] max2_int min2_int max_two min_two max_three min_three max_four min_four
set_option linter.unusedVariables false
set_option linter.unusedSimpArgs false
attribute [local go_sem] Oper.semAt_some
attribute [-go_sem] Builtin.append_
theorem blk_next {W : World} {n : Nat} (hz : W.heap.size = n) (c : Array Value) (t : TypeId) : (W.alloc (.cells c t)).heap[n]? = some (.cells c t (0, 0)) ∧ (W.alloc (.cells c t)).heap.size = n + 1 := by
  subst hz
  exact ⟨blk_new W _, World.size_alloc _ _⟩
theorem sc_start (w : World) (v : Array Value) (hi root lo : Int) : ∃ W6, (((((w.alloc (.cells v 24)).alloc (.cells #[.int .i64 hi] 3)).alloc (.cells #[.slice none 0 0] 27)).alloc (.cells v 24)).alloc (.cells #[.int .i64 root] 3)).alloc (.cells #[.int .i64 lo] 3) = W6 ∧
    W6.heap.size = w.heap.size + 1 + 1 + 1 + 1 + 1 + 1 ∧ W6.heap[w.heap.size + 1]? = some (.cells #[.int .i64 hi] 3 (0, 0)) ∧ Boxed W6 (w.heap.size + 1 + 1) 27 (.slice none 0 0) ∧ W6.heap[w.heap.size + 1 + 1 + 1]? = some (.cells v 24 (0, 0)) ∧ W6.heap[w.heap.size + 1 + 1 + 1 + 1]? = some (.cells #[.int .i64 root] 3 (0, 0)) ∧ W6.heap[w.heap.size + 1 + 1 + 1 + 1 + 1]? = some (.cells #[.int .i64 lo] 3 (0, 0)) ∧ Below w.heap.size w W6 := by
  have n0 := blk_next (W := w) rfl v 24
  have n1 := blk_next n0.2 #[.int .i64 hi] 3
  have n2 := blk_next n1.2 #[.slice none 0 0] 27
  have n3 := blk_next n2.2 v 24
  have n4 := blk_next n3.2 #[.int .i64 root] 3
  have n5 := blk_next n4.2 #[.int .i64 lo] 3
  exact ⟨_, rfl, n5.2, blk_alloc (blk_alloc (blk_alloc (blk_alloc n1.1 _) _) _) _, blk_alloc (blk_alloc (blk_alloc n2.1 _) _) _, blk_alloc (blk_alloc n3.1 _) _, blk_alloc n4.1 _, n5.1, below_alloc (below_alloc (below_alloc (below_alloc (below_alloc (below_alloc (Below.refl _ _) _) _) _) _) _) _⟩
set_option maxHeartbeats 4000000 in
set_option maxRecDepth 100000 in
/-- tree.Scan. -/
theorem scan_walk : ScanC := by
  intro A c h root d li lo hi w f hr
  refine (callsIn_wide (n := 10)).1 ?_
  refine callsIn_of_wp_marks Try.func64 rfl trivial ?_ rfl
  simp only [Try.ntmps64, List.size_toArray, List.length_cons, List.length_nil, Nat.reduceAdd, Nat.reduceSub, Array.replicate_succ, Array.replicate_zero, List.push_toArray, List.append_toArray, List.nil_append, List.cons_append]
  have HF := Aside0.mk f
  have HR := Aside0.mk hr
  clear f hr
  gi_wp2_with fail
  refine ⟨trivial, ?_⟩
  refine (callsIn_wide.2 (titems_walk _ root lo _ rfl)).mono ?_
  rintro e w2 ⟨rfl, rfl⟩
  obtain ⟨W6, hW, gz, g1, g2, g3, g4, g5, gB⟩ := sc_start w #[.slice A h.c.length c, .int .i64 h.keep] hi root lo
  rw [hW]
  simp only [World.size_alloc]
  have HW := Aside0.mk hW
  clear hW
  gi_wp2
  have f := HF.out
  have hr := HR.out
  have ho : ownB W6 (w.heap.size + 1 + 1) = none := by unfold ownB; rw [g2.cell]; rfl
  have hw6 : w.heap.size + 3 ≤ W6.heap.size := by omega
  have hln : (fromL lo li).length ≤ 4294967296 := by
    have h1 : (fromL lo li).length ≤ li.length := List.length_filter_le _ _
    have h2 : li.length ≤ 2147483648 := by
      rcases f.tr with ⟨_, _, rfl⟩ | ⟨_, t⟩
      · simp
      · exact t.gd.len
    omega
  refine range_sa (F := Fence.wide) (n := 10) rfl (by decide) (gf := 111) (lb := #[.pointer (some ⟨w.heap.size + 1 + 1 + 1, 0, none⟩), .pointer (some ⟨w.heap.size + 1 + 1 + 1 + 1 + 1, 0, none⟩), .pointer (some ⟨w.heap.size + 1 + 1 + 1 + 1, 0, none⟩)]) rfl trivial (enters_of Try.func111 (by kernel_rfl) rfl)
    (itemsIter 9 A c h _ lo root f.ok w hr (w.heap.size + 1 + 1 + 1) (w.heap.size + 1 + 1 + 1 + 1 + 1) (w.heap.size + 1 + 1 + 1 + 1) (w.heap.size + 1 + 1) d li W6 f.tr gB (by omega) (by omega) g3 g5 g4 ⟨by omega, by omega⟩ ho) (fun h1 h2 => h1.trans h2) ?hkb (fun _ => rfl) ?hst (ScI w W6 hi) (ScX w W6 hi) (scI_own w W6 hi hw6) (scI_st w W6 hi hw6) (scX_own w W6 hi hw6) ?h0
    (fun x blk => { tmps := #[.agg #[.slice A h.c.length c, .int .i64 h.keep], .int .i64 root, .int .i64 lo, .int .i64 hi, .pointer (some ⟨w.heap.size, 0, none⟩), undef, undef, .pointer (some ⟨w.heap.size + 1, 0, none⟩), .slice none 0 0, .pointer (some ⟨w.heap.size + 1 + 1, 0, none⟩), .pointer (some ⟨blk, 0, none⟩), .agg #[.slice A h.c.length c, .int .i64 h.keep], .int .i64 root, .int .i64 lo, .func (.func 111) #[] #[.pointer (some ⟨w.heap.size + 1 + 1 + 1, 0, none⟩), .pointer (some ⟨w.heap.size + 1 + 1 + 1 + 1 + 1, 0, none⟩), .pointer (some ⟨w.heap.size + 1 + 1 + 1 + 1, 0, none⟩)], .agg #[.int .i64 x.k, .int .i64 x.v], undef, undef, undef, undef, undef, undef, undef, undef, undef], defers := [] })
    (fun x => .cells #[.int .i64 x.k, .int .i64 x.v] 26) (fun x W hs => KpS.of_below (below_alloc (Below.refl _ _) _) (by omega)) ?assign ?body ?done ?stop
  case hkb => exact fun W l o' hl hs => by subst hl; exact KpS.put W o' (by omega)
  case hst =>
    rintro A B l o hst ho hl
    exact (hst.block l (Array.getElem?_eq_some_iff.1 ho).1).trans ho
  case h0 => exact ⟨.slice none 0 0, g2, World.ownsRow_nil _ _ _ _, g1, gB, Nat.le_refl _, fun y hy => by cases hy⟩
  case assign =>
    intro l x W K hK
    gi_wp2
    exact hK
  case body =>
    rintro l2 pre y W blk ⟨v, h1, h2, h3, h7, h8, h9⟩ hlen hsp hblk hbb
    have hk : pre.length ≤ 4294967296 := by omega
    have e0 := (blk_cell hblk 0).trans (show _ = some (Value.int .i64 y.k) from rfl)
    have e1 := (blk_cell hblk 1).trans (show _ = some (Value.int .i64 y.v) from rfl)
    have d0 := (blk_cell h3 0).trans (show _ = some (Value.int .i64 hi) from rfl)
    have b1 := h1.cell
    have f1 := h1.frozen
    have H1 := Aside0.mk h1
    have H2 := Aside0.mk h2
    have H3 := Aside0.mk h3
    have H7 := Aside0.mk h7
    have H8 := Aside0.mk h8
    have H9 := Aside0.mk h9
    have HW6 := Aside0.mk hw6
    by_cases hy : hi ≤ y.k
    · have q1 : decide (hi ≤ y.k) = true := decide_eq_true hy
      have HY := Aside0.mk hy
      clear hy h1 h2 h3 h7 h8 h9 hlen hsp hblk hbb hk g1 g2 g3 g4 g5 gB gz hr f ho hw6 hln
      gi_wp2
      exact ⟨⟨Nat.le_refl _, fun k o h _ => h⟩, rfl, pre, y, rfl, HY.out, v, H1.out, H2.out, H3.out, H7.out, H8.out, H9.out⟩
    · have q1 : decide (hi ≤ y.k) = false := decide_eq_false hy
      obtain ⟨g', cap', w3', hrun, hown', hgrow, hgg⟩ := sc_app y hk h2 (Below.refl W.heap.size W) h8
      have h13 : Boxed w3' (w.heap.size + 1 + 1) 27 v := (h1.alloc _).kept hgrow (fun e => by have := own_base h2 _ e.symm; omega)
      have b3 := h13.cell
      have f3 := h13.frozen
      have HO3 := Aside0.mk hown'
      have HG3 := Aside0.mk hgrow
      have H13 := Aside0.mk h13
      have HGG := Aside0.mk hgg
      have HY := Aside0.mk hy
      clear hy h1 h2 h3 h7 h8 h9 hlen hsp hblk hbb hk g1 g2 g3 g4 g5 gB gz hr f ho hw6 hln hown' hgrow h13 hgg
      gi_wp2
      obtain ⟨e1, e2, e3⟩ := sc_more (a := ⟨#[], []⟩) HW6.out H1.out H2.out H3.out H7.out H8.out H9.out H13.out HO3.out HG3.out (by have := HY.out; omega) HGG.out
      exact ⟨e1, e2, e3⟩
  case done =>
    rintro D ys W hD rfl ⟨v, h1, h2, h3, h7, h8, h9⟩ hK
    have b1 := h1.cell
    have f1 := h1.frozen
    have es : scanL lo hi li = fromL lo li := by rw [scanL_from, List.filter_eq_self.mpr fun y hy => decide_eq_true (h9 y hy)]
    obtain ⟨pr, hpr⟩ : ∃ pr, pr = fromL lo li := ⟨_, rfl⟩
    rw [← hpr] at h2 es
    have HES := Aside0.mk es
    have H2 := Aside0.mk h2
    have H7 := Aside0.mk h7
    have HK := Aside0.mk hK
    have HD := Aside0.mk (And.intro hD hw6)
    clear h1 h2 h3 h7 h8 h9 hK hD g1 g2 g3 g4 g5 gB gz hr f ho hw6 hln es hpr
    gi_wp2
    ((have hK := HK.out); (have hD := HD.out); (have h9 := ownsRow_putObj (own_weaken H2.out (show w.heap.size ≤ W6.heap.size by omega)) (o := .deferred (some [])) (.deferred none) hK rfl); (obtain ⟨B, cb, rfl, hc, hC⟩ := own_items h9); (refine ⟨by simp, .inl ⟨D, _, rfl, run_takeDeferred hK, ?_⟩⟩); unfold LeavesInM; (refine ⟨_, by simp [results, go_sem]; rfl, ?_⟩); rw [HES.out]; exact ⟨B, cb, rfl, hc, hC, H7.out.trans (belowK_b (w := W6) (by omega) _ D _ _ hD.1 hK rfl rfl)⟩)
  case stop =>
    rintro D c0 s W hD hs ⟨rfl, pr, y, rfl, hy, v, h1, h2, h3, h7, h8, h9⟩ hK
    have b1 := h1.cell
    have f1 := h1.frozen
    have es : scanL lo hi li = pr := by
      rw [scanL_from]
      obtain ⟨t, ht⟩ := hs
      exact up_stop (fromL_up f.tr.up) (by rw [← ht, List.append_assoc]; rfl) hy h9
    have HES := Aside0.mk es
    have H2 := Aside0.mk h2
    have H7 := Aside0.mk h7
    have HK := Aside0.mk hK
    have HD := Aside0.mk (And.intro hD hw6)
    clear h1 h2 h3 h7 h8 h9 hK hD g1 g2 g3 g4 g5 gB gz hr f ho hw6 hln es hs hy
    gi_wp2
    ((have hK := HK.out); (have hD := HD.out); (have h9 := ownsRow_putObj (own_weaken H2.out (show w.heap.size ≤ W6.heap.size by omega)) (o := .deferred (some [])) (.deferred none) hK rfl); (obtain ⟨B, cb, rfl, hc, hC⟩ := own_items h9); (refine ⟨by simp, .inl ⟨D, _, rfl, run_takeDeferred hK, ?_⟩⟩); unfold LeavesInM; (refine ⟨_, by simp [results, go_sem]; rfl, ?_⟩); rw [HES.out]; exact ⟨B, cb, rfl, hc, hC, H7.out.trans (belowK_b (w := W6) (by omega) _ D _ _ hD.1 hK rfl rfl)⟩)
end Go.Proofs.Ytopkoganfnabgaa.H
namespace Go.Proofs.Ytopkoganfnabgaa.H
/-- The example of the laws of prune, told by the plain functions. -/
def h30 : Hp := ⟨List.replicate 30 zCl, 0⟩
def l5z : List It := [⟨1, 0⟩, ⟨2, 0⟩, ⟨3, 0⟩, ⟨4, 0⟩, ⟨5, 0⟩]
def shownE (g a b c x : Hp) : Bool := decide (g.c.length = 30) && (decide (a.c.length = 30) && (decide (b.c.length = 30) && (decide (c.c.length = 30) && (decide (x.c.length = 30) && ((clAt a 4).n.leaf && (decide (listO 21 a 4 = some (l5z.take 3)) && (decide (treeO a 4 = some true) && (decide (treeO b 8 = some true) && decide ((listO 21 b 8).map List.length = some 4)))))))))
def shownF : Bool := match fillO 25 h30 (-1) l5z with
  | some (g, r, e) => match cutO 4 9 5 g 6, delO g 6 6, delO g 6 2 with
    | some (a, p, n, e1), some (x, p2, e2), some (b, q, e3) => match lowO 21 a 4 with
      | some (c, y) => (decide (r = 6 ∧ e = 0 ∧ p = 4 ∧ n = 2 ∧ e1 = 0 ∧ p2 = 6 ∧ e2 = 4 ∧ q = 8 ∧ e3 = 0 ∧ y = 4)) && shownE g a b c x
      | none => false
    | _, _, _ => false
  | none => false
theorem shownF_true : shownF = true := by decide +kernel
theorem shownF_facts : ∃ g a b c x lb, fillO 25 h30 (-1) l5z = some (g, 6, 0) ∧ cutO 4 9 5 g 6 = some (a, 4, 2, 0) ∧ delO g 6 6 = some (x, 6, 4) ∧ delO g 6 2 = some (b, 8, 0) ∧ lowO 21 a 4 = some (c, 4) ∧
    g.c.length = 30 ∧ a.c.length = 30 ∧ b.c.length = 30 ∧ c.c.length = 30 ∧ x.c.length = 30 ∧ (clAt a 4).n.leaf = true ∧ listO 21 a 4 = some (l5z.take 3) ∧ treeO a 4 = some true ∧ treeO b 8 = some true ∧ listO 21 b 8 = some lb ∧ lb.length = 4 := by
  have h := shownF_true
  unfold shownF at h
  split at h
  · rename_i g r e hf
    split at h
    · rename_i a p n e1 x p2 e2 b q e3 h1 h2 h3
      split at h
      · rename_i c y h4
        unfold shownE at h
        simp only [Bool.and_eq_true, decide_eq_true_eq, Option.map_eq_some_iff] at h
        obtain ⟨⟨rfl, rfl, rfl, rfl, rfl, rfl, rfl, rfl, rfl, rfl⟩, k1, k2, k3, k4, k5, k6, k7, k8, k9, lb, k10, k11⟩ := h
        exact ⟨g, a, b, c, x, lb, hf, h1, h2, h3, h4, k1, k2, k3, k4, k5, k6, k7, k8, k9, k10, k11⟩
      · cases h
    · cases h
  · cases h
end Go.Proofs.Ytopkoganfnabgaa.H
namespace Go.Proofs.Ytopkoganfnabgaa.H
open Go.RowKit Go.Proofs.YtopkoganfnabgaaW.PrintWords Go.Proofs.YtopkoganfnabgaaW.PrintLast Go.Proofs.YtopkoganfnabgaaW.PrintMore
attribute [local go_sem] max2_int min2_int max_two min_two max_three min_three max_four min_four
set_option linter.unusedVariables false
set_option linter.unusedSimpArgs false
structure B3 (W : World) (s : Nat) (B : Option Addr) (cb : Nat) (g : Hp) : Prop where
  bx : W.heap[s]? = some (.cells #[.slice B 30 cb, .int .i64 g.keep] 24 (0, 0))
  cl : kCl.C W B 30 g.c
  le : 30 ≤ cb
theorem B3.step {W W' : World} {s : Nat} {B : Option Addr} {cb : Nat} {g : Hp} (b : B3 W s B cb g) (hb : Below W.heap.size W W') : B3 W' s B cb g := ⟨blk_below b.bx hb, Kd.C_below b.cl hb, b.le⟩
theorem B3.new {W : World} {B : Option Addr} {cb : Nat} {g : Hp} (hc : kCl.C W B 30 g.c) (hl : 30 ≤ cb) : B3 (W.alloc (.cells #[.slice B 30 cb, .int .i64 g.keep] 24)) W.heap.size B cb g := ⟨blk_new W _, Kd.C_alloc hc _, hl⟩
theorem B3.c0 {W : World} {s : Nat} {B : Option Addr} {cb : Nat} {g : Hp} (b : B3 W s B cb g) : W.cell? ⟨s, 0, none⟩ = some (.slice B 30 cb) := (blk_cell b.bx 0).trans rfl
theorem B3.c1 {W : World} {s : Nat} {B : Option Addr} {cb : Nat} {g : Hp} (b : B3 W s B cb g) : W.cell? ⟨s, 1, none⟩ = some (.int .i64 g.keep) := (blk_cell b.bx 1).trans rfl
theorem five_z (W : World) : kIt.C (W.alloc (.cells #[.int .i64 1, .int .i64 0, .int .i64 2, .int .i64 0, .int .i64 3, .int .i64 0, .int .i64 4, .int .i64 0, .int .i64 5, .int .i64 0] 26)) (some ⟨W.heap.size, 0, none⟩) 5 l5z := by
  refine ⟨by rfl, by decide, fun _ => ⟨⟨W.heap.size, 0, none⟩, rfl, fun j p hj => ?_⟩⟩
  have hjn : j < 5 := (List.getElem?_eq_some_iff.1 hj).1
  have hc := fun i => blk_cell (blk_new W (.cells #[.int .i64 1, .int .i64 0, .int .i64 2, .int .i64 0, .int .i64 3, .int .i64 0, .int .i64 4, .int .i64 0, .int .i64 5, .int .i64 0] 26)) i
  refine ⟨[.int .i64 p.k, .int .i64 p.v], rfl, ⟨_, _, rfl, rfl, rfl⟩, fun i u hu => ?_⟩
  have hi : i < 2 := (List.getElem?_eq_some_iff.1 hu).1
  rw [show (Addr.add ⟨W.heap.size, 0, none⟩ (j * kIt.sz + i)) = ⟨W.heap.size, j * 2 + i, none⟩ by rw [show kIt.sz = 2 from rfl]; simp [Addr.add]; intro h1 h2; omega, hc]
  match j, hjn with
  | 0, _ | 1, _ | 2, _ | 3, _ | 4, _ =>
    obtain rfl := (Option.some.inj hj)
    match i, hi with
    | 0, _ | 1, _ => exact hu
set_option maxHeartbeats 8000000 in
set_option maxRecDepth 100000 in
/-- The worked example of the laws of prune comes out true. -/
theorem shown10_walk (w : World) : Calls Try.prog 27 #[] w fun e w' => e = .returned (.bool true) ∧ Below w.heap.size w w' := by
  obtain ⟨g, a, b, c, x, lb, hf, hcu, h6, h2, hlo, hgl, hal, hbl, hcl', hxl, hlf, hli, hta, htb, hlb, hlb4⟩ := shownF_facts
  obtain ⟨g', p', e', d0, l0, hf', _, fp, _, _⟩ := fill_spec l5z (new_fp 30 (by decide) (by decide))
  have hgg : g' = g ∧ p' = 6 := by
    rw [show (⟨List.replicate 30 zCl, 0⟩ : Hp) = h30 from rfl, hf] at hf'
    simp only [Option.some.injEq, Prod.mk.injEq] at hf'
    exact ⟨hf'.1.symm, hf'.2.1.symm⟩
  rw [hgg.1, hgg.2] at fp
  have HNW := Aside0.mk (show ∀ w : World, Calls Try.prog 26 #[.int .i64 30, .int .i64 0] w fun e w' => ∃ B cb, e = .returned (.tuple #[.agg #[.slice B 30 cb, .int .i64 0], .int .i64 0]) ∧ 30 ≤ cb ∧ kCl.C w' B 30 (List.replicate 30 zCl) ∧ Below w.heap.size w w' from fun w => refNew_walk 30 w (by decide) (by decide))
  have HFL := Aside0.mk (show ∀ (A : Option Addr) (c : Nat) (B : Option Addr) (w : World), kCl.C w A 30 h30.c → 30 ≤ c → kIt.C w B 5 l5z → Calls Try.prog 20 #[.agg #[.slice A 30 c, .int .i64 0], .int .i64 (-1), .slice B 5 5] w fun e w' => ∃ B' cb', e = .returned (.tuple #[.agg #[.slice B' 30 cb', .int .i64 g.keep], .int .i64 6, .int .i64 0]) ∧ 30 ≤ cb' ∧ kCl.C w' B' 30 g.c ∧ Below w.heap.size w w' from fun A c B w hr hcc hn => by
    have := refFill_walk A B c 5 25 h30 g (-1) 6 0 l5z w hr hcc hn hf
    rw [hgl] at this
    exact this)
  have HCU := Aside0.mk (show ∀ (B : Option Addr) (cb : Nat) (W : World), kCl.C W B 30 g.c → 30 ≤ cb → Calls Try.prog 32 #[.agg #[.slice B 30 cb, .int .i64 g.keep], .int .i64 6, .int .i64 4, .int .i64 9, .int .i64 5] W fun e w' => ∃ B' cb', e = .returned (.tuple #[.agg #[.slice B' 30 cb', .int .i64 a.keep], .int .i64 4, .int .i64 2, .int .i64 0]) ∧ 30 ≤ cb' ∧ kCl.C w' B' 30 a.c ∧ Below W.heap.size W w' from fun B cb W hcl hle => by
    have := pcut_walk scan_walk B cb g a 6 4 9 4 0 d0 5 2 l0 W (by rw [hgl]; exact hcl) (by rw [hgl]; exact hle) fp (by decide) hcu
    rw [hgl, hal] at this
    exact this)
  have HD6 := Aside0.mk (show ∀ (B : Option Addr) (cb : Nat) (W : World), kCl.C W B 30 g.c → 30 ≤ cb → Calls Try.prog 28 #[.agg #[.slice B 30 cb, .int .i64 g.keep], .int .i64 6, .int .i64 6] W fun e w' => ∃ B' cb', e = .returned (.tuple #[.agg #[.slice B' 30 cb', .int .i64 x.keep], .int .i64 6, .int .i64 4]) ∧ 30 ≤ cb' ∧ kCl.C w' B' 30 x.c ∧ Below W.heap.size W w' from fun B cb W hcl hle => by
    have := pdel_walk B cb g x 6 6 6 4 W (by rw [hgl]; exact hcl) (by rw [hgl]; decide) (by rw [hgl]; exact hle) h6
    rw [hgl, hxl] at this
    exact this)
  have HD2 := Aside0.mk (show ∀ (B : Option Addr) (cb : Nat) (W : World), kCl.C W B 30 g.c → 30 ≤ cb → Calls Try.prog 28 #[.agg #[.slice B 30 cb, .int .i64 g.keep], .int .i64 6, .int .i64 2] W fun e w' => ∃ B' cb', e = .returned (.tuple #[.agg #[.slice B' 30 cb', .int .i64 b.keep], .int .i64 8, .int .i64 0]) ∧ 30 ≤ cb' ∧ kCl.C w' B' 30 b.c ∧ Below W.heap.size W w' from fun B cb W hcl hle => by
    have := pdel_walk B cb g b 6 2 8 0 W (by rw [hgl]; exact hcl) (by rw [hgl]; decide) (by rw [hgl]; exact hle) h2
    rw [hgl, hbl] at this
    exact this)
  have HLW := Aside0.mk (show ∀ (B : Option Addr) (cb : Nat) (W : World), kCl.C W B 30 a.c → 30 ≤ cb → Calls Try.prog 30 #[.agg #[.slice B 30 cb, .int .i64 a.keep], .int .i64 4] W fun e w' => ∃ B' cb', e = .returned (.tuple #[.agg #[.slice B' 30 cb', .int .i64 c.keep], .int .i64 4]) ∧ 30 ≤ cb' ∧ kCl.C w' B' 30 c.c ∧ Below W.heap.size W w' from fun B cb W hcl hle => by
    have := low_walk B cb a c 4 4 21 W (by rw [hal]; exact hcl) (by rw [hal]; decide) (by rw [hal]; exact hle) hlo
    rw [hal, hcl'] at this
    exact this)
  have HRA := Aside0.mk (show ∀ (B : Option Addr) (cb : Nat) (W : World), kCl.C W B 30 a.c → Calls Try.prog 37 #[.agg #[.slice B 30 cb, .int .i64 a.keep], .int .i64 4] W fun e w' => e = .returned (.bool true) ∧ Below W.heap.size W w' from fun B cb W hcl => by
    have := right07_walk B cb a 4 true W (by rw [hal]; exact hcl) hta
    rw [hal] at this
    exact this)
  have HRB := Aside0.mk (show ∀ (B : Option Addr) (cb : Nat) (W : World), kCl.C W B 30 b.c → Calls Try.prog 37 #[.agg #[.slice B 30 cb, .int .i64 b.keep], .int .i64 8] W fun e w' => e = .returned (.bool true) ∧ Below W.heap.size W w' from fun B cb W hcl => by
    have := right07_walk B cb b 8 true W (by rw [hbl]; exact hcl) htb
    rw [hbl] at this
    exact this)
  have HLA := Aside0.mk (show ∀ (B : Option Addr) (cb : Nat) (W : World), kCl.C W B 30 a.c → Calls Try.prog 24 #[.agg #[.slice B 30 cb, .int .i64 a.keep], .int .i64 4] W fun e w' => ∃ D d, e = .returned (.slice D 3 d) ∧ kIt.C w' D 3 (l5z.take 3) ∧ Below W.heap.size W w' from fun B cb W hcl => by
    have := list_walk 21 B cb a 4 (l5z.take 3) W (by rw [hal]; exact hcl) hli
    rw [hal] at this
    exact this.mono (by rintro e w' ⟨D, d, rfl, _, h1, h2⟩; exact ⟨D, d, rfl, h1, h2⟩))
  have HLB := Aside0.mk (show ∀ (B : Option Addr) (cb : Nat) (W : World), kCl.C W B 30 b.c → Calls Try.prog 24 #[.agg #[.slice B 30 cb, .int .i64 b.keep], .int .i64 8] W fun e w' => ∃ D d, e = .returned (.slice D 4 d) ∧ Below W.heap.size W w' from fun B cb W hcl => by
    have := list_walk 21 B cb b 8 lb W (by rw [hbl]; exact hcl) hlb
    rw [hbl, hlb4] at this
    exact this.mono (by rintro e w' ⟨D, d, rfl, _, h1, h2⟩; exact ⟨D, d, rfl, h2⟩))
  have HIT := Aside0.mk (fun (A B : Option Addr) (c d : Nat) (w : World) (h1 : kIt.C w A 3 (l5z.take 3)) (h2 : kIt.C w B 3 (l5z.take 3)) => items_walk A B c d (l5z.take 3) (l5z.take 3) w h1 h2)
  rw [show ((l5z : List It).take 3).length = 3 from rfl, show decide (l5z.take 3 = l5z.take 3) = true from decide_eq_true rfl] at HIT
  rw [show clAt a 4 = a.c.getD 4 zCl from rfl] at hlf
  have HG := Aside0.mk hlf
  clear hf hcu h6 h2 hlo hgl hal hbl hcl' hxl hlf hli hta htb hlb hlb4 hf' fp hgg
  go_enter Try.func27, Try.ntmps27
  go_upto_region 3 with (first | (go_at_call 26; (with_reducible refine (HNW.out _).mono ?_); rintro e w1 ⟨A0, c0, rfl, hc0, hC0, hb1⟩; have HC0 := Aside0.mk hc0; have HA0 := Aside0.mk hC0; have HB1 := Aside0.mk hb1; clear hc0 hC0 hb1) | fail)
  obtain ⟨W, hW⟩ : ∃ W, W = (w1.alloc (.cells #[.slice A0 30 c0, .int .i64 0] 24)).alloc (.cells #[.int .i64 1, .int .i64 0, .int .i64 2, .int .i64 0, .int .i64 3, .int .i64 0, .int .i64 4, .int .i64 0, .int .i64 5, .int .i64 0] 26) := ⟨_, rfl⟩
  have HB := Aside0.mk (show Below w1.heap.size w1 W by rw [hW]; exact below_alloc (below_alloc (Below.refl _ _) _) _)
  have HBW := Aside0.mk (show Below w.heap.size w W from below_step HB1.out HB.out)
  have BH := Aside0.mk (show B3 W w1.heap.size A0 c0 h30 by rw [hW]; exact (B3.new (g := h30) HA0.out HC0.out).step (below_alloc (Below.refl _ _) _))
  have hrow := five_z (w1.alloc (.cells #[.slice A0 30 c0, .int .i64 0] 24))
  rw [← hW, World.size_alloc] at hrow
  have HROW := Aside0.mk hrow
  rw [← hW]
  clear hW hrow
  have d0 := BH.out.c0
  have d1 : W.cell? ⟨w1.heap.size, 1, none⟩ = some (.int .i64 0) := BH.out.c1
  go_upto_region 4 with (first | (go_at_call 20; (with_reducible refine (HFL.out A0 c0 _ _ BH.out.cl HC0.out HROW.out).mono ?_); rintro e w3 ⟨E3, c3, rfl, hc3, hr3, hb3⟩; have HR3 := Aside0.mk (And.intro hc3 hr3); have HB3 := Aside0.mk hb3; clear hc3 hr3 hb3) | fail)
  (obtain ⟨W4, hV⟩ : ∃ V, V = w3.alloc (.cells #[.slice E3 30 c3, .int .i64 g.keep] 24) := ⟨_, rfl⟩; have HW4 := Aside0.mk (show Below W.heap.size W W4 by rw [hV]; exact below_alloc HB3.out _); have BG := Aside0.mk (show B3 W4 w3.heap.size E3 c3 g by rw [hV]; exact B3.new HR3.out.2 HR3.out.1); rw [← hV]; clear hV)
  have HROW4 := Aside0.mk (Kd.C_below HROW.out HW4.out)
  clear d0 d1
  have d0 := BG.out.c0
  have d1 := BG.out.c1
  go_upto_region 5 with (first | (go_at_call 32; (with_reducible refine (HCU.out _ _ _ BG.out.cl BG.out.le).mono ?_); rintro e w5 ⟨B5, c5, rfl, hc5, hr5, hb5⟩; have HR5 := Aside0.mk (And.intro hc5 hr5); have HB5 := Aside0.mk hb5; clear hc5 hr5 hb5) | fail)
  (obtain ⟨W6, hV⟩ : ∃ V, V = w5.alloc (.cells #[.slice B5 30 c5, .int .i64 a.keep] 24) := ⟨_, rfl⟩; have HW6 := Aside0.mk (show Below W4.heap.size W4 W6 by rw [hV]; exact below_alloc HB5.out _); have BA := Aside0.mk (show B3 W6 w5.heap.size B5 c5 a by rw [hV]; exact B3.new HR5.out.2 HR5.out.1); rw [← hV]; clear hV)
  have BG6 := Aside0.mk (BG.out.step HW6.out)
  clear d0 d1
  have d0 := BG6.out.c0
  have d1 := BG6.out.c1
  go_upto_region 6 with (first | (go_at_call 28; (with_reducible refine (HD6.out _ _ _ BG6.out.cl BG6.out.le).mono ?_); rintro e w7 ⟨B7, c7, rfl, hc7, hr7, hb7⟩; have HR7 := Aside0.mk (And.intro hc7 hr7); have HB7 := Aside0.mk hb7; clear hc7 hr7 hb7) | fail)
  (obtain ⟨W8, hV⟩ : ∃ V, V = w7.alloc (.cells #[.slice B7 30 c7, .int .i64 x.keep] 24) := ⟨_, rfl⟩; have HW8 := Aside0.mk (show Below W6.heap.size W6 W8 by rw [hV]; exact below_alloc HB7.out _); have BX := Aside0.mk (show B3 W8 w7.heap.size B7 c7 x by rw [hV]; exact B3.new HR7.out.2 HR7.out.1); rw [← hV]; clear hV)
  have BG8 := Aside0.mk (BG6.out.step HW8.out)
  have BA8 := Aside0.mk (BA.out.step HW8.out)
  clear d0 d1
  have d0 := BG8.out.c0
  have d1 := BG8.out.c1
  go_upto_region 7 with (first | (go_at_call 28; (with_reducible refine (HD2.out _ _ _ BG8.out.cl BG8.out.le).mono ?_); rintro e w9 ⟨B9, c9, rfl, hc9, hr9, hb9⟩; have HR9 := Aside0.mk (And.intro hc9 hr9); have HB9 := Aside0.mk hb9; clear hc9 hr9 hb9) | fail)
  (obtain ⟨W10, hV⟩ : ∃ V, V = w9.alloc (.cells #[.slice B9 30 c9, .int .i64 b.keep] 24) := ⟨_, rfl⟩; have HW10 := Aside0.mk (show Below W8.heap.size W8 W10 by rw [hV]; exact below_alloc HB9.out _); have BB := Aside0.mk (show B3 W10 w9.heap.size B9 c9 b by rw [hV]; exact B3.new HR9.out.2 HR9.out.1); rw [← hV]; clear hV)
  have BA10 := Aside0.mk (BA8.out.step HW10.out)
  have HROW10 := Aside0.mk (Kd.C_below (Kd.C_below (Kd.C_below HROW4.out HW6.out) HW8.out) HW10.out)
  have HBW10 := Aside0.mk (below_step (below_step (below_step (below_step HBW.out HW4.out) HW6.out) HW8.out) HW10.out)
  clear d0 d1
  have a0 := BA10.out.c0
  have a1 := BA10.out.c1
  have b0 := BB.out.c0
  have b1 := BB.out.c1
  go_upto_region 9 with (first | (go_at_call 37; (with_reducible refine (HRA.out _ _ _ BA10.out.cl).mono ?_); rintro e w11 ⟨rfl, hb11⟩; have HB11 := Aside0.mk hb11; have b0 := bcell hb11 b0; have b1 := bcell hb11 b1; clear hb11) | (go_at_call 37; (with_reducible refine (HRB.out _ _ _ (Kd.C_below BB.out.cl HB11.out)).mono ?_); rintro e w12 ⟨rfl, hb12⟩; have HB12 := Aside0.mk (show Below W10.heap.size W10 w12 from below_step HB11.out hb12); clear hb12) | fail)
  have BA12 := Aside0.mk (BA10.out.step HB12.out)
  have BB12 := Aside0.mk (BB.out.step HB12.out)
  clear a0 a1 b0 b1
  have a0 := BA12.out.c0
  have a1 := BA12.out.c1
  go_upto_region 10 with (first | (go_at_call 30; (with_reducible refine (HLW.out _ _ _ BA12.out.cl BA12.out.le).mono ?_); rintro e w13 ⟨B13, c13, rfl, hc13, hr13, hb13⟩; have HR13 := Aside0.mk (And.intro hc13 hr13); have HB13 := Aside0.mk hb13; clear hc13 hr13 hb13) | fail)
  (obtain ⟨W14, hV⟩ : ∃ V, V = w13.alloc (.cells #[.slice B13 30 c13, .int .i64 c.keep] 24) := ⟨_, rfl⟩; have HW14 := Aside0.mk (show Below w12.heap.size w12 W14 by rw [hV]; exact below_alloc HB13.out _); have BC := Aside0.mk (show B3 W14 w13.heap.size B13 c13 c by rw [hV]; exact B3.new HR13.out.2 HR13.out.1); rw [← hV]; clear hV)
  have BA14 := Aside0.mk (BA12.out.step HW14.out)
  have BB14 := Aside0.mk (BB12.out.step HW14.out)
  have HROW14 := Aside0.mk (Kd.C_below (Kd.C_below HROW10.out HB12.out) HW14.out)
  have HBW14 := Aside0.mk (below_step (below_step HBW10.out HB12.out) HW14.out)
  obtain ⟨ad, Bn, cn, rfl, -, -, y2, -, -, -⟩ := at_cl BA14.out.cl 4 (by decide)
  rw [HG.out] at y2
  have y4 : W14.cell? ⟨ad.block, ad.off + 16 + 2, none⟩ = some (.bool true) := y2
  clear a0 a1 y2
  have a0 := BA14.out.c0
  have a1 := BA14.out.c1
  have b0 := BB14.out.c0
  have b1 := BB14.out.c1
  have z0 := BC.out.c0
  have HROW3 := Aside0.mk (show kIt.C W14 _ 3 (l5z.take 3) from Kd.C_take (m := 3) HROW14.out (by decide))
  have Y4 := Aside0.mk y4
  go_region_held3 (fun w' => w'.cell? ⟨w5.heap.size, 0, none⟩ = some (.slice (some ad) 30 c5) ∧ w'.cell? ⟨w5.heap.size, 1, none⟩ = some (.int .i64 a.keep) ∧ w'.cell? ⟨ad.block, ad.off + 16 + 2, none⟩ = some (.bool true) ∧ w'.cell? ⟨w9.heap.size, 0, none⟩ = some (.slice B9 30 c9) ∧ w'.cell? ⟨w9.heap.size, 1, none⟩ = some (.int .i64 b.keep) ∧ w'.cell? ⟨w13.heap.size, 0, none⟩ = some (.slice B13 30 c13))
    (first | exact ⟨a0, a1, y4, b0, b1, z0⟩ | exact (fun (H : Below W14.heap.size W14 _) => ⟨(BA14.out.step H).c0, (BA14.out.step H).c1, bcell H Y4.out, (BB14.out.step H).c0, (BB14.out.step H).c1, (BC.out.step H).c0⟩) (by repeat (first | (with_reducible exact Below.refl _ _) | (with_reducible refine below_alloc ?_ _) | (with_reducible refine below_drew1 ?_) | (with_reducible refine pw_below_drewN ?_ _) | (with_reducible exact HI5.out) | (with_reducible exact HI4.out) | (with_reducible exact HI3.out))))
    (first | (go_at_call 24; (with_reducible refine (HLA.out _ _ _ (Kd.C_below BA14.out.cl (by repeat (first | (with_reducible exact Below.refl _ _) | (with_reducible refine below_alloc ?_ _) | (with_reducible refine below_drew1 ?_) | (with_reducible refine pw_below_drewN ?_ _) | fail)))).mono ?_); rintro e w15 ⟨D, dd, rfl, h1, hb⟩; have HD := Aside0.mk h1; have HI3 := Aside0.mk (show Below W14.heap.size W14 w15 from below_step (by repeat (first | (with_reducible exact Below.refl _ _) | (with_reducible refine below_alloc ?_ _) | (with_reducible refine below_drew1 ?_) | (with_reducible refine pw_below_drewN ?_ _) | fail)) hb); clear h1 hb) | (go_at_call 23; (with_reducible refine (HIT.out _ _ _ _ _ (Kd.C_below HD.out (by repeat (first | (with_reducible exact Below.refl _ _) | (with_reducible refine below_alloc ?_ _) | (with_reducible refine below_drew1 ?_) | (with_reducible refine pw_below_drewN ?_ _) | fail))) (Kd.C_below HROW3.out (by repeat (first | (with_reducible exact Below.refl _ _) | (with_reducible refine below_alloc ?_ _) | (with_reducible refine below_drew1 ?_) | (with_reducible refine pw_below_drewN ?_ _) | (with_reducible exact HI3.out))))).mono ?_); rintro e w16 ⟨rfl, hb⟩; have HI4 := Aside0.mk (show Below W14.heap.size W14 w16 from below_step (by repeat (first | (with_reducible exact Below.refl _ _) | (with_reducible refine below_alloc ?_ _) | (with_reducible refine below_drew1 ?_) | (with_reducible refine pw_below_drewN ?_ _) | (with_reducible exact HI3.out))) hb); clear hb) | (go_at_call 24; (with_reducible refine (HLB.out _ _ _ (Kd.C_below BB14.out.cl (by repeat (first | (with_reducible exact Below.refl _ _) | (with_reducible refine below_alloc ?_ _) | (with_reducible refine below_drew1 ?_) | (with_reducible refine pw_below_drewN ?_ _) | (with_reducible exact HI4.out))))).mono ?_); rintro e w17 ⟨D2, dd2, rfl, hb⟩; have HI5 := Aside0.mk (show Below W14.heap.size W14 w17 from below_step (by repeat (first | (with_reducible exact Below.refl _ _) | (with_reducible refine below_alloc ?_ _) | (with_reducible refine below_drew1 ?_) | (with_reducible refine pw_below_drewN ?_ _) | (with_reducible exact HI4.out))) hb); clear hb) | fail)
  all_goals (go_wp2; go_ret; exact ⟨rfl, below_step HBW14.out HI5.out⟩)
end Go.Proofs.Ytopkoganfnabgaa.H
namespace Go.Proofs.Ytopkoganfnabgaa.H
open Go.RowKit Go.Proofs.YtopkoganfnabgaaW.PrintWords Go.Proofs.YtopkoganfnabgaaW.PrintLast Go.Proofs.YtopkoganfnabgaaW.PrintMore
attribute [local go_sem] max2_int min2_int max_two min_two max_three min_three max_four min_four
set_option linter.unusedVariables false
set_option linter.unusedSimpArgs false
/-- Where a law of prune stands: its heap's box. -/
structure PqSt (w W : World) (s : Nat) (A : Option Addr) (c : Nat) (h : Hp) : Prop where
  b0 : Below w.heap.size w W
  hh : Bx W s A c h
theorem PqSt.step {w W W' : World} {s : Nat} {A : Option Addr} {c : Nat} {h : Hp} (x : PqSt w W s A c h) (hb : Below W.heap.size W W') : PqSt w W' s A c h := ⟨below_step x.b0 hb, x.hh.step hb⟩
end Go.Proofs.Ytopkoganfnabgaa.H
namespace Go.Proofs.Ytopkoganfnabgaa.H
open Go.RowKit Go.Proofs.YtopkoganfnabgaaW.PrintWords Go.Proofs.YtopkoganfnabgaaW.PrintLast Go.Proofs.YtopkoganfnabgaaW.PrintMore
attribute [local go_sem] max2_int min2_int max_two min_two max_three min_three max_four min_four
set_option linter.unusedVariables false
set_option linter.unusedSimpArgs false
theorem take_snoc (l : List It) (k : Nat) (h : k < l.length) : l.take (k + 1) = l.take k ++ [itAt l k] := by
  rw [itAt_get h]
  exact (List.take_append_getElem h).symm
theorem filt_snoc (p : It → Bool) (l : List It) (k : Nat) (h : k < l.length) : (l.take (k + 1)).filter p = (l.take k).filter p ++ if p (itAt l k) = true then [itAt l k] else [] := by
  rw [take_snoc l k h, List.filter_append]
  cases hp : p (itAt l k) <;> simp [hp]
theorem filt_len (p : It → Bool) (l : List It) (k : Nat) : ((l.take k).filter p).length ≤ l.length := Nat.le_trans (List.length_filter_le _ _) (by rw [List.length_take]; omega)
set_option maxHeartbeats 4000000 in
set_option maxRecDepth 100000 in
/-- The reference's Scan. -/
theorem refScan_walk (A : Option Addr) (c : Nat) (h : Hp) (root lo hi : Int) (l : List It) (w : World) (hr : kCl.C w A h.c.length h.c) (e : listO 21 h root = some l) (hl : l.length ≤ 2147483648) :
    Calls Try.prog 34 #[.agg #[.slice A h.c.length c, .int .i64 h.keep], .int .i64 root, .int .i64 lo, .int .i64 hi] w fun e w' => ∃ D d, e = .returned (.slice D (scanL lo hi l).length d) ∧ (scanL lo hi l).length ≤ d ∧ kIt.C w' D (scanL lo hi l).length (scanL lo hi l) ∧ Below w.heap.size w w' := by
  obtain ⟨P, hP⟩ : ∃ P : It → Bool, P = fun x => decide (lo ≤ x.k) && decide (x.k < hi) := ⟨_, rfl⟩
  have HDL := Aside0.mk (show scanL lo hi l = l.filter P by rw [hP]; rfl)
  rw [HDL.out]
  have HLI := Aside0.mk (show ∀ W : World, Below w.heap.size w W → Calls Try.prog 24 #[.agg #[.slice A h.c.length c, .int .i64 h.keep], .int .i64 root] W fun e w' => ∃ D d, e = .returned (.slice D l.length d) ∧ kIt.C w' D l.length l ∧ Below W.heap.size W w' from fun W hb => (list_walk 21 A c h root l W (Kd.C_below hr hb) e).mono (by rintro e w' ⟨D, d, rfl, _, h1, h2⟩; exact ⟨D, d, rfl, h1, h2⟩))
  have HL := Aside0.mk hl
  have HP := Aside0.mk hP
  clear hr hl hP e
  go_enter Try.func34, Try.ntmps34
  go_wp2_with (first | (go_at_call 24; (with_reducible refine (HLI.out _ (by repeat (first | (with_reducible exact Below.refl _ _) | (with_reducible refine below_alloc ?_ _) | (with_reducible refine below_drew1 ?_) | (with_reducible refine pw_below_drewN ?_ _) | (with_reducible exact Below.refl _ _)))).mono ?_); rintro e w2 ⟨D0, d0, rfl, hc, hb2⟩; have HN := Aside0.mk hc; have HB2 := Aside0.mk (show Below w.heap.size w w2 from below_step (by repeat (first | (with_reducible exact Below.refl _ _) | (with_reducible refine below_alloc ?_ _) | (with_reducible refine below_drew1 ?_) | (with_reducible refine pw_below_drewN ?_ _) | (with_reducible exact Below.refl _ _))) hb2); clear hc hb2) | fail)
  go_loopg [10, 11] l.length (fun g s10 s11 wr => ∃ k : Nat, s11 = .int .i64 k ∧ k + g = l.length ∧ Aside0 (Kd.R kIt 26 wr w2.heap.size (fun k => w2.heap.size ≤ k) s10 ((l.take k).filter P)) ∧ Aside0 (Below w2.heap.size w2 wr))
  case atStart => exact ⟨0, rfl, by omega, ⟨Kd.R_nil _ _ _ _ _⟩, ⟨Below.refl _ _⟩⟩
  case round =>
    obtain ⟨k, rfl, hk, HR, HB⟩ := hrel
    by_cases hlt : k < l.length
    · have r1 : decide (k < l.length) = true := decide_eq_true hlt
      have r2 : (k < l.length) = True := eq_true hlt
      obtain ⟨g1, rfl⟩ : ∃ g1, gk = g1 + 1 := ⟨gk - 1, by omega⟩
      obtain ⟨ad, rfl, x0, x1⟩ := at_it (Kd.C_below HN.out HB.out) k hlt
      have hs := filt_snoc P l k hlt
      obtain ⟨x, hx⟩ : ∃ x, x = itAt l k := ⟨_, rfl⟩
      rw [← hx] at x0 x1 hs
      have HS := Aside0.mk hs
      have HK := Aside0.mk (And.intro hlt hk)
      have HTL := Aside0.mk (show ((l.take k).filter P).length ≤ 2147483648 by have := filt_len P l k; have := HL.out; omega)
      have HW := Aside0.mk (show wrap64 ((k : Int) + 1) = ((k + 1 : Nat) : Int) by have := HL.out; unfold wrap64; omega)
      clear hs hx hlt hk
      by_cases h1 : lo ≤ x.k
      · have q1 : decide (lo ≤ x.k) = true := decide_eq_true h1
        by_cases h2 : x.k < hi
        · have q2 : decide (x.k < hi) = true := decide_eq_true h2
          have HPX := Aside0.mk (show P x = true by rw [HP.out]; simp [h1, h2])
          clear h1 h2
          go_wp2_with (first | ((with_reducible refine gate_builtin (b := .append) (xs := #[.tmp 37, .tmp 42]) rfl ?_); at_builtin; refine Kd.R_append kIt (w0 := w2) w2.heap.size rfl (.tmp 37) (.tmp 42) 27 26 (.agg #[.int .i64 0, .int .i64 0]) 16 rfl Try.underlying27 info_it rfl (by decide) (by decide) _ ((l.take k).filter P) x [.int .i64 x.k, .int .i64 x.v] (fun k => w2.heap.size ≤ k) (fun _ => False) rfl rfl (itM _ _ _ x) (fun _ h => h.elim) (fun _ h => Nat.le_trans HB.out.size h) HR.out HB.out HB.out.size (by have := HTL.out; omega) ?_; intro v1 w5 ho hb hg hat; have HO5 := Aside0.mk ho; have HB5 := Aside0.mk hb; clear ho hb hg hat) | fail)
          go_roundg g1
          case measure => omega
          case rel => exact ⟨k + 1, by rw [HW.out], by have := HK.out; omega, ⟨by rw [HS.out, HPX.out]; exact HO5.out⟩, HB5⟩
        · have q2 : decide (x.k < hi) = false := decide_eq_false h2
          have HPX := Aside0.mk (show P x = false by rw [HP.out]; simp; omega)
          clear h1 h2
          go_wp2_with (first | ((with_reducible refine gate_builtin (b := .append) (xs := #[.tmp 37, .tmp 42]) rfl ?_); at_builtin; refine Kd.R_append kIt (w0 := w2) w2.heap.size rfl (.tmp 37) (.tmp 42) 27 26 (.agg #[.int .i64 0, .int .i64 0]) 16 rfl Try.underlying27 info_it rfl (by decide) (by decide) _ ((l.take k).filter P) x [.int .i64 x.k, .int .i64 x.v] (fun k => w2.heap.size ≤ k) (fun _ => False) rfl rfl (itM _ _ _ x) (fun _ h => h.elim) (fun _ h => Nat.le_trans HB.out.size h) HR.out HB.out HB.out.size (by have := HTL.out; omega) ?_; intro v1 w5 ho hb hg hat; have HO5 := Aside0.mk ho; have HB5 := Aside0.mk hb; clear ho hb hg hat) | fail)
          go_roundg g1
          case measure => omega
          case rel => exact ⟨k + 1, by rw [HW.out], by have := HK.out; omega, ⟨by rw [HS.out, HPX.out]; simpa using HR.out⟩, HB⟩
      · have q1 : decide (lo ≤ x.k) = false := decide_eq_false h1
        have HPX := Aside0.mk (show P x = false by rw [HP.out]; simp; omega)
        clear h1
        go_wp2_with (first | ((with_reducible refine gate_builtin (b := .append) (xs := #[.tmp 37, .tmp 42]) rfl ?_); at_builtin; refine Kd.R_append kIt (w0 := w2) w2.heap.size rfl (.tmp 37) (.tmp 42) 27 26 (.agg #[.int .i64 0, .int .i64 0]) 16 rfl Try.underlying27 info_it rfl (by decide) (by decide) _ ((l.take k).filter P) x [.int .i64 x.k, .int .i64 x.v] (fun k => w2.heap.size ≤ k) (fun _ => False) rfl rfl (itM _ _ _ x) (fun _ h => h.elim) (fun _ h => Nat.le_trans HB.out.size h) HR.out HB.out HB.out.size (by have := HTL.out; omega) ?_; intro v1 w5 ho hb hg hat; have HO5 := Aside0.mk ho; have HB5 := Aside0.mk hb; clear ho hb hg hat) | fail)
        go_roundg g1
        case measure => omega
        case rel => exact ⟨k + 1, by rw [HW.out], by have := HK.out; omega, ⟨by rw [HS.out, HPX.out]; simpa using HR.out⟩, HB⟩
    · have r1 : decide (k < l.length) = false := decide_eq_false hlt
      have r2 : (k < l.length) = False := eq_false hlt
      have hr := HR.out
      rw [List.take_of_length_le (by omega)] at hr
      obtain ⟨D, d, rfl⟩ := Kd.R_slice hr
      have HF := Aside0.mk (Kd.R_reads' hr).2
      clear hlt hk hr
      go_wp2
      go_ret
      exact ⟨D, d, rfl, HF.out.1, HF.out.2, below_step HB2.out HB.out⟩
end Go.Proofs.Ytopkoganfnabgaa.H
namespace Go.Proofs.Ytopkoganfnabgaa.H
open Go.RowKit Go.Proofs.YtopkoganfnabgaaW.PrintWords Go.Proofs.YtopkoganfnabgaaW.PrintLast Go.Proofs.YtopkoganfnabgaaW.PrintMore
attribute [local go_sem] max2_int min2_int max_two min_two max_three min_three max_four min_four
set_option linter.unusedVariables false
set_option linter.unusedSimpArgs false
set_option maxHeartbeats 4000000 in
set_option maxRecDepth 100000 in
/-- The reference's Hold. -/
theorem refHold_walk (A : Option Addr) (c : Nat) (h : Hp) (p : Int) (w : World) (hr : kCl.C w A h.c.length h.c) (hcc : h.c.length ≤ c) (hl : h.c.length ≤ 1000000) :
    Calls Try.prog 63 #[.agg #[.slice A h.c.length c, .int .i64 h.keep], .int .i64 p] w fun e w' => ∃ B cb, e = .returned (.tuple #[.agg #[.slice B (holdH h p).1.c.length cb, .int .i64 (holdH h p).1.keep], .int .i64 (holdH h p).2]) ∧ (holdH h p).1.c.length ≤ cb ∧ kCl.C w' B (holdH h p).1.c.length (holdH h p).1.c ∧ Below w.heap.size w w' := by
  obtain ⟨W1, hW1⟩ : ∃ W1, W1 = (w.alloc (.cells #[.slice A h.c.length c, .int .i64 h.keep] 24)).alloc (.cells #[.slice none 0 0, .int .i64 0] 24) := ⟨_, rfl⟩
  have S1 := Aside0.mk (show RlSt w W1 A c h by rw [hW1]; exact ⟨below_alloc (below_alloc (Below.refl _ _) _) _, blk_alloc (blk_new w _) _, blk2 w _ _, Kd.C_alloc (Kd.C_alloc hr _) _, hcc⟩)
  have c0 := (blk_cell S1.out.bh 0).trans (show _ = some (Value.slice A h.c.length c) from rfl)
  have c1 := (blk_cell S1.out.bh 1).trans (show _ = some (Value.int .i64 h.keep) from rfl)
  have HUS := Aside0.mk (fun (W : World) (hb : Below W1.heap.size W1 W) => refUsed_walk A c h p W (Kd.C_below S1.out.cl.1 hb))
  have hW1' := Aside0.mk hW1
  clear hW1 hcc
  cases hu : usedB h p with
  | false =>
    have eh : holdH h p = (h, 4) := by unfold holdH; rw [hu]; rfl
    rw [eh]
    rw [hu] at HUS
    clear hu eh hr hl
    go_enter Try.func63, Try.ntmps63
    go_upto_region 1 with (fail)
    rw [← hW1'.out]
    go_upto_region 3 with (first | (go_at_call 67; (with_reducible refine (HUS.out _ (by repeat (first | (with_reducible exact Below.refl _ _) | (with_reducible refine below_alloc ?_ _) | (with_reducible refine below_drew1 ?_) | (with_reducible refine pw_below_drewN ?_ _) | (with_reducible exact Below.refl _ _)))).mono ?_); rintro e w2 ⟨rfl, hb2⟩; have S2 := Aside0.mk (S1.out.step hb2); have HB2 := Aside0.mk hb2; clear hb2) | fail)
    clear c0 c1
    have c0 := (blk_cell S2.out.bh 0).trans (show _ = some (Value.slice A h.c.length c) from rfl)
    have c1 := (blk_cell S2.out.bh 1).trans (show _ = some (Value.int .i64 h.keep) from rfl)
    have e0 := (blk_cell S2.out.br 0).trans (show _ = some (Value.slice none 0 0) from rfl)
    have e1 := (blk_cell S2.out.br 1).trans (show _ = some (Value.int .i64 0) from rfl)
    have f0 := blk_frozen S2.out.br 0
    have f1 := blk_frozen S2.out.br 1
    go_wp2
    refine bodyPost_ret (results_ct rfl _ _ (w.heap.size + 1) 24 #[.slice A h.c.length c, .int .i64 h.keep] (0, 0) _ rfl (hb_store S2.out.br) Try.underlying24 rfl (by kernel_rfl)) rfl ?_
    exact ⟨A, c, rfl, S2.out.cl.2, cl_store S2.out.cl.1 S2.out.br, below_set (below_set S2.out.b0 (by omega)) (by omega)⟩
  | true =>
    have eh : holdH h p = (moreH h p, 0) := by unfold holdH; rw [hu]; rfl
    rw [eh]
    obtain ⟨i, rfl, hi⟩ := inB_nat (used_iff.mp hu).1
    rw [hu] at HUS
    obtain ⟨g, hg⟩ : ∃ g, g = moreH h (i : Int) := ⟨_, rfl⟩
    have HMO := Aside0.mk (fun (W : World) (hb : Below W1.heap.size W1 W) => refMore_walk A c h i w w W (Ls_old hr (below_step S1.out.b0 hb)) (below_step S1.out.b0 hb).size hi hl)
    rw [← hg] at HMO ⊢
    clear hu eh hr hl hg
    go_enter Try.func63, Try.ntmps63
    go_upto_region 1 with (fail)
    rw [← hW1'.out]
    go_upto_region 2 with (first | (go_at_call 67; (with_reducible refine (HUS.out _ (by repeat (first | (with_reducible exact Below.refl _ _) | (with_reducible refine below_alloc ?_ _) | (with_reducible refine below_drew1 ?_) | (with_reducible refine pw_below_drewN ?_ _) | (with_reducible exact Below.refl _ _)))).mono ?_); rintro e w2 ⟨rfl, hb2⟩; have S2 := Aside0.mk (S1.out.step hb2); have HB2 := Aside0.mk hb2; clear hb2) | fail)
    clear c0 c1
    have c0 := (blk_cell S2.out.bh 0).trans (show _ = some (Value.slice A h.c.length c) from rfl)
    have c1 := (blk_cell S2.out.bh 1).trans (show _ = some (Value.int .i64 h.keep) from rfl)
    go_wp2_with (first | (go_at_call 74; (with_reducible refine (HMO.out _ (by first | exact HB2.out | exact below_step HB2.out (by repeat (first | (with_reducible exact Below.refl _ _) | (with_reducible refine below_alloc ?_ _) | (with_reducible refine below_drew1 ?_) | (with_reducible refine pw_below_drewN ?_ _) | fail)))).mono ?_); rintro e w3 ⟨B3, c3, rfl, hc3, hs3, hb3⟩; have HR3 := Aside0.mk (And.intro hc3 hs3.now); have HBR := Aside0.mk (blk_below S2.out.br hb3); have HB3 := Aside0.mk hb3; have e0 := (blk_cell HBR.out 0).trans (show _ = some (Value.slice none 0 0) from rfl); have e1 := (blk_cell HBR.out 1).trans (show _ = some (Value.int .i64 0) from rfl); have f0 := blk_frozen HBR.out 0; have f1 := blk_frozen HBR.out 1; clear hc3 hs3 hb3) | fail)
    refine bodyPost_ret (results_ct rfl _ _ (w.heap.size + 1) 24 #[.slice B3 g.c.length c3, .int .i64 g.keep] (0, 0) _ rfl (hb_store HBR.out) Try.underlying24 rfl (by kernel_rfl)) rfl ?_
    exact ⟨B3, c3, rfl, HR3.out.1, cl_store HR3.out.2 HBR.out, below_set (below_set (below_step S2.out.b0 HB3.out) (by omega)) (by omega)⟩
end Go.Proofs.Ytopkoganfnabgaa.H
namespace Go.Proofs.Ytopkoganfnabgaa.H
open Go.RowKit Go.Proofs.YtopkoganfnabgaaW.PrintWords Go.Proofs.YtopkoganfnabgaaW.PrintLast Go.Proofs.YtopkoganfnabgaaW.PrintMore
attribute [local go_sem] max2_int min2_int max_two min_two max_three min_three max_four min_four
set_option linter.unusedVariables false
set_option linter.unusedSimpArgs false
set_option maxHeartbeats 8000000 in
set_option maxRecDepth 100000 in
/-- The reference's Low. -/
theorem refLow_walk : ∀ (f : Nat) (A : Option Addr) (c : Nat) (h h' : Hp) (root p : Int) (w : World), kCl.C w A h.c.length h.c → h.c.length ≤ 2000 → h.c.length ≤ c → lowO f h root = some (h', p) →
    Calls Try.prog 31 #[.agg #[.slice A h.c.length c, .int .i64 h.keep], .int .i64 root] w fun e w' => ∃ B cb, e = .returned (.tuple #[.agg #[.slice B h'.c.length cb, .int .i64 h'.keep], .int .i64 p]) ∧ h'.c.length ≤ cb ∧ kCl.C w' B h'.c.length h'.c ∧ Below w.heap.size w w' := by
  intro f
  induction f with
  | zero => intro A c h h' root p w _ _ _ e; simp [lowO] at e
  | succ f ih =>
  intro A c h h' root p w hr hl hcc e
  obtain ⟨W1, hW1⟩ : ∃ W1, W1 = (w.alloc (.cells #[.slice A h.c.length c, .int .i64 h.keep] 24)).alloc (.cells #[.slice none 0 0, .int .i64 0] 24) := ⟨_, rfl⟩
  have S1 := Aside0.mk (show PuSt w W1 A c h by rw [hW1]; exact pust w A c h hr hcc)
  have hW1' := Aside0.mk hW1
  have HL := Aside0.mk hl
  have IH := Aside0.mk ih
  clear hW1 hr hcc hl ih
  rcases lowO_inv e with ⟨h0, rfl, rfl⟩ | ⟨h0, hin, hlf, rfl, rfl⟩ | ⟨h0, hin, hlf, hi1, rfl, rfl⟩ | ⟨h0, hin, hlf, x, g2, e2, hi, hlo, hnext⟩
  · have q1 : decide (p < 0) = true := decide_eq_true h0
    clear h0 e
    (have c0 := (blk_cell S1.out.hh 0).trans (show _ = some (Value.slice A h'.c.length c) from rfl); have c1 := (blk_cell S1.out.hh 1).trans (show _ = some (Value.int .i64 h'.keep) from rfl); have e0 := (blk_cell S1.out.hr 0).trans (show _ = some (Value.slice none 0 0) from rfl); have e1 := (blk_cell S1.out.hr 1).trans (show _ = some (Value.int .i64 0) from rfl); have f0 := blk_frozen S1.out.hr 0; have f1 := blk_frozen S1.out.hr 1)
    (go_enter Try.func31, Try.ntmps31; go_upto_region 1 with (fail); rw [← hW1'.out])
    (go_wp2; refine bodyPost_ret (results_ct rfl _ _ (w.heap.size + 1) 24 #[.slice (A) h'.c.length c, .int .i64 h'.keep] (0, 0) _ rfl (hb_store S1.out.hr) Try.underlying24 rfl (by kernel_rfl)) rfl ?_; exact ⟨A, c, rfl, S1.out.cl.2, S1.out.same.1, S1.out.same.2⟩)
  · have q1 : decide (p < 0) = false := decide_eq_false h0
    obtain ⟨i, rfl, hi⟩ := inB_nat hin
    rw [clAt_nat] at hlf
    obtain ⟨ad, B, cb, rfl, -, -, x2, x3, -, -⟩ := at_cl S1.out.cl.1 i hi
    obtain ⟨N, hN⟩ : ∃ N, N = (h'.c.getD i zCl).n.it.length := ⟨_, rfl⟩
    rw [hlf] at x2
    rw [← hN] at x3
    have q2 : (i < h'.c.length) = True := eq_true hi
    clear h0 e hin hi hlf hN
    (have c0 := (blk_cell S1.out.hh 0).trans (show _ = some (Value.slice (some ad) h'.c.length c) from rfl); have c1 := (blk_cell S1.out.hh 1).trans (show _ = some (Value.int .i64 h'.keep) from rfl); have e0 := (blk_cell S1.out.hr 0).trans (show _ = some (Value.slice none 0 0) from rfl); have e1 := (blk_cell S1.out.hr 1).trans (show _ = some (Value.int .i64 0) from rfl); have f0 := blk_frozen S1.out.hr 0; have f1 := blk_frozen S1.out.hr 1)
    (go_enter Try.func31, Try.ntmps31; go_upto_region 1 with (fail); rw [← hW1'.out])
    (go_upto_region 4 with (fail); obtain ⟨W2, hW2⟩ : ∃ W2, W2 = W1.alloc (.cells #[.bool true, .slice B N cb] 77) := ⟨_, rfl⟩; have S2 := Aside0.mk (show PuSt w W2 (some ad) c h' by rw [hW2]; exact S1.out.step (below_alloc (Below.refl _ _) _)); have HN2 := Aside0.mk (show W2.heap[W1.heap.size]? = some (.cells #[.bool true, .slice B N cb] 77 (0, 0)) by rw [hW2]; exact blk_new W1 _); have HB2 := Aside0.mk (show Below W1.heap.size W1 W2 by rw [hW2]; exact below_alloc (Below.refl _ _) _); rw [← hW2]; clear hW2 c0 c1 e0 e1 f0 f1 x2 x3; have n0 := (blk_cell HN2.out 0).trans (show _ = some (Value.bool true) from rfl); have n1 := (blk_cell HN2.out 1).trans (show _ = some (Value.slice B N cb) from rfl))
    (have c0 := (blk_cell S2.out.hh 0).trans (show _ = some (Value.slice (some ad) h'.c.length c) from rfl); have c1 := (blk_cell S2.out.hh 1).trans (show _ = some (Value.int .i64 h'.keep) from rfl); have e0 := (blk_cell S2.out.hr 0).trans (show _ = some (Value.slice none 0 0) from rfl); have e1 := (blk_cell S2.out.hr 1).trans (show _ = some (Value.int .i64 0) from rfl); have f0 := blk_frozen S2.out.hr 0; have f1 := blk_frozen S2.out.hr 1)
    (go_wp2; refine bodyPost_ret (results_ct rfl _ _ (w.heap.size + 1) 24 #[.slice (some ad) h'.c.length c, .int .i64 h'.keep] (0, 0) _ rfl (hb_store S2.out.hr) Try.underlying24 rfl (by kernel_rfl)) rfl ?_; exact ⟨some ad, c, rfl, S2.out.cl.2, S2.out.same.1, S2.out.same.2⟩)
  · have q1 : decide (p < 0) = false := decide_eq_false h0
    obtain ⟨i, rfl, hi⟩ := inB_nat hin
    rw [clAt_nat] at hlf hi1
    obtain ⟨ad, B, cb, rfl, -, -, x2, x3, -, -⟩ := at_cl S1.out.cl.1 i hi
    obtain ⟨N, hN⟩ : ∃ N, N = (h'.c.getD i zCl).n.it.length := ⟨_, rfl⟩
    rw [hlf] at x2
    rw [← hN] at x3 hi1
    have q2 : (i < h'.c.length) = True := eq_true hi
    have q3 : (N != 1) = true := bne_t (by omega)
    have q4 : ((N : Int) != 1) = true := bne_t (by omega)
    clear h0 e hin hi hlf hN hi1
    (have c0 := (blk_cell S1.out.hh 0).trans (show _ = some (Value.slice (some ad) h'.c.length c) from rfl); have c1 := (blk_cell S1.out.hh 1).trans (show _ = some (Value.int .i64 h'.keep) from rfl); have e0 := (blk_cell S1.out.hr 0).trans (show _ = some (Value.slice none 0 0) from rfl); have e1 := (blk_cell S1.out.hr 1).trans (show _ = some (Value.int .i64 0) from rfl); have f0 := blk_frozen S1.out.hr 0; have f1 := blk_frozen S1.out.hr 1)
    (go_enter Try.func31, Try.ntmps31; go_upto_region 1 with (fail); rw [← hW1'.out])
    (go_upto_region 4 with (fail); obtain ⟨W2, hW2⟩ : ∃ W2, W2 = W1.alloc (.cells #[.bool false, .slice B N cb] 77) := ⟨_, rfl⟩; have S2 := Aside0.mk (show PuSt w W2 (some ad) c h' by rw [hW2]; exact S1.out.step (below_alloc (Below.refl _ _) _)); have HN2 := Aside0.mk (show W2.heap[W1.heap.size]? = some (.cells #[.bool false, .slice B N cb] 77 (0, 0)) by rw [hW2]; exact blk_new W1 _); have HB2 := Aside0.mk (show Below W1.heap.size W1 W2 by rw [hW2]; exact below_alloc (Below.refl _ _) _); rw [← hW2]; clear hW2 c0 c1 e0 e1 f0 f1 x2 x3; have n0 := (blk_cell HN2.out 0).trans (show _ = some (Value.bool false) from rfl); have n1 := (blk_cell HN2.out 1).trans (show _ = some (Value.slice B N cb) from rfl))
    (have c0 := (blk_cell S2.out.hh 0).trans (show _ = some (Value.slice (some ad) h'.c.length c) from rfl); have c1 := (blk_cell S2.out.hh 1).trans (show _ = some (Value.int .i64 h'.keep) from rfl); have e0 := (blk_cell S2.out.hr 0).trans (show _ = some (Value.slice none 0 0) from rfl); have e1 := (blk_cell S2.out.hr 1).trans (show _ = some (Value.int .i64 0) from rfl); have f0 := blk_frozen S2.out.hr 0; have f1 := blk_frozen S2.out.hr 1)
    (go_wp2; refine bodyPost_ret (results_ct rfl _ _ (w.heap.size + 1) 24 #[.slice (some ad) h'.c.length c, .int .i64 h'.keep] (0, 0) _ rfl (hb_store S2.out.hr) Try.underlying24 rfl (by kernel_rfl)) rfl ?_; exact ⟨some ad, c, rfl, S2.out.cl.2, S2.out.same.1, S2.out.same.2⟩)
  · have q1 : decide (root < 0) = false := decide_eq_false h0
    obtain ⟨i, rfl, hii⟩ := inB_nat hin
    rw [clAt_nat] at hlf hi
    obtain ⟨ad, B, cb, rfl, -, -, x2, x3, -, hB⟩ := at_cl S1.out.cl.1 i hii
    rw [hlf] at x2
    rw [hi, show [x].length = 1 from rfl] at x3
    rw [hi, show [x].length = 1 from rfl] at hB
    obtain ⟨ad2, rfl, -, v0⟩ := at_it0 hB (by decide)
    rw [show itAt [x] 0 = x from rfl] at v0
    have q2 : (i < h.c.length) = True := eq_true hii
    obtain ⟨h1, hh1⟩ : ∃ h1, h1 = (holdH h x.v).1 := ⟨_, rfl⟩
    obtain ⟨r1, hr1⟩ : ∃ r1, r1 = (holdH h x.v).2 := ⟨_, rfl⟩
    have hl1 : h1.c.length ≤ 2000 := by rw [hh1, holdH_len]; exact HL.out
    have HHO := Aside0.mk (fun (W : World) (hb : Below W1.heap.size W1 W) => refHold_walk (some ad) c h x.v W (Kd.C_below S1.out.cl.1 hb) S1.out.cl.2 (by have := HL.out; omega))
    rw [← hh1, ← hr1] at HHO
    rw [← hh1] at hlo
    have hl2 : g2.c.length ≤ 2000 := by rw [looseH_len hlo]; exact hl1
    have HLO := Aside0.mk (fun (B : Option Addr) (cb : Nat) (W : World) (h1' : kCl.C W B h1.c.length h1.c) (h2' : h1.c.length ≤ cb) => refLoose_walk 25 B cb h1 g2 i e2 W h1' h2' (by omega) hlo)
    have HLW := Aside0.mk (fun (B : Option Addr) (cb : Nat) (W : World) (h1' : kCl.C W B g2.c.length g2.c) (h2' : g2.c.length ≤ cb) => IH.out B cb g2 h' x.v p W h1' hl2 h2' hnext)
    have V0 := Aside0.mk v0
    clear h0 e hin hii hlf hi hB hh1 hr1 hl1 hl2 hlo hnext IH v0
    (have c0 := (blk_cell S1.out.hh 0).trans (show _ = some (Value.slice (some ad) h.c.length c) from rfl); have c1 := (blk_cell S1.out.hh 1).trans (show _ = some (Value.int .i64 h.keep) from rfl); have e0 := (blk_cell S1.out.hr 0).trans (show _ = some (Value.slice none 0 0) from rfl); have e1 := (blk_cell S1.out.hr 1).trans (show _ = some (Value.int .i64 0) from rfl); have f0 := blk_frozen S1.out.hr 0; have f1 := blk_frozen S1.out.hr 1)
    (go_enter Try.func31, Try.ntmps31; go_upto_region 1 with (fail); rw [← hW1'.out])
    (go_upto_region 4 with (fail); obtain ⟨W2, hW2⟩ : ∃ W2, W2 = W1.alloc (.cells #[.bool false, .slice (some ad2) 1 cb] 77) := ⟨_, rfl⟩; have S2 := Aside0.mk (show PuSt w W2 (some ad) c h by rw [hW2]; exact S1.out.step (below_alloc (Below.refl _ _) _)); have HN2 := Aside0.mk (show W2.heap[W1.heap.size]? = some (.cells #[.bool false, .slice (some ad2) 1 cb] 77 (0, 0)) by rw [hW2]; exact blk_new W1 _); have HB2 := Aside0.mk (show Below W1.heap.size W1 W2 by rw [hW2]; exact below_alloc (Below.refl _ _) _); rw [← hW2]; clear hW2 c0 c1 e0 e1 f0 f1 x2 x3; have n0 := (blk_cell HN2.out 0).trans (show _ = some (Value.bool false) from rfl); have n1 := (blk_cell HN2.out 1).trans (show _ = some (Value.slice (some ad2) 1 cb) from rfl))
    have c0 := (blk_cell S2.out.hh 0).trans (show _ = some (Value.slice (some ad) h.c.length c) from rfl)
    have c1 := (blk_cell S2.out.hh 1).trans (show _ = some (Value.int .i64 h.keep) from rfl)
    have v0 := bcell HB2.out V0.out
    go_upto_region 6 with fail
    go_cut [7, 8] from 31 to 40 (fun v7 v8 wd => ∃ (XN : Nat) (B' : Option Addr) (c2 : Nat), v7 = .pointer (some ⟨XN, 0, none⟩) ∧ v8 = .int .i64 r1 ∧ Aside0 (Bx wd XN B' c2 h1) ∧ Aside0 (Below W2.heap.size W2 wd))
    case first =>
      go_region_held3 (fun w' => w'.cell? ⟨w.heap.size, 0, none⟩ = some (.slice (some ad) h.c.length c) ∧ w'.cell? ⟨w.heap.size, 1, none⟩ = some (.int .i64 h.keep) ∧ w'.cell? ⟨W1.heap.size, 1, none⟩ = some (.slice (some ad2) 1 cb) ∧ w'.cell? ⟨ad2.block, ad2.off + 1, none⟩ = some (.int .i64 x.v)) (first | exact ⟨c0, c1, n1, v0⟩ | exact (fun (H : Below W2.heap.size W2 _) => ⟨bcell H c0, bcell H c1, bcell H n1, bcell H v0⟩) (by repeat (first | (with_reducible exact Below.refl _ _) | (with_reducible refine below_alloc ?_ _) | (with_reducible refine below_drew1 ?_) | (with_reducible refine pw_below_drewN ?_ _) | (with_reducible exact HB3.out) | (with_reducible refine below_set ?_ (Nat.le_refl _))))) (first | (go_at_call 63; (with_reducible refine (HHO.out _ (below_step HB2.out (by repeat (first | (with_reducible exact Below.refl _ _) | (with_reducible refine below_alloc ?_ _) | (with_reducible refine below_drew1 ?_) | (with_reducible refine pw_below_drewN ?_ _) | fail)))).mono ?_); rintro e w3 ⟨B', c2, rfl, hc', hr', hb3⟩; have HB3 := Aside0.mk (show Below W2.heap.size W2 w3 from below_step (by repeat (first | (with_reducible exact Below.refl _ _) | (with_reducible refine below_alloc ?_ _) | (with_reducible refine below_drew1 ?_) | (with_reducible refine pw_below_drewN ?_ _) | fail)) hb3); have HR3 := Aside0.mk (And.intro hc' hr'); (first | (have qx := blk_below (blk_drew (blk_new W2 (.cells #[.slice none 0 0, .int .i64 0] 24))) hb3; have QX := Aside0.mk qx; have qx0 := (blk_cell qx 0).trans (show _ = some (Value.slice none 0 0) from rfl); have qx1 := (blk_cell qx 1).trans (show _ = some (Value.int .i64 0) from rfl); have qf0 := blk_frozen qx 0; have qf1 := blk_frozen qx 1; clear qx) | skip); clear hb3 hc' hr') | fail)
      all_goals
        go_wp2
        go_meet
        case rel => first | exact ⟨w3.heap.size, B', c2, rfl, rfl, ⟨Bx.new HR3.out.2 HR3.out.1⟩, ⟨below_alloc HB3.out _⟩⟩ | exact ⟨W2.heap.size, B', c2, rfl, rfl, ⟨⟨hb_store QX.out, cl_store HR3.out.2 QX.out, HR3.out.1⟩⟩, ⟨below_set (below_set HB3.out (Nat.le_refl _)) (Nat.le_refl _)⟩⟩
    case rest =>
      obtain ⟨W4, rfl⟩ : ∃ W4, W4 = wc := ⟨_, rfl⟩
      obtain ⟨XN, B4, c4, rfl, rfl, BXX, HB4⟩ := hcut
      have S4 := Aside0.mk (S2.out.step HB4.out)
      have HN4 := Aside0.mk (blk_below HN2.out HB4.out)
      clear c0 c1 n0 n1 v0
      have x0 := BXX.out.c0
      have x1 := BXX.out.c1
      go_upto_region 8 with (first | (go_at_call 49; (with_reducible refine (HLO.out _ _ _ (Kd.C_below BXX.out.cl (by repeat (first | (with_reducible exact Below.refl _ _) | (with_reducible refine below_alloc ?_ _) | (with_reducible refine below_drew1 ?_) | (with_reducible refine pw_below_drewN ?_ _) | (with_reducible exact Below.refl _ _)))) BXX.out.le).mono ?_); rintro e w5 ⟨B5, c5, rfl, hc5, hr5, hb5⟩; have HR5 := Aside0.mk (And.intro hc5 hr5); have HB5 := Aside0.mk hb5; clear hc5 hr5 hb5) | fail)
      obtain ⟨W6, hW6⟩ : ∃ W6, W6 = w5.alloc (.cells #[.slice B5 g2.c.length c5, .int .i64 g2.keep] 24) := ⟨_, rfl⟩
      have HB6 := Aside0.mk (show Below W4.heap.size W4 W6 by rw [hW6]; exact below_alloc HB5.out _)
      have G6 := Aside0.mk (show Bx W6 w5.heap.size B5 c5 g2 by rw [hW6]; exact Bx.new HR5.out.2 HR5.out.1)
      have S6 := Aside0.mk (S4.out.step HB6.out)
      rw [← hW6]
      clear hW6 x0 x1
      have x0 := G6.out.c0
      have x1 := G6.out.c1
      have n1 := (blk_cell (blk_below HN4.out HB6.out) 1).trans (show _ = some (Value.slice (some ad2) 1 cb) from rfl)
      have v0 := bcell HB6.out (bcell HB4.out (bcell HB2.out V0.out))
      go_cut [5] from 47 to 55 (fun v5 wd => ∃ (B8 : Option Addr) (c8 : Nat), v5 = .int .i64 p ∧ Aside0 (wd.heap[w.heap.size + 1]? = some (.cells #[.slice B8 h'.c.length c8, .int .i64 h'.keep] 24 (0, 0))) ∧ Aside0 (h'.c.length ≤ c8 ∧ kCl.C wd B8 h'.c.length h'.c) ∧ Aside0 (Below w.heap.size w wd))
      case first =>
        go_region_with (first | (go_at_call 31; (with_reducible refine (HLW.out _ _ _ (Kd.C_below G6.out.cl (by repeat (first | (with_reducible exact Below.refl _ _) | (with_reducible refine below_alloc ?_ _) | (with_reducible refine below_drew1 ?_) | (with_reducible refine pw_below_drewN ?_ _) | (with_reducible exact Below.refl _ _)))) G6.out.le).mono ?_); rintro e w7 ⟨B8, c8, rfl, hc8, hr8, hb8⟩; have HR8 := Aside0.mk (And.intro hc8 hr8); have HB8 := Aside0.mk (below_step (show Below W6.heap.size W6 _ from (by repeat (first | (with_reducible exact Below.refl _ _) | (with_reducible refine below_alloc ?_ _) | (with_reducible refine below_drew1 ?_) | (with_reducible refine pw_below_drewN ?_ _) | (with_reducible exact Below.refl _ _)))) hb8); have HZ8 := Aside0.mk (blk_below S6.out.hr HB8.out); have z0 := (blk_cell HZ8.out 0).trans (show _ = some (Value.slice none 0 0) from rfl); have z1 := (blk_cell HZ8.out 1).trans (show _ = some (Value.int .i64 0) from rfl); have g0 := blk_frozen HZ8.out 0; have g3 := blk_frozen HZ8.out 1; clear hc8 hr8 hb8) | fail)
        all_goals
          go_wp2
          go_meet
          case rel => exact ⟨B8, c8, rfl, ⟨hb_store HZ8.out⟩, ⟨HR8.out.1, cl_store HR8.out.2 HZ8.out⟩, ⟨below_set (below_set (below_step S6.out.b0 HB8.out) (by omega)) (by omega)⟩⟩
      case rest =>
        obtain ⟨WX, rfl⟩ : ∃ WX, WX = wc := ⟨_, rfl⟩
        obtain ⟨B8, c8, rfl, HOX, HRX, HBX⟩ := hcut
        clear x0 x1 n1 v0
        go_wp2
        refine bodyPost_ret (results_ct rfl _ _ (w.heap.size + 1) 24 #[.slice B8 h'.c.length c8, .int .i64 h'.keep] (0, 0) _ rfl HOX.out Try.underlying24 rfl (by kernel_rfl)) rfl ?_
        exact ⟨B8, c8, rfl, HRX.out.1, HRX.out.2, HBX.out⟩
end Go.Proofs.Ytopkoganfnabgaa.H
