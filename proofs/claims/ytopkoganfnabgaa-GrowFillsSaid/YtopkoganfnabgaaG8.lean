import Derived.Test.YtopkoganfnabgaaG5
import Derived.Test.YtopkoganfnabgaaG7
import Derived.Test.YtopkoganfnabgaaG1
namespace Go.Proofs.Ytopkoganfnabgaa.H
open Go.RowKit Go.Proofs.YtopkoganfnabgaaW.PrintWords Go.Proofs.YtopkoganfnabgaaW.PrintLast Go.Proofs.YtopkoganfnabgaaW.PrintMore
attribute [local go_sem] max2_int min2_int max_two min_two max_three min_three max_four min_four
set_option linter.unusedVariables false
set_option linter.unusedSimpArgs false
set_option maxHeartbeats 2000000 in
theorem right07_walk (A : Option Addr) (c : Nat) (h : Hp) (root : Int) (b : Bool) (w : World) (hr : kCl.C w A h.c.length h.c) (e : treeO h root = some b) :
    Calls Try.prog 37 #[.agg #[.slice A h.c.length c, .int .i64 h.keep], .int .i64 root] w fun e w' => e = .returned (.bool b) ∧ Below w.heap.size w w' := by
  obtain ⟨W1, hW1⟩ : ∃ W1, W1 = w.alloc (.cells #[.slice A h.c.length c, .int .i64 h.keep] 24) := ⟨_, rfl⟩
  have HB0 := Aside0.mk (show Below w.heap.size w W1 by rw [hW1]; exact below_alloc (Below.refl _ _) _)
  have HBH := Aside0.mk (show W1.heap[w.heap.size]? = some (.cells #[.slice A h.c.length c, .int .i64 h.keep] 24) by rw [hW1]; exact blk_new w _)
  have HUW := Aside0.mk (fun (W : World) (hb : Below W1.heap.size W1 W) => refUsed_walk A c h root W (Kd.C_below (Kd.C_below hr HB0.out) hb))
  have HR1 := Aside0.mk (Kd.C_below hr HB0.out)
  have b0 := (blk_cell HBH.out 0).trans (show _ = some (Value.slice A h.c.length c) from rfl)
  have b1 := (blk_cell HBH.out 1).trans (show _ = some (Value.int .i64 h.keep) from rfl)
  have hW1' := Aside0.mk hW1
  clear hr hW1
  unfold treeO at e
  by_cases h1 : root = -1
  · rw [if_pos h1] at e
    obtain rfl : true = b := by simpa using e
    have q1 : (root == -1) = true := beq_iff_eq.mpr h1
    have HH := Aside0.mk h1
    clear h1 e
    go_enter Try.func37, Try.ntmps37
    go_wp2
    go_ret
    exact ⟨rfl, by repeat (first | (with_reducible exact Below.refl _ _) | (with_reducible refine below_alloc ?_ _) | (with_reducible refine below_drew1 ?_) | (with_reducible refine pw_below_drewN ?_ _) | fail)⟩
  rw [if_neg h1] at e
  have q1 : (root == -1) = false := beq_eq_false_iff_ne.mpr h1
  clear h1
  obtain ⟨u, hu⟩ : ∃ u, u = usedB h root := ⟨_, rfl⟩
  rw [← hu] at e HUW
  clear hu
  cases u with
  | false =>
    obtain rfl : false = b := by simpa using e
    clear e
    go_enter Try.func37, Try.ntmps37
    go_upto_region 3 with (fail)
    rw [← hW1'.out]
    go_wp2_with (first | (go_at_call 67; (with_reducible refine (HUW.out _ (by repeat (first | (with_reducible exact Below.refl _ _) | (with_reducible refine below_alloc ?_ _) | (with_reducible refine below_drew1 ?_) | (with_reducible refine pw_below_drewN ?_ _) | fail))).mono ?_); rintro e w2 ⟨rfl, hb2⟩; have HB2 := Aside0.mk hb2; clear hb2) | fail)
    go_ret
    exact ⟨rfl, below_step HB0.out HB2.out⟩
  | true =>
    rw [if_pos rfl] at e
    cases hq : belowO 20 h root with
    | none => rw [hq] at e; cases e
    | some z =>
      rw [hq] at e
      obtain rfl : z.is = b := by simpa using e
      have HBL := Aside0.mk (fun (W : World) (hb : Below W1.heap.size W1 W) => below_walk 20 A c h root z W (by decide) (Kd.C_below HR1.out hb) hq)
      rw [show ((20 : Nat) : Int) = 20 from rfl] at HBL
      clear e hq
      go_enter Try.func37, Try.ntmps37
      go_upto_region 3 with (fail)
      rw [← hW1'.out]
      go_wp2_with (first | (go_at_call 67; (with_reducible refine (HUW.out _ (by repeat (first | (with_reducible exact Below.refl _ _) | (with_reducible refine below_alloc ?_ _) | (with_reducible refine below_drew1 ?_) | (with_reducible refine pw_below_drewN ?_ _) | fail))).mono ?_); rintro e w2 ⟨rfl, hb2⟩; have HB2 := Aside0.mk hb2; have d0 := bcell hb2 b0; have d1 := bcell hb2 b1; clear hb2) | (go_at_call 68; (with_reducible refine (HBL.out _ HB2.out).mono ?_); rintro e w3 ⟨rfl, hb3⟩; have HB3 := Aside0.mk (below_step HB2.out hb3); clear hb3) | fail)
      go_ret
      exact ⟨rfl, by repeat (first | (with_reducible exact Below.refl _ _) | (with_reducible refine below_alloc ?_ _) | (with_reducible refine below_drew1 ?_) | (with_reducible refine pw_below_drewN ?_ _) | (with_reducible exact below_step HB0.out HB3.out))⟩
def may7O (h : Hp) (root : Int) (most : Nat) : Option Bool := if mayB h most = true then treeO h root else some false
theorem may07_walk (A : Option Addr) (c : Nat) (h : Hp) (root : Int) (most : Nat) (b : Bool) (w : World) (hr : kCl.C w A h.c.length h.c) (e : may7O h root most = some b) :
    Calls Try.prog 12 #[.agg #[.slice A h.c.length c, .int .i64 h.keep], .int .i64 root, .int .i64 most] w fun e w' => e = .returned (.bool b) ∧ Below w.heap.size w w' := by
  obtain ⟨W1, hW1⟩ : ∃ W1, W1 = w.alloc (.cells #[.slice A h.c.length c, .int .i64 h.keep] 24) := ⟨_, rfl⟩
  have HB0 := Aside0.mk (show Below w.heap.size w W1 by rw [hW1]; exact below_alloc (Below.refl _ _) _)
  have HBH := Aside0.mk (show W1.heap[w.heap.size]? = some (.cells #[.slice A h.c.length c, .int .i64 h.keep] 24) by rw [hW1]; exact blk_new w _)
  have HMW := Aside0.mk (fun (W : World) (hb : Below W1.heap.size W1 W) => may05_walk A c h most W (Kd.C_below (Kd.C_below hr HB0.out) hb))
  have HR1 := Aside0.mk (Kd.C_below hr HB0.out)
  have b0 := (blk_cell HBH.out 0).trans (show _ = some (Value.slice A h.c.length c) from rfl)
  have b1 := (blk_cell HBH.out 1).trans (show _ = some (Value.int .i64 h.keep) from rfl)
  have hW1' := Aside0.mk hW1
  clear hr hW1
  unfold may7O at e
  obtain ⟨u, hu⟩ : ∃ u, u = mayB h most := ⟨_, rfl⟩
  rw [← hu] at e HMW
  clear hu
  cases u with
  | false =>
    obtain rfl : false = b := by simpa using e
    clear e
    go_enter Try.func12, Try.ntmps12
    go_upto_region 1 with (fail)
    rw [← hW1'.out]
    go_wp2_with (first | (go_at_call 36; (with_reducible refine (HMW.out _ (by repeat (first | (with_reducible exact Below.refl _ _) | (with_reducible refine below_alloc ?_ _) | (with_reducible refine below_drew1 ?_) | (with_reducible refine pw_below_drewN ?_ _) | fail))).mono ?_); rintro e w2 ⟨rfl, hb2⟩; have HB2 := Aside0.mk hb2; clear hb2) | fail)
    go_ret
    exact ⟨rfl, below_step HB0.out HB2.out⟩
  | true =>
    rw [if_pos rfl] at e
    have HTW := Aside0.mk (fun (W : World) (hb : Below W1.heap.size W1 W) => right07_walk A c h root b W (Kd.C_below HR1.out hb) e)
    clear e
    go_enter Try.func12, Try.ntmps12
    go_upto_region 1 with (fail)
    rw [← hW1'.out]
    go_wp2_with (first | (go_at_call 36; (with_reducible refine (HMW.out _ (by repeat (first | (with_reducible exact Below.refl _ _) | (with_reducible refine below_alloc ?_ _) | (with_reducible refine below_drew1 ?_) | (with_reducible refine pw_below_drewN ?_ _) | fail))).mono ?_); rintro e w2 ⟨rfl, hb2⟩; have HB2 := Aside0.mk hb2; have d0 := bcell hb2 b0; have d1 := bcell hb2 b1; clear hb2) | (go_at_call 37; (with_reducible refine (HTW.out _ HB2.out).mono ?_); rintro e w3 ⟨rfl, hb3⟩; have HB3 := Aside0.mk (below_step HB2.out hb3); clear hb3) | fail)
    go_ret
    exact ⟨rfl, below_step HB0.out HB3.out⟩
set_option maxHeartbeats 2000000 in
theorem get07_walk (f : Nat) (A : Option Addr) (c : Nat) (h : Hp) (root key : Int) (l : List It) (w : World) (hr : kCl.C w A h.c.length h.c) (e : listO f h root = some l) :
    Calls Try.prog 25 #[.agg #[.slice A h.c.length c, .int .i64 h.keep], .int .i64 root, .int .i64 key] w fun e w' => e = .returned (.tuple #[.int .i64 (getL l key).1, .int .i64 (getL l key).2]) ∧ Below w.heap.size w w' := by
  obtain ⟨W1, hW1⟩ : ∃ W1, W1 = w.alloc (.cells #[.slice A h.c.length c, .int .i64 h.keep] 24) := ⟨_, rfl⟩
  have HB0 := Aside0.mk (show Below w.heap.size w W1 by rw [hW1]; exact below_alloc (Below.refl _ _) _)
  have HBH := Aside0.mk (show W1.heap[w.heap.size]? = some (.cells #[.slice A h.c.length c, .int .i64 h.keep] 24) by rw [hW1]; exact blk_new w _)
  have HLW := Aside0.mk (fun (W : World) (hb : Below W1.heap.size W1 W) => list_walk f A c h root l W (Kd.C_below (Kd.C_below hr HB0.out) hb) e)
  have b0 := (blk_cell HBH.out 0).trans (show _ = some (Value.slice A h.c.length c) from rfl)
  have b1 := (blk_cell HBH.out 1).trans (show _ = some (Value.int .i64 h.keep) from rfl)
  have HLN := Aside0.mk (listO_len e)
  have hW1' := Aside0.mk hW1
  clear hr hW1 e
  go_enter Try.func25, Try.ntmps25
  go_upto_region 1 with (fail)
  rw [← hW1'.out]
  go_wp2_with (first | (go_at_call 24; (with_reducible refine (HLW.out _ (by repeat (first | (with_reducible exact Below.refl _ _) | (with_reducible refine below_alloc ?_ _) | (with_reducible refine below_drew1 ?_) | (with_reducible refine pw_below_drewN ?_ _) | fail))).mono ?_); rintro e w2 ⟨B, cb, rfl, hcb, hB, hb2⟩; have HB2 := Aside0.mk (below_step HB0.out hb2); have HBB := Aside0.mk hB; clear hb2 hB hcb) | fail)
  go_loopg [9] l.length (fun g s9 wr => ∃ k : Nat, s9 = .int .i64 k ∧ k + g = l.length ∧ Aside0 (∀ i, i < k → (itAt l i).k ≠ key) ∧ Aside0 (wr = w2))
  case atStart => exact ⟨0, rfl, by omega, ⟨fun i h => by omega⟩, ⟨rfl⟩⟩
  case round =>
    obtain ⟨k, rfl, hk, HO, HE⟩ := hrel
    have he := HE.out
    subst he
    by_cases hlt : k < l.length
    · obtain ⟨g1, rfl⟩ : ∃ g1, gk = g1 + 1 := ⟨gk - 1, by omega⟩
      have r1 : decide (k < l.length) = true := decide_eq_true hlt
      have r2 : (k < l.length) = True := eq_true hlt
      obtain ⟨ad, rfl, x0, x1⟩ := at_it HBB.out k hlt
      obtain ⟨x, hx⟩ : ∃ x, x = itAt l k := ⟨_, rfl⟩
      rw [← hx] at x0 x1
      have HX := Aside0.mk hx
      have HK := Aside0.mk (And.intro hlt hk)
      have HW := Aside0.mk (show wrap64 ((k : Int) + 1) = ((k + 1 : Nat) : Int) by have := HLN.out; unfold wrap64; omega)
      by_cases ek : x.k = key
      · have q1 : (x.k == key) = true := beq_iff_eq.mpr ek
        have HG := Aside0.mk (find_at k hlt HO.out (by rw [← hx]; exact ek))
        clear hx hk hlt ek
        go_wp2
        go_ret2
        exact ⟨by rw [HG.out, ← HX.out]; rfl, HB2.out⟩
      · have q1 : (x.k == key) = false := beq_eq_false_iff_ne.mpr ek
        have HNE := Aside0.mk ek
        clear hx hk hlt ek
        go_wp2
        go_roundg g1
        case measure => omega
        case rel => exact ⟨k + 1, by rw [HW.out], by have := HK.out; omega, ⟨fun i hi => by rcases Nat.lt_or_ge i k with h | h; exact HO.out i h; obtain rfl : i = k := (by omega); rw [← HX.out]; exact HNE.out⟩, ⟨rfl⟩⟩
    · have r1 : decide (k < l.length) = false := decide_eq_false hlt
      have r2 : (k < l.length) = False := eq_false hlt
      have HG := Aside0.mk (find_none (l := l) (key := key) (fun i hi => HO.out i (by omega)))
      clear hlt hk
      go_wp2
      go_ret2
      exact ⟨by rw [HG.out]; rfl, HB2.out⟩
end Go.Proofs.Ytopkoganfnabgaa.H
namespace Go.Proofs.Ytopkoganfnabgaa.H
open Go.RowKit Go.Proofs.YtopkoganfnabgaaW.PrintWords Go.Proofs.YtopkoganfnabgaaW.PrintLast Go.Proofs.YtopkoganfnabgaaW.PrintMore
attribute [local go_sem] max2_int min2_int max_two min_two max_three min_three max_four min_four
set_option linter.unusedVariables false
set_option linter.unusedSimpArgs false
set_option maxHeartbeats 4000000 in
set_option maxRecDepth 100000 in
theorem sound_walk (A Ar : Option Addr) (c cr : Nat) (h : Hp) (roots : List Int) (w : World) (hr : kCl.C w A h.c.length h.c) (hrr : (Kd.int .i64).C w Ar roots.length roots) (hl : h.c.length ≤ 2000) (hl1 : 1 ≤ h.c.length) (hrl : roots.length ≤ 1000) (hit : ∀ i, i < h.c.length → (h.c.getD i zCl).n.it.length ≤ 10) :
    Calls Try.prog 55 #[.agg #[.slice A h.c.length c, .int .i64 h.keep], .slice Ar roots.length cr, .slice none 0 0] w fun e w' => e = .returned (.bool (soundB h roots)) ∧ Below w.heap.size w w' := by
  obtain ⟨W1, hW1⟩ : ∃ W1, W1 = w.alloc (.cells #[.slice A h.c.length c, .int .i64 h.keep] 24) := ⟨_, rfl⟩
  have HB0 := Aside0.mk (show Below w.heap.size w W1 by rw [hW1]; exact below_alloc (Below.refl _ _) _)
  have HBH := Aside0.mk (show W1.heap[w.heap.size]? = some (.cells #[.slice A h.c.length c, .int .i64 h.keep] 24) by rw [hW1]; exact blk_new w _)
  have HRF := Aside0.mk (fun (W : World) (hb : Below W1.heap.size W1 W) => refs_walk A Ar c cr h roots W (Kd.C_below (Kd.C_below hr HB0.out) hb) (Kd.C_below (Kd.C_below hrr HB0.out) hb) hl hrl hit)
  have HHD := Aside0.mk (fun (W : World) (hb : Below W1.heap.size W1 W) => held_walk A Ar c cr h roots W (Kd.C_below (Kd.C_below hr HB0.out) hb) (Kd.C_below (Kd.C_below hrr HB0.out) hb) hl hl1 hrl hit)
  have HR1 := Aside0.mk (Kd.C_below hr HB0.out)
  have HL := Aside0.mk hl
  have c0 := (blk_cell HBH.out 0).trans (show _ = some (Value.slice A h.c.length c) from rfl)
  have c1 := (blk_cell HBH.out 1).trans (show _ = some (Value.int .i64 h.keep) from rfl)
  have hW1' := Aside0.mk hW1
  clear hr hrr hW1 hit hrl hl hl1
  go_enter Try.func55, Try.ntmps55
  go_upto_region 1 with (fail)
  rw [← hW1'.out]
  go_upto_region 3 with (first | (go_at_call 90; (with_reducible refine (HRF.out _ (by repeat (first | (with_reducible exact Below.refl _ _) | (with_reducible refine below_alloc ?_ _) | (with_reducible refine below_drew1 ?_) | (with_reducible refine pw_below_drewN ?_ _) | fail))).mono ?_); rintro e w2 ⟨B2, cb2, rfl, hB2, hb2⟩; have HB2 := Aside0.mk hb2; have HR2 := Aside0.mk hB2; have d0 := bcell hb2 c0; have d1 := bcell hb2 c1; clear hb2 hB2) | (go_at_call 91; (with_reducible refine (HHD.out _ HB2.out).mono ?_); rintro e w3 ⟨B3, cb3, rfl, hB3, hb3⟩; have HB3 := Aside0.mk (below_step HB2.out hb3); have HH3 := Aside0.mk hB3; have HR3 := Aside0.mk (Kd.C_below HR2.out hb3); clear hb3 hB3) | fail)
  go_wp2
  clear c0 c1 d0 d1
  go_loopg [9] h.c.length (fun g s9 wr => ∃ k : Nat, s9 = .int .i64 k ∧ k + g = h.c.length ∧ Aside0 (∀ i, i < k → soundAt h roots i = true) ∧ Aside0 (Below w3.heap.size w3 wr))
  case atStart => exact ⟨0, rfl, by omega, ⟨fun i h => by omega⟩, ⟨Below.refl _ _⟩⟩
  case round =>
    obtain ⟨k, rfl, hk, HO, HB⟩ := hrel
    have HBW := Aside0.mk (below_step HB3.out HB.out)
    have b0 := (blk_cell (blk_below HBH.out HBW.out) 0).trans (show _ = some (Value.slice A h.c.length c) from rfl)
    by_cases hlt : k < h.c.length
    · obtain ⟨g1, rfl⟩ : ∃ g1, gk = g1 + 1 := ⟨gk - 1, by omega⟩
      have r1 : decide (k < h.c.length) = true := decide_eq_true hlt
      have r2 : (k < h.c.length) = True := eq_true hlt
      obtain ⟨ad, B, cb, rfl, x0, _⟩ := at_cl (Kd.C_below HR1.out HBW.out) k hlt
      obtain ⟨ad2, rfl, y0⟩ := Kd.at_int (Kd.C_below HR3.out HB.out) (k : Int) (by omega) (by omega)
      obtain ⟨ad3, rfl, z0⟩ := Kd.at_bool (Kd.C_below HH3.out HB.out) (k : Int) (by omega) (by omega)
      rw [Int.toNat_natCast] at y0 z0
      have hsa : soundAt h roots k = (decide ((h.c.getD k zCl).ref = (refsN h roots k : Int)) && (heldB h roots 25 k == decide (0 < (h.c.getD k zCl).ref))) := rfl
      rw [show rd (refsL h roots h.c.length) (k : Int) = (refsN h roots k : Int) by unfold rd refsL; rw [Int.toNat_natCast, List.getD_eq_getElem?_getD, List.getElem?_map, List.getElem?_range hlt]; rfl] at y0
      rw [show rdOf false (rowB (heldB h roots 25) h.c.length) (k : Int) = heldB h roots 25 k by unfold rdOf; rw [Int.toNat_natCast]; exact rowB_get _ _ k hlt] at z0
      obtain ⟨x, hx⟩ : ∃ x, x = (h.c.getD k zCl).ref := ⟨_, rfl⟩
      obtain ⟨R, hR⟩ : ∃ R : Int, R = (refsN h roots k : Int) := ⟨_, rfl⟩
      obtain ⟨H, hH⟩ : ∃ H, H = heldB h roots 25 k := ⟨_, rfl⟩
      rw [← hx, ← hR, ← hH] at hsa
      rw [← hx] at x0
      rw [← hR] at y0
      rw [← hH] at z0
      have HK := Aside0.mk (And.intro hlt hk)
      have HW := Aside0.mk (show wrap64 ((k : Int) + 1) = ((k + 1 : Nat) : Int) by have := HL.out; unfold wrap64; omega)
      clear hx hR hH hlt hk
      by_cases e1 : x = R
      · have d1 : (x != R) = false := bne_f e1
        rw [decide_eq_true e1] at hsa
        obtain ⟨P, hP⟩ : ∃ P, P = decide (0 < x) := ⟨_, rfl⟩
        have d2 := hP.symm
        rw [← hP] at hsa
        clear hP e1
        cases H <;> cases P
        · have HS := Aside0.mk (show soundAt h roots k = true by rw [hsa]; rfl)
          clear hsa
          go_wp2
          go_quiet (fail)
          go_wp2
          go_roundg g1
          case measure => omega
          case rel => exact ⟨k + 1, by rw [HW.out], by have := HK.out; omega, ⟨fun i hi => by rcases Nat.lt_or_ge i k with h | h; exact HO.out i h; obtain rfl : i = k := (by omega); exact HS.out⟩, ⟨by repeat (first | (with_reducible exact Below.refl _ _) | (with_reducible refine below_alloc ?_ _) | (with_reducible refine below_drew1 ?_) | (with_reducible refine pw_below_drewN ?_ _) | (with_reducible exact HB.out))⟩⟩
        · have HF := Aside0.mk (show soundB h roots = false from all_false HK.out.1 (by rw [hsa]; rfl))
          clear hsa
          go_wp2
          go_quiet (fail)
          go_wp2
          go_ret
          exact ⟨ret_b HF.out.symm, by repeat (first | (with_reducible exact Below.refl _ _) | (with_reducible refine below_alloc ?_ _) | (with_reducible refine below_drew1 ?_) | (with_reducible refine pw_below_drewN ?_ _) | (with_reducible exact below_step HB0.out HBW.out))⟩
        · have HF := Aside0.mk (show soundB h roots = false from all_false HK.out.1 (by rw [hsa]; rfl))
          clear hsa
          go_wp2
          go_quiet (fail)
          go_wp2
          go_ret
          exact ⟨ret_b HF.out.symm, by repeat (first | (with_reducible exact Below.refl _ _) | (with_reducible refine below_alloc ?_ _) | (with_reducible refine below_drew1 ?_) | (with_reducible refine pw_below_drewN ?_ _) | (with_reducible exact below_step HB0.out HBW.out))⟩
        · have HS := Aside0.mk (show soundAt h roots k = true by rw [hsa]; rfl)
          clear hsa
          go_wp2
          go_quiet (fail)
          go_wp2
          go_roundg g1
          case measure => omega
          case rel => exact ⟨k + 1, by rw [HW.out], by have := HK.out; omega, ⟨fun i hi => by rcases Nat.lt_or_ge i k with h | h; exact HO.out i h; obtain rfl : i = k := (by omega); exact HS.out⟩, ⟨by repeat (first | (with_reducible exact Below.refl _ _) | (with_reducible refine below_alloc ?_ _) | (with_reducible refine below_drew1 ?_) | (with_reducible refine pw_below_drewN ?_ _) | (with_reducible exact HB.out))⟩⟩
      · have d1 : (x != R) = true := bne_t e1
        have HF := Aside0.mk (show soundB h roots = false from all_false HK.out.1 (by rw [hsa, decide_eq_false e1]; rfl))
        clear hsa e1
        go_wp2
        go_quiet (fail)
        go_wp2
        go_ret
        exact ⟨ret_b HF.out.symm, by repeat (first | (with_reducible exact Below.refl _ _) | (with_reducible refine below_alloc ?_ _) | (with_reducible refine below_drew1 ?_) | (with_reducible refine pw_below_drewN ?_ _) | (with_reducible exact below_step HB0.out HBW.out))⟩
    · have r1 : decide (k < h.c.length) = false := decide_eq_false hlt
      have r2 : (k < h.c.length) = False := eq_false hlt
      have HF := Aside0.mk (show soundB h roots = true from all_true (fun i hi => HO.out i (by omega)))
      clear hlt hk
      go_wp2
      go_ret
      exact ⟨ret_b HF.out.symm, below_step HB0.out HBW.out⟩
end Go.Proofs.Ytopkoganfnabgaa.H
namespace Go.Proofs.Ytopkoganfnabgaa.H
open Go.RowKit Go.Proofs.YtopkoganfnabgaaW.PrintWords Go.Proofs.YtopkoganfnabgaaW.PrintLast Go.Proofs.YtopkoganfnabgaaW.PrintMore
attribute [local go_sem] max2_int min2_int max_two min_two max_three min_three max_four min_four
set_option linter.unusedVariables false
set_option linter.unusedSimpArgs false
def anyO (h : Hp) (roots : List Int) : Option Bool := if rightB h = true then anyL h roots else some false
def may8O (h : Hp) (roots : List Int) (most : Nat) : Option Bool := if (smallB h most && decide (roots.length ≤ 20)) = true then anyO h roots else some false
def fineO (h : Hp) (roots : List Int) (most : Nat) : Option Bool := match may8O h roots most with
  | none => none
  | some b => if b then some (soundB h roots) else some false
theorem drop_atI (l : List Int) (k : Nat) (hk : k < l.length) : l.drop k = rd l (k : Int) :: l.drop (k + 1) := by
  rw [List.drop_eq_getElem_cons hk]
  unfold rd
  rw [Int.toNat_natCast, List.getD_eq_getElem?_getD, List.getElem?_eq_getElem hk]
  rfl
set_option maxHeartbeats 4000000 in
set_option maxRecDepth 100000 in
theorem any_walk (A Ar : Option Addr) (c cr : Nat) (h : Hp) (roots : List Int) (b : Bool) (w : World) (hr : kCl.C w A h.c.length h.c) (hrr : (Kd.int .i64).C w Ar roots.length roots) (e : anyO h roots = some b) :
    Calls Try.prog 89 #[.agg #[.slice A h.c.length c, .int .i64 h.keep], .slice Ar roots.length cr, .slice none 0 0] w fun e w' => e = .returned (.bool b) ∧ Below w.heap.size w w' := by
  have hmr := Kd.C_max hrr
  obtain ⟨W1, hW1⟩ : ∃ W1, W1 = w.alloc (.cells #[.slice A h.c.length c, .int .i64 h.keep] 24) := ⟨_, rfl⟩
  have HB0 := Aside0.mk (show Below w.heap.size w W1 by rw [hW1]; exact below_alloc (Below.refl _ _) _)
  have HBH := Aside0.mk (show W1.heap[w.heap.size]? = some (.cells #[.slice A h.c.length c, .int .i64 h.keep] 24) by rw [hW1]; exact blk_new w _)
  have HRT := Aside0.mk (fun (W : World) (hb : Below W1.heap.size W1 W) => right05_walk A c h W (Kd.C_below (Kd.C_below hr HB0.out) hb))
  have HR1 := Aside0.mk (Kd.C_below hr HB0.out)
  have HRR := Aside0.mk (Kd.C_below hrr HB0.out)
  have c0 := (blk_cell HBH.out 0).trans (show _ = some (Value.slice A h.c.length c) from rfl)
  have c1 := (blk_cell HBH.out 1).trans (show _ = some (Value.int .i64 h.keep) from rfl)
  have hW1' := Aside0.mk hW1
  clear hr hrr hW1
  unfold anyO at e
  obtain ⟨u, hu⟩ : ∃ u, u = rightB h := ⟨_, rfl⟩
  rw [← hu] at e HRT
  clear hu
  cases u with
  | false =>
    obtain rfl : false = b := by simpa using e
    clear e
    go_enter Try.func89, Try.ntmps89
    go_upto_region 1 with (fail)
    rw [← hW1'.out]
    go_wp2_with (first | (go_at_call 66; (with_reducible refine (HRT.out _ (by repeat (first | (with_reducible exact Below.refl _ _) | (with_reducible refine below_alloc ?_ _) | (with_reducible refine below_drew1 ?_) | (with_reducible refine pw_below_drewN ?_ _) | fail))).mono ?_); rintro e w2 ⟨rfl, hb2⟩; have HB2 := Aside0.mk hb2; have d0 := bcell hb2 c0; have d1 := bcell hb2 c1; clear hb2) | (go_at_call 104; (with_reducible refine (right06_walk _ _).mono ?_); rintro e w' ⟨rfl, rfl⟩) | fail)
    go_ret
    exact ⟨rfl, below_step HB0.out HB2.out⟩
  | true =>
    rw [if_pos rfl] at e
    have HE := Aside0.mk e
    clear e
    go_enter Try.func89, Try.ntmps89
    go_upto_region 1 with (fail)
    rw [← hW1'.out]
    go_wp2_with (first | (go_at_call 66; (with_reducible refine (HRT.out _ (by repeat (first | (with_reducible exact Below.refl _ _) | (with_reducible refine below_alloc ?_ _) | (with_reducible refine below_drew1 ?_) | (with_reducible refine pw_below_drewN ?_ _) | fail))).mono ?_); rintro e w2 ⟨rfl, hb2⟩; have HB2 := Aside0.mk hb2; have d0 := bcell hb2 c0; have d1 := bcell hb2 c1; clear hb2) | (go_at_call 104; (with_reducible refine (right06_walk _ _).mono ?_); rintro e w' ⟨rfl, rfl⟩) | fail)
    clear c0 c1 d0 d1
    go_loopg [9] roots.length (fun g s9 wr => ∃ k : Nat, s9 = .int .i64 k ∧ k + g = roots.length ∧ Aside0 (anyL h (roots.drop k) = some b) ∧ Aside0 (Below W1.heap.size W1 wr))
    case atStart => exact ⟨0, rfl, by omega, HE, HB2⟩
    case round =>
      obtain ⟨k, rfl, hk, HO, HB⟩ := hrel
      have b0 := (blk_cell (blk_below HBH.out HB.out) 0).trans (show _ = some (Value.slice A h.c.length c) from rfl)
      have b1 := (blk_cell (blk_below HBH.out HB.out) 1).trans (show _ = some (Value.int .i64 h.keep) from rfl)
      by_cases hlt : k < roots.length
      · obtain ⟨g1, rfl⟩ : ∃ g1, gk = g1 + 1 := ⟨gk - 1, by omega⟩
        have r1 : decide (k < roots.length) = true := decide_eq_true hlt
        have r2 : (k < roots.length) = True := eq_true hlt
        obtain ⟨ad2, rfl, y0⟩ := Kd.at_int (Kd.C_below HRR.out HB.out) (k : Int) (by omega) (by omega)
        rw [Int.toNat_natCast] at y0
        have ho := HO.out
        rw [drop_atI _ _ hlt, anyL] at ho
        obtain ⟨r, hrt⟩ : ∃ r, r = rd roots (k : Int) := ⟨_, rfl⟩
        rw [← hrt] at y0 ho
        cases hq : treeO h r with
        | none => rw [hq] at ho; cases ho
        | some t =>
          rw [hq] at ho
          have HTW := Aside0.mk (fun (W : World) (hb : Below W1.heap.size W1 W) => right07_walk A c h r t W (Kd.C_below HR1.out hb) hq)
          have HK := Aside0.mk (And.intro hlt hk)
          have HW := Aside0.mk (show wrap64 ((k : Int) + 1) = ((k + 1 : Nat) : Int) by unfold wrap64; omega)
          clear hq hrt hlt hk
          cases t with
          | false =>
            obtain rfl : false = b := by simpa using ho
            clear ho
            go_wp2
            go_still_tail 5, (by kernel_rfl)
            go_wp2_with (first | (go_at_call 37; (with_reducible refine (HTW.out _ (by repeat (first | (with_reducible exact Below.refl _ _) | (with_reducible refine below_alloc ?_ _) | (with_reducible refine below_drew1 ?_) | (with_reducible refine pw_below_drewN ?_ _) | (with_reducible exact HB.out)))).mono ?_); rintro e w3 ⟨rfl, hb3⟩; have HB3 := Aside0.mk (show Below W1.heap.size W1 w3 from below_step (by repeat (first | (with_reducible exact Below.refl _ _) | (with_reducible refine below_alloc ?_ _) | (with_reducible refine below_drew1 ?_) | (with_reducible refine pw_below_drewN ?_ _) | (with_reducible exact HB.out))) hb3); clear hb3) | fail)
            go_ret
            exact ⟨rfl, below_step HB0.out HB3.out⟩
          | true =>
            have HA := Aside0.mk (show anyL h (roots.drop (k + 1)) = some b from ho)
            clear ho
            go_wp2
            go_still_tail 5, (by kernel_rfl)
            go_wp2_with (first | (go_at_call 37; (with_reducible refine (HTW.out _ (by repeat (first | (with_reducible exact Below.refl _ _) | (with_reducible refine below_alloc ?_ _) | (with_reducible refine below_drew1 ?_) | (with_reducible refine pw_below_drewN ?_ _) | (with_reducible exact HB.out)))).mono ?_); rintro e w3 ⟨rfl, hb3⟩; have HB3 := Aside0.mk (show Below W1.heap.size W1 w3 from below_step (by repeat (first | (with_reducible exact Below.refl _ _) | (with_reducible refine below_alloc ?_ _) | (with_reducible refine below_drew1 ?_) | (with_reducible refine pw_below_drewN ?_ _) | (with_reducible exact HB.out))) hb3); clear hb3) | fail)
            go_roundg g1
            case measure => omega
            case rel => exact ⟨k + 1, by rw [HW.out], by have := HK.out; omega, HA, HB3⟩
      · have r1 : decide (k < roots.length) = false := decide_eq_false hlt
        have r2 : (k < roots.length) = False := eq_false hlt
        have ho := HO.out
        rw [List.drop_eq_nil_of_le (by omega), anyL] at ho
        obtain rfl : true = b := by simpa using ho
        clear ho hlt hk
        go_wp2
        refine wp_loop_rounds 1 ?_
        rw [rounds_succ]; go_wp2
        go_ret
        exact ⟨rfl, below_step HB0.out HB.out⟩
theorem may08_walk (A Ar : Option Addr) (c cr : Nat) (h : Hp) (roots : List Int) (most : Nat) (b : Bool) (w : World) (hr : kCl.C w A h.c.length h.c) (hrr : (Kd.int .i64).C w Ar roots.length roots) (e : may8O h roots most = some b) :
    Calls Try.prog 54 #[.agg #[.slice A h.c.length c, .int .i64 h.keep], .slice Ar roots.length cr, .slice none 0 0, .int .i64 most] w fun e w' => e = .returned (.bool b) ∧ Below w.heap.size w w' := by
  obtain ⟨W1, hW1⟩ : ∃ W1, W1 = w.alloc (.cells #[.slice A h.c.length c, .int .i64 h.keep] 24) := ⟨_, rfl⟩
  have HB0 := Aside0.mk (show Below w.heap.size w W1 by rw [hW1]; exact below_alloc (Below.refl _ _) _)
  have HBH := Aside0.mk (show W1.heap[w.heap.size]? = some (.cells #[.slice A h.c.length c, .int .i64 h.keep] 24) by rw [hW1]; exact blk_new w _)
  have HSW := Aside0.mk (fun (W : World) (hb : Below W1.heap.size W1 W) => small_walk A c h most W (Kd.C_below (Kd.C_below hr HB0.out) hb))
  have HR1 := Aside0.mk (Kd.C_below hr HB0.out)
  have HRR := Aside0.mk (Kd.C_below hrr HB0.out)
  have c0 := (blk_cell HBH.out 0).trans (show _ = some (Value.slice A h.c.length c) from rfl)
  have c1 := (blk_cell HBH.out 1).trans (show _ = some (Value.int .i64 h.keep) from rfl)
  have hW1' := Aside0.mk hW1
  clear hr hrr hW1
  unfold may8O at e
  obtain ⟨u, hu⟩ : ∃ u, u = smallB h most := ⟨_, rfl⟩
  rw [← hu] at e HSW
  clear hu
  cases u with
  | false =>
    obtain rfl : false = b := by simpa using e
    clear e
    go_enter Try.func54, Try.ntmps54
    go_upto_region 1 with (fail)
    rw [← hW1'.out]
    go_wp2_with (first | (go_at_call 65; (with_reducible refine (HSW.out _ (by repeat (first | (with_reducible exact Below.refl _ _) | (with_reducible refine below_alloc ?_ _) | (with_reducible refine below_drew1 ?_) | (with_reducible refine pw_below_drewN ?_ _) | fail))).mono ?_); rintro e w2 ⟨rfl, hb2⟩; have HB2 := Aside0.mk hb2; have d0 := bcell hb2 c0; have d1 := bcell hb2 c1; clear hb2) | fail)
    go_ret
    exact ⟨rfl, below_step HB0.out HB2.out⟩
  | true =>
    by_cases hl : roots.length ≤ 20
    · have q1 : decide ((20 : Int) < (roots.length : Int)) = false := decide_eq_false (by omega)
      have q2 : decide (20 < roots.length) = false := decide_eq_false (by omega)
      rw [decide_eq_true hl] at e
      have HAW := Aside0.mk (fun (W : World) (hb : Below W1.heap.size W1 W) => any_walk A Ar c cr h roots b W (Kd.C_below HR1.out hb) (Kd.C_below HRR.out hb) e)
      clear e hl
      go_enter Try.func54, Try.ntmps54
      go_upto_region 1 with (fail)
      rw [← hW1'.out]
      go_wp2_with (first | (go_at_call 65; (with_reducible refine (HSW.out _ (by repeat (first | (with_reducible exact Below.refl _ _) | (with_reducible refine below_alloc ?_ _) | (with_reducible refine below_drew1 ?_) | (with_reducible refine pw_below_drewN ?_ _) | fail))).mono ?_); rintro e w2 ⟨rfl, hb2⟩; have HB2 := Aside0.mk hb2; have d0 := bcell hb2 c0; have d1 := bcell hb2 c1; clear hb2) | (go_at_call 89; (with_reducible refine (HAW.out _ HB2.out).mono ?_); rintro e w3 ⟨rfl, hb3⟩; have HB3 := Aside0.mk (below_step HB2.out hb3); clear hb3) | fail)
      go_ret
      exact ⟨rfl, below_step HB0.out HB3.out⟩
    · have q1 : decide ((20 : Int) < (roots.length : Int)) = true := decide_eq_true (by omega)
      have q2 : decide (20 < roots.length) = true := decide_eq_true (by omega)
      rw [decide_eq_false hl] at e
      obtain rfl : false = b := by simpa using e
      clear e hl
      go_enter Try.func54, Try.ntmps54
      go_upto_region 1 with (fail)
      rw [← hW1'.out]
      go_wp2_with (first | (go_at_call 65; (with_reducible refine (HSW.out _ (by repeat (first | (with_reducible exact Below.refl _ _) | (with_reducible refine below_alloc ?_ _) | (with_reducible refine below_drew1 ?_) | (with_reducible refine pw_below_drewN ?_ _) | fail))).mono ?_); rintro e w2 ⟨rfl, hb2⟩; have HB2 := Aside0.mk hb2; have d0 := bcell hb2 c0; have d1 := bcell hb2 c1; clear hb2) | fail)
      go_ret
      exact ⟨rfl, below_step HB0.out HB2.out⟩
theorem may8_facts {h : Hp} {roots : List Int} {most : Nat} (e : may8O h roots most = some true) : smallB h most = true ∧ roots.length ≤ 20 ∧ rightB h = true ∧ anyL h roots = some true := by
  unfold may8O at e
  split at e
  · rename_i hs
    simp only [Bool.and_eq_true, decide_eq_true_eq] at hs
    unfold anyO at e
    split at e
    · rename_i hr; exact ⟨hs.1, hs.2, hr, e⟩
    · simp at e
  · simp at e
theorem small_facts {h : Hp} {most : Nat} (e : smallB h most = true) : h.c.length ≤ most ∧ ∀ i, i < h.c.length → (h.c.getD i zCl).n.it.length ≤ 10 ∧ (h.c.getD i zCl).ref ≤ 1000000 := by
  unfold smallB at e
  simp only [Bool.and_eq_true, decide_eq_true_eq, List.all_eq_true] at e
  refine ⟨e.1, fun i hi => ?_⟩
  have := e.2 (h.c.getD i zCl) (by rw [List.getD_eq_getElem?_getD, List.getElem?_eq_getElem hi]; exact List.getElem_mem _)
  unfold smallC at this
  simpa using this
theorem rightB_len {h : Hp} (e : rightB h = true) : 1 ≤ h.c.length ∧ h.c.length ≤ 2000 := by
  unfold rightB at e
  simp only [Bool.and_eq_true, decide_eq_true_eq] at e
  exact ⟨e.1, e.2.1⟩
theorem fine_walk (A Ar : Option Addr) (c cr : Nat) (h : Hp) (roots : List Int) (most : Nat) (b : Bool) (w : World) (hr : kCl.C w A h.c.length h.c) (hrr : (Kd.int .i64).C w Ar roots.length roots) (e : fineO h roots most = some b) :
    Calls Try.prog 18 #[.agg #[.slice A h.c.length c, .int .i64 h.keep], .slice Ar roots.length cr, .slice none 0 0, .int .i64 most] w fun e w' => e = .returned (.bool b) ∧ Below w.heap.size w w' := by
  obtain ⟨W1, hW1⟩ : ∃ W1, W1 = w.alloc (.cells #[.slice A h.c.length c, .int .i64 h.keep] 24) := ⟨_, rfl⟩
  have HB0 := Aside0.mk (show Below w.heap.size w W1 by rw [hW1]; exact below_alloc (Below.refl _ _) _)
  have HBH := Aside0.mk (show W1.heap[w.heap.size]? = some (.cells #[.slice A h.c.length c, .int .i64 h.keep] 24) by rw [hW1]; exact blk_new w _)
  have hr1 := Kd.C_below hr HB0.out
  have hrr1 := Kd.C_below hrr HB0.out
  have c0 := (blk_cell HBH.out 0).trans (show _ = some (Value.slice A h.c.length c) from rfl)
  have c1 := (blk_cell HBH.out 1).trans (show _ = some (Value.int .i64 h.keep) from rfl)
  have hW1' := Aside0.mk hW1
  unfold fineO at e
  cases hq : may8O h roots most with
  | none => rw [hq] at e; cases e
  | some t =>
    rw [hq] at e
    have HMW := Aside0.mk (fun (W : World) (hb : Below W1.heap.size W1 W) => may08_walk A Ar c cr h roots most t W (Kd.C_below hr1 hb) (Kd.C_below hrr1 hb) hq)
    cases t with
    | false =>
      obtain rfl : false = b := by simpa using e
      clear e hq hr hrr hr1 hrr1 hW1
      go_enter Try.func18, Try.ntmps18
      go_upto_region 1 with (fail)
      rw [← hW1'.out]
      go_wp2_with (first | (go_at_call 54; (with_reducible refine (HMW.out _ (by repeat (first | (with_reducible exact Below.refl _ _) | (with_reducible refine below_alloc ?_ _) | (with_reducible refine below_drew1 ?_) | (with_reducible refine pw_below_drewN ?_ _) | fail))).mono ?_); rintro e w2 ⟨rfl, hb2⟩; have HB2 := Aside0.mk hb2; have d0 := bcell hb2 c0; have d1 := bcell hb2 c1; clear hb2) | fail)
      go_ret
      exact ⟨rfl, below_step HB0.out HB2.out⟩
    | true =>
      obtain rfl : soundB h roots = b := by simpa using e
      obtain ⟨f1, f2, f3, f4⟩ := may8_facts hq
      obtain ⟨f5, f6⟩ := small_facts f1
      obtain ⟨f7, f8⟩ := rightB_len f3
      have HSW := Aside0.mk (fun (W : World) (hb : Below W1.heap.size W1 W) => sound_walk A Ar c cr h roots W (Kd.C_below hr1 hb) (Kd.C_below hrr1 hb) f8 f7 (by omega) (fun i hi => (f6 i hi).1))
      clear e hq hr hrr hr1 hrr1 hW1 f1 f2 f3 f4 f5 f6 f7 f8
      generalize soundB h roots = s at HSW ⊢
      go_enter Try.func18, Try.ntmps18
      go_upto_region 1 with (fail)
      rw [← hW1'.out]
      go_wp2_with (first | (go_at_call 54; (with_reducible refine (HMW.out _ (by repeat (first | (with_reducible exact Below.refl _ _) | (with_reducible refine below_alloc ?_ _) | (with_reducible refine below_drew1 ?_) | (with_reducible refine pw_below_drewN ?_ _) | fail))).mono ?_); rintro e w2 ⟨rfl, hb2⟩; have HB2 := Aside0.mk hb2; have d0 := bcell hb2 c0; have d1 := bcell hb2 c1; clear hb2) | (go_at_call 55; (with_reducible refine (HSW.out _ HB2.out).mono ?_); rintro e w3 ⟨rfl, hb3⟩; have HB3 := Aside0.mk (below_step HB2.out hb3); clear hb3) | fail)
      go_ret
      exact ⟨rfl, below_step HB0.out HB3.out⟩
end Go.Proofs.Ytopkoganfnabgaa.H
namespace Go.Proofs.Ytopkoganfnabgaa.H
theorem inB_iff {h : Hp} {p : Int} : inB h p = true ↔ 0 ≤ p ∧ p < (h.c.length : Int) := by unfold inB; simp
theorem used_iff {h : Hp} {p : Int} : usedB h p = true ↔ inB h p = true ∧ 0 < (clAt h p).ref := by unfold usedB; simp
theorem len_setH {h : Hp} {p : Int} {c : Cl} : (setH h p c).c.length = h.c.length := by simp [setH]
theorem inB_len {h g : Hp} (e : g.c.length = h.c.length) (q : Int) : inB g q = inB h q := by unfold inB; rw [e]
theorem inB_setH {h : Hp} {p q : Int} {c : Cl} : inB (setH h p c) q = inB h q := inB_len len_setH q
theorem clAt_setH {h : Hp} {p q : Int} {c : Cl} (hp : inB h p = true) (hq : inB h q = true) : clAt (setH h p c) q = if q = p then c else clAt h q := by
  rw [inB_iff] at hp hq
  unfold clAt setH
  simp only [List.getD_eq_getElem?_getD, List.getElem?_set]
  by_cases e : q = p
  · subst e; rw [if_pos rfl, if_pos rfl, if_pos (by omega)]; rfl
  · rw [if_neg e, if_neg (by omega)]
theorem clAt_nat' (h : Hp) (i : Nat) : clAt h (i : Int) = h.c.getD i zCl := by unfold clAt; rw [Int.toNat_natCast]
theorem inB_nat' {h : Hp} {p : Int} (e : inB h p = true) : ∃ i : Nat, p = (i : Int) ∧ i < h.c.length := by
  rw [inB_iff] at e; exact ⟨p.toNat, by omega, by omega⟩
theorem all_cells {h : Hp} {f : Cl → Bool} : h.c.all f = true ↔ ∀ p, inB h p = true → f (clAt h p) = true := by
  rw [List.all_eq_true]
  constructor
  · intro H p hp
    obtain ⟨i, rfl, hi⟩ := inB_nat' hp
    rw [clAt_nat', List.getD_eq_getElem?_getD, List.getElem?_eq_getElem hi]
    exact H _ (List.getElem_mem hi)
  · intro H c hc
    obtain ⟨i, hi, rfl⟩ := List.mem_iff_getElem.mp hc
    have := H (i : Int) (inB_iff.mpr (by omega))
    rw [clAt_nat', List.getD_eq_getElem?_getD, List.getElem?_eq_getElem hi] at this
    exact this
theorem sumN_congr {f g : Nat → Nat} : ∀ {n : Nat}, (∀ i, i < n → f i = g i) → sumN f n = sumN g n
  | 0, _ => rfl
  | n + 1, e => by unfold sumN; rw [sumN_congr (fun i hi => e i (by omega)), e n (by omega)]
theorem sumN_point {f g : Nat → Nat} {k : Nat} : ∀ {n : Nat}, k < n → (∀ i, i < n → i ≠ k → f i = g i) → sumN f n + g k = sumN g n + f k
  | 0, hk, _ => by omega
  | n + 1, hk, e => by
    unfold sumN
    by_cases h : k = n
    · subst h; rw [sumN_congr (fun i hi => e i (by omega) (by omega))]; omega
    · have := sumN_point (n := n) (by omega) (fun i hi hne => e i (by omega) hne)
      rw [e n (by omega) (by omega)]; omega
theorem sumN_mono {f g : Nat → Nat} : ∀ {n : Nat}, (∀ i, i < n → f i ≤ g i) → sumN f n ≤ sumN g n
  | 0, _ => Nat.le_refl _
  | n + 1, e => by unfold sumN; have := sumN_mono (n := n) (fun i hi => e i (by omega)); have := e n (by omega); omega
theorem sumN_const (c : Nat) : ∀ n, sumN (fun _ => c) n = n * c
  | 0 => by simp [sumN]
  | n + 1 => by unfold sumN; rw [sumN_const c n, Nat.succ_mul]
theorem sumN_pos {f : Nat → Nat} {k : Nat} : ∀ {n : Nat}, k < n → f k ≤ sumN f n
  | 0, hk => by omega
  | n + 1, hk => by
    unfold sumN
    by_cases h : k = n
    · subst h; omega
    · have := sumN_pos (f := f) (n := n) (k := k) (by omega); omega
theorem sumN_zero {f : Nat → Nat} {n : Nat} (e : ∀ i, i < n → f i = 0) : sumN f n = 0 := by
  rw [sumN_congr (g := fun _ => 0) e, sumN_const]; simp
theorem sumN_ex {f : Nat → Nat} : ∀ {n : Nat}, 0 < sumN f n → ∃ i, i < n ∧ 0 < f i
  | 0, h => by simp [sumN] at h
  | n + 1, h => by
    unfold sumN at h
    by_cases h0 : 0 < f n
    · exact ⟨n, by omega, h0⟩
    · obtain ⟨i, hi, e⟩ := sumN_ex (n := n) (f := f) (by omega)
      exact ⟨i, by omega, e⟩
theorem filt_sum {α : Type} (l : List α) (p : α → Bool) (z : α) : (l.filter p).length = sumN (fun i => if p (l.getD i z) then 1 else 0) l.length := by
  have : ∀ n, n ≤ l.length → ((l.take n).filter p).length = sumN (fun i => if p (l.getD i z) then 1 else 0) n := by
    intro n
    induction n with
    | zero => intro _; simp [sumN]
    | succ n ih =>
      intro hn
      rw [List.take_add_one, List.filter_append, List.length_append, ih (by omega)]
      show _ = sumN _ n + if p (l.getD n z) then 1 else 0
      rw [List.getElem?_eq_getElem (by omega), List.getD_eq_getElem?_getD, List.getElem?_eq_getElem (by omega)]
      simp only [Option.toList_some, Option.getD_some]
      generalize l[n]'(by omega) = a
      rw [List.filter_cons]
      split <;> rfl
  have := this l.length (Nat.le_refl _)
  rwa [List.take_length] at this
theorem freeN_sum (h : Hp) : freeN h = sumN (fun i => if freeB (clAt h (i : Int)) then 1 else 0) h.c.length := by
  unfold freeN
  rw [filt_sum h.c freeB zCl]
  exact sumN_congr fun i hi => by rw [clAt_nat']
theorem freeN_congr {h g : Hp} (hl : g.c.length = h.c.length) (e : ∀ q, inB h q = true → freeB (clAt g q) = freeB (clAt h q)) : freeN g = freeN h := by
  rw [freeN_sum, freeN_sum, hl]
  exact sumN_congr fun i hi => by rw [e _ (inB_iff.mpr (by omega))]
theorem freeN_point {h g : Hp} {f : Int} (hl : g.c.length = h.c.length) (hf : inB h f = true) (h1 : freeB (clAt h f) = true) (h2 : freeB (clAt g f) = false) (e : ∀ q, inB h q = true → q ≠ f → freeB (clAt g q) = freeB (clAt h q)) : freeN g + 1 = freeN h := by
  obtain ⟨k, rfl, hk⟩ := inB_nat' hf
  rw [freeN_sum, freeN_sum, hl]
  have := sumN_point (f := fun i : Nat => if freeB (clAt g (i : Int)) then 1 else 0) (g := fun i : Nat => if freeB (clAt h (i : Int)) then 1 else 0) hk (n := h.c.length) (fun i hi hne => by show (if _ then 1 else 0) = (if _ then 1 else 0); rw [e (i : Int) (inB_iff.mpr (by omega)) (by omega)])
  simp only [h1, h2] at this
  simpa using this
theorem firstH_spec {h : Hp} (e : 0 < freeN h) : inB h (firstH h : Int) = true ∧ freeB (clAt h (firstH h : Int)) = true := by
  have : ∀ l : List Cl, 0 < (l.filter freeB).length → (l.takeWhile fun c => !freeB c).length < l.length ∧ freeB (l.getD (l.takeWhile fun c => !freeB c).length zCl) = true := by
    intro l
    induction l with
    | nil => intro h; simp at h
    | cons a l ih =>
      intro h
      by_cases ha : freeB a = true
      · simp [ha]
      · have ha' : freeB a = false := by simpa using ha
        rw [List.filter_cons, if_neg ha] at h
        obtain ⟨i1, i2⟩ := ih h
        simp only [List.takeWhile_cons, ha', Bool.not_false, if_true, List.length_cons]
        exact ⟨by omega, by simpa using i2⟩
  obtain ⟨a, b⟩ := this h.c e
  exact ⟨inB_iff.mpr ⟨by omega, by unfold firstH; omega⟩, by rw [clAt_nat']; exact b⟩
structure Ok (h : Hp) (B : Int) : Prop where
  l1 : 1 ≤ h.c.length
  l2 : h.c.length ≤ 2000
  k1 : 0 ≤ h.keep
  k2 : h.keep ≤ (h.c.length : Int)
  pos : ∀ p, inB h p = true → 0 ≤ (clAt h p).ref
  le : ∀ p, inB h p = true → (clAt h p).ref ≤ B
  zero : ∀ p, inB h p = true → (clAt h p).ref = 0 → (clAt h p).n = zNd
  pin : ∀ p, usedB h p = true → (clAt h p).pin = false
  right : ∀ p, usedB h p = true → nodeRight (clAt h p).n = true
  plc : ∀ p, usedB h p = true → (clAt h p).n.leaf = false → ∀ x ∈ (clAt h p).n.it, inB h x.v = true
theorem rightB_ok {h : Hp} : rightB h = true ↔ Ok h 2147483647 := by
  unfold rightB
  simp only [Bool.and_eq_true, decide_eq_true_eq, all_cells]
  constructor
  · rintro ⟨a1, a2, a3, a4, a5⟩
    have H : ∀ p, inB h p = true → ((clAt h p).ref = 0 ∧ (clAt h p).n = zNd) ∨ (0 < (clAt h p).ref ∧ (clAt h p).ref ≤ 2147483647 ∧ (clAt h p).pin = false ∧ nodeRight (clAt h p).n = true ∧ placesB h (clAt h p).n = true) := by
      intro p hp
      have := a5 p hp
      unfold cellB at this
      split at this
      · rename_i h0
        simp only [Bool.and_eq_true, Bool.not_eq_true', decide_eq_true_eq, List.length_eq_zero_iff] at this
        refine .inl ⟨h0, ?_⟩
        rcases hn : (clAt h p).n with ⟨lf, it⟩
        rw [hn] at this
        obtain ⟨h1, h2⟩ := this
        simp only at h1 h2
        rw [h1, h2]; rfl
      · simp only [Bool.and_eq_true, Bool.not_eq_true', decide_eq_true_eq] at this
        exact .inr this
    refine ⟨a1, a2, a3, a4, fun p hp => ?_, fun p hp => ?_, fun p hp h0 => ?_, fun p hp => ?_, fun p hp => ?_, fun p hp hl x hx => ?_⟩
    · rcases H p hp with ⟨h0, _⟩ | ⟨h0, _⟩ <;> omega
    · rcases H p hp with ⟨h0, _⟩ | ⟨_, h0, _⟩ <;> omega
    · rcases H p hp with ⟨_, h1⟩ | ⟨h1, _⟩
      · exact h1
      · omega
    · rw [used_iff] at hp
      rcases H p hp.1 with ⟨h0, _⟩ | ⟨_, _, h0, _⟩
      · omega
      · exact h0
    · rw [used_iff] at hp
      rcases H p hp.1 with ⟨h0, _⟩ | ⟨_, _, _, h0, _⟩
      · omega
      · exact h0
    · rw [used_iff] at hp
      rcases H p hp.1 with ⟨h0, _⟩ | ⟨_, _, _, _, h0⟩
      · omega
      · unfold placesB at h0
        rw [hl, Bool.false_or, List.all_eq_true] at h0
        exact h0 x hx
  · intro o
    refine ⟨o.l1, o.l2, o.k1, o.k2, fun p hp => ?_⟩
    unfold cellB
    split
    · rename_i h0; rw [o.zero p hp h0]; rfl
    · have h1 := o.pos p hp
      have hu : usedB h p = true := used_iff.mpr ⟨hp, by omega⟩
      simp only [Bool.and_eq_true, Bool.not_eq_true', decide_eq_true_eq]
      refine ⟨by omega, o.le p hp, o.pin p hu, o.right p hu, ?_⟩
      unfold placesB
      cases hl : (clAt h p).n.leaf with
      | true => rfl
      | false => rw [Bool.false_or, List.all_eq_true]; exact fun x hx => o.plc p hu hl x hx
theorem Ok.wide {h : Hp} {B C : Int} (o : Ok h B) (e : B ≤ C) : Ok h C := ⟨o.l1, o.l2, o.k1, o.k2, o.pos, fun p hp => Int.le_trans (o.le p hp) e, o.zero, o.pin, o.right, o.plc⟩
theorem posB_ok {h : Hp} {B : Int} (o : Ok h B) : posB h = true := by
  unfold posB; rw [all_cells]; intro p hp; exact decide_eq_true (o.pos p hp)
theorem cntV_cons (x : It) (l : List It) (q : Int) : cntV (x :: l) q = cntV l q + if x.v = q then 1 else 0 := by
  unfold cntV; rw [List.filter_cons]; by_cases e : x.v = q <;> simp [e]
theorem cntV_nil (q : Int) : cntV [] q = 0 := rfl
theorem cntV_append (a b : List It) (q : Int) : cntV (a ++ b) q = cntV a q + cntV b q := by unfold cntV; rw [List.filter_append, List.length_append]
theorem cntV_le (l : List It) (q : Int) : cntV l q ≤ l.length := List.length_filter_le _ _
theorem cntV_zero {l : List It} {q : Int} : cntV l q = 0 ↔ ∀ x ∈ l, x.v ≠ q := by
  unfold cntV; rw [List.length_eq_zero_iff, List.filter_eq_nil_iff]; simp
theorem inL_iff {l : List Int} {x : Int} : inL l x = true ↔ x ∈ l := by unfold inL; simp
theorem inL_vL {l : List It} {q : Int} : inL (vL l) q = false ↔ cntV l q = 0 := by
  rw [cntV_zero]
  rw [← Bool.not_eq_true, inL_iff]; unfold vL; simp
def addV (held : List Int) (l : List It) (q : Int) : Nat := if inL held q = true then 0 else cntV l q
theorem addV_le (held : List Int) (l : List It) (q : Int) : addV held l q ≤ cntV l q := by unfold addV; split <;> omega
theorem w64_id {n : Int} (h1 : -9223372036854775808 ≤ n) (h2 : n ≤ 9223372036854775807) : w64 n = n := by unfold w64; omega
theorem holdL_spec (held : List Int) : ∀ (l : List It) (h : Hp), (∀ x ∈ l, inB h x.v = true) → (∀ q, inB h q = true → 0 ≤ (clAt h q).ref ∧ (clAt h q).ref + l.length ≤ 4611686018427387904) →
    (holdL h held l).c.length = h.c.length ∧ (holdL h held l).keep = h.keep ∧ ∀ q, inB h q = true → clAt (holdL h held l) q = ⟨(clAt h q).ref + (addV held l q : Int), (clAt h q).pin, (clAt h q).n⟩
  | [], h, _, _ => ⟨rfl, rfl, fun q hq => by
      show clAt h q = _
      unfold addV
      rw [cntV_nil, ite_self]
      rcases clAt h q with ⟨r, p, n⟩
      simp⟩
  | x :: l, h, hin, hb => by
    have hx := hin x (List.mem_cons_self)
    unfold holdL
    by_cases hh : inL held x.v = true
    · rw [if_pos hh]
      obtain ⟨a, b, c⟩ := holdL_spec held l h (fun y hy => hin y (List.mem_cons_of_mem _ hy)) (fun q hq => ⟨(hb q hq).1, by have := (hb q hq).2; simp only [List.length_cons] at this; omega⟩)
      refine ⟨a, b, fun q hq => ?_⟩
      rw [c q hq]
      have : addV held (x :: l) q = addV held l q := by
        unfold addV
        split
        · rfl
        · rename_i hne
          rw [cntV_cons, if_neg (by rintro rfl; exact hne hh)]; rfl
      rw [this]
    · rw [if_neg hh]
      have hm : ∀ q, inB h q = true → clAt (moreH h x.v) q = if q = x.v then ⟨(clAt h x.v).ref + 1, (clAt h x.v).pin, (clAt h x.v).n⟩ else clAt h q := by
        intro q hq
        unfold moreH
        rw [clAt_setH hx hq, w64_id (by have := (hb _ hx).1; omega) (by have := (hb _ hx).2; omega)]
      have hl : (moreH h x.v).c.length = h.c.length := len_setH
      obtain ⟨a, b, c⟩ := holdL_spec held l (moreH h x.v) (fun y hy => by rw [inB_len hl]; exact hin y (List.mem_cons_of_mem _ hy)) (fun q hq => by
        rw [inB_len hl] at hq
        have h1 := hb q hq
        simp only [List.length_cons] at h1
        rw [hm q hq]
        split
        · rename_i e; subst e; exact ⟨by show 0 ≤ (clAt h x.v).ref + 1; omega, by show (clAt h x.v).ref + 1 + _ ≤ _; omega⟩
        · exact ⟨h1.1, by omega⟩)
      refine ⟨a.trans hl, b, fun q hq => ?_⟩
      rw [c q (by rw [inB_len hl]; exact hq), hm q hq]
      by_cases e : q = x.v
      · subst e
        rw [if_pos rfl]
        have : addV held (x :: l) x.v = addV held l x.v + 1 := by unfold addV; rw [if_neg hh, if_neg hh, cntV_cons, if_pos rfl]
        rw [this]
        congr 1
        show (clAt h x.v).ref + 1 + _ = _
        omega
      · rw [if_neg e]
        have : addV held (x :: l) q = addV held l q := by
          unfold addV
          split
          · rfl
          · rw [cntV_cons, if_neg (fun h => e h.symm)]; rfl
        rw [this]
/-- What a node that is laid adds to a cell's Ref. -/
def addN (n : Nd) (held : List Int) (q : Int) : Nat := if n.leaf = true then 0 else addV held n.it q
theorem leadsB_iff {h : Hp} {n : Nd} : leadsB h n = true ↔ (n.leaf = false → ∀ x ∈ n.it, usedB h x.v = true) := by
  unfold leadsB
  cases n.leaf with
  | true => simp
  | false => rw [Bool.false_or, List.all_eq_true]; simp
theorem freeB_iff {c : Cl} : freeB c = true ↔ c.ref = 0 ∧ c.pin = false := by unfold freeB; simp
/-- A node is laid: what it comes to. -/
theorem alloc_spec {h : Hp} {B : Int} {n : Nd} {held : List Int} (o : Ok h B) (hB : B ≤ 1000000000000000) (hn : nodeRight n = true) (hl : leadsB h n = true) (hf : 0 < freeN h) :
    ∃ g f, allocO h n held = some (g, f, 0) ∧ inB h f = true ∧ freeB (clAt h f) = true ∧ g.c.length = h.c.length ∧ g.keep = h.keep ∧ clAt g f = ⟨1, false, n⟩ ∧ (∀ q, inB h q = true → q ≠ f → clAt g q = ⟨(clAt h q).ref + (addN n held q : Int), (clAt h q).pin, (clAt h q).n⟩) := by
  obtain ⟨f1, f2⟩ := firstH_spec hf
  have h4 : n.it.length ≤ 4 := by unfold nodeRight at hn; simp only [Bool.and_eq_true, decide_eq_true_eq] at hn; exact hn.2.1
  have hlt : firstH h < h.c.length := by have := (inB_iff.mp f1).2; omega
  unfold allocO
  rw [if_pos o.l2, hn, hl, if_pos (by rfl), if_pos (posB_ok o), if_pos hlt]
  refine ⟨_, _, rfl, f1, f2, ?_⟩
  rw [leadsB_iff] at hl
  cases hlf : n.leaf with
  | true =>
    rw [if_pos rfl]
    refine ⟨len_setH, rfl, by rw [clAt_setH f1 f1, if_pos rfl], fun q hq hne => ?_⟩
    rw [clAt_setH f1 hq, if_neg hne]
    unfold addN; rw [hlf, if_pos rfl]
    rcases clAt h q with ⟨r, p, n⟩; simp
  | false =>
    obtain ⟨a, b, c⟩ := holdL_spec held n.it h (fun x hx => (used_iff.mp (hl hlf x hx)).1) (fun q hq => ⟨o.pos q hq, by have := o.le q hq; omega⟩)
    rw [if_neg (by simp)]
    have f1' : inB (holdL h held n.it) (firstH h : Int) = true := by rw [inB_len a]; exact f1
    refine ⟨len_setH.trans a, b, by rw [clAt_setH f1' f1', if_pos rfl], fun q hq hne => ?_⟩
    rw [clAt_setH f1' (by rw [inB_len a]; exact hq), if_neg hne, c q hq]
    unfold addN; rw [hlf, if_neg (by simp)]
/-- alloc is defined in each right heap. -/
theorem alloc_some {h : Hp} {B : Int} (n : Nd) (held : List Int) (o : Ok h B) : ∃ r, allocO h n held = some r := by
  unfold allocO; rw [if_pos o.l2]
  split
  · rw [if_pos (posB_ok o)]; split <;> exact ⟨_, rfl⟩
  · exact ⟨_, rfl⟩
end Go.Proofs.Ytopkoganfnabgaa.H
namespace Go.Proofs.Ytopkoganfnabgaa.H
/-- What a node tells of a cell. -/
def tl (n : Nd) (q : Int) : Nat := if n.leaf = true then 0 else cntV n.it q
def tot (h : Hp) (q : Int) : Nat := sumN (fun p => tellsN h p q) h.c.length
/-- Each Ref is what R tells, and what all nodes tell. -/
def Ct (h : Hp) (R : Int → Int) : Prop := ∀ q, inB h q = true → (clAt h q).ref = R q + (tot h q : Int)
theorem tellsN_tl {h : Hp} {B : Int} (o : Ok h B) {p : Nat} (hp : p < h.c.length) (q : Int) : tellsN h p q = tl (clAt h (p : Int)).n q := by
  have hin : inB h (p : Int) = true := inB_iff.mpr (by omega)
  unfold tellsN tl
  rw [← clAt_nat']
  by_cases h0 : 0 < (clAt h (p : Int)).ref
  · rw [decide_eq_true h0, Bool.true_and]
    cases (clAt h (p : Int)).n.leaf <;> simp
  · have := o.pos _ hin
    rw [decide_eq_false h0, o.zero _ hin (by omega)]
    rfl
theorem tot_tl {h : Hp} {B : Int} (o : Ok h B) (q : Int) : tot h q = sumN (fun p : Nat => tl (clAt h (p : Int)).n q) h.c.length := by
  unfold tot; exact sumN_congr fun p hp => tellsN_tl o hp q
structure Ext (h g : Hp) : Prop where
  len : g.c.length = h.c.length
  keep : g.keep = h.keep
  use : ∀ q, usedB h q = true → usedB g q = true ∧ (clAt g q).n = (clAt h q).n
theorem Ext.refl (h : Hp) : Ext h h := ⟨rfl, rfl, fun _ e => ⟨e, rfl⟩⟩
theorem Ext.trans {a b c : Hp} (x : Ext a b) (y : Ext b c) : Ext a c := ⟨y.len.trans x.len, y.keep.trans x.keep, fun q e => ⟨(y.use q (x.use q e).1).1, (y.use q (x.use q e).1).2.trans (x.use q e).2⟩⟩
theorem Ext.leads {a b : Hp} (x : Ext a b) {n : Nd} (e : leadsB a n = true) : leadsB b n = true := by
  rw [leadsB_iff] at e ⊢; exact fun hl y hy => (x.use _ (e hl y hy)).1
def hpN (n : Nd) (held : List Int) (q : Int) : Nat := if n.leaf = true then 0 else if inL held q = true then cntV n.it q else 0
theorem hpN_add (n : Nd) (held : List Int) (q : Int) : hpN n held q + addN n held q = tl n q := by
  unfold hpN addN tl addV
  split
  · rfl
  · split <;> omega
theorem addN_le {n : Nd} (hn : nodeRight n = true) (held : List Int) (q : Int) : addN n held q ≤ 4 := by
  have h4 : n.it.length ≤ 4 := by unfold nodeRight at hn; simp only [Bool.and_eq_true, decide_eq_true_eq] at hn; exact hn.2.1
  unfold addN
  split
  · omega
  · have := addV_le held n.it q; have := cntV_le n.it q; omega
theorem addN_zero {h : Hp} {n : Nd} (hl : leadsB h n = true) (held : List Int) {q : Int} (hq : usedB h q = false) : addN n held q = 0 ∧ tl n q = 0 := by
  rw [leadsB_iff] at hl
  unfold addN tl addV
  cases hlf : n.leaf with
  | true => exact ⟨rfl, rfl⟩
  | false =>
    have : cntV n.it q = 0 := cntV_zero.mpr fun x hx e => by have := hl hlf x hx; rw [e, hq] at this; cases this
    rw [this]; simp
theorem alloc_step {h : Hp} {B : Int} {n : Nd} {held : List Int} (o : Ok h B) (hB : B ≤ 1000000000000000) (hn : nodeRight n = true) (hl : leadsB h n = true) (hf : 0 < freeN h) :
    ∃ g f, allocO h n held = some (g, f, 0) ∧ Ok g (max (B + 4) 1) ∧ Ext h g ∧ usedB g f = true ∧ usedB h f = false ∧ (clAt g f).n = n ∧ (∀ q, usedB g q = true → usedB h q = true ∨ q = f) ∧ freeN g + 1 = freeN h ∧ (∀ q, (clAt g q).ref ≤ 1 → usedB h q = true → (clAt h q).ref = 1) ∧
      (∀ R R' : Int → Int, Ct h R → (∀ q, inB h q = true → R' q + (hpN n held q : Int) = R q + if q = f then 1 else 0) → Ct g R') := by
  obtain ⟨g, f, e, f1, f2, a, b, c, d⟩ := alloc_spec (held := held) o hB hn hl hf
  rw [freeB_iff] at f2
  have huf : usedB h f = false := by rw [← Bool.not_eq_true, used_iff]; omega
  have hinB : ∀ q, inB g q = inB h q := inB_len a
  have hug : usedB g f = true := used_iff.mpr ⟨by rw [hinB]; exact f1, by rw [c]; exact Int.one_pos⟩
  have hE : Ext h g := ⟨a, b, fun q hq => by
    rw [used_iff] at hq
    have hne : q ≠ f := by rintro rfl; omega
    rw [used_iff, hinB, d q hq.1 hne]
    exact ⟨⟨hq.1, by show 0 < (clAt h q).ref + _; omega⟩, rfl⟩⟩
  have hback : ∀ q, usedB g q = true → usedB h q = true ∨ q = f := by
    intro q hq
    by_cases hne : q = f
    · exact .inr hne
    · rw [used_iff, hinB] at hq
      refine .inl (Classical.byContradiction fun hu => ?_)
      have hu' : usedB h q = false := by simpa using hu
      have := hq.2
      rw [d q hq.1 hne, (addN_zero hl held hu').1] at this
      exact hu (used_iff.mpr ⟨hq.1, by simpa using this⟩)
  have hnode : ∀ q, inB h q = true → q ≠ f → (clAt g q).n = (clAt h q).n := fun q hq hne => by rw [d q hq hne]
  have hO : Ok g (max (B + 4) 1) := by
    refine ⟨by rw [a]; exact o.l1, by rw [a]; exact o.l2, by rw [b]; exact o.k1, by rw [a, b]; exact o.k2, fun q hq => ?_, fun q hq => ?_, fun q hq h0 => ?_, fun q hq => ?_, fun q hq => ?_, fun q hq hlf x hx => ?_⟩
    · rw [hinB] at hq
      by_cases hne : q = f
      · rw [hne, c]; exact Int.zero_le_ofNat 1
      · rw [d q hq hne]; have := o.pos q hq; show 0 ≤ (clAt h q).ref + _; omega
    · rw [hinB] at hq
      by_cases hne : q = f
      · rw [hne, c]; show (1 : Int) ≤ _; omega
      · rw [d q hq hne]; have := o.le q hq; have := addN_le hn held q; show (clAt h q).ref + _ ≤ _; omega
    · rw [hinB] at hq
      by_cases hne : q = f
      · rw [hne, c] at h0; cases h0
      · rw [d q hq hne] at h0 ⊢
        have := o.pos q hq
        exact o.zero q hq (by show (clAt h q).ref = 0; have h0' : (clAt h q).ref + _ = 0 := h0; omega)
    · rcases hback q hq with hu | hu
      · rw [d q (used_iff.mp hu).1 (by rintro rfl; rw [hu] at huf; cases huf)]; exact o.pin q hu
      · rw [hu, c]
    · rcases hback q hq with hu | hu
      · rw [(hE.use q hu).2]; exact o.right q hu
      · rw [hu, c]; exact hn
    · rw [hinB]
      rcases hback q hq with hu | hu
      · rw [(hE.use q hu).2] at hlf hx; exact o.plc q hu hlf x hx
      · rw [hu, c] at hlf hx
        rw [leadsB_iff] at hl
        exact (used_iff.mp (hl hlf x hx)).1
  refine ⟨g, f, e, hO, hE, hug, huf, by rw [c], hback, ?_, ?_, ?_⟩
  · refine freeN_point a f1 (freeB_iff.mpr f2) (by rw [c]; rfl) (fun q hq hne => ?_)
    rw [d q hq hne]
    by_cases hu : usedB h q = true
    · have h1 : ¬ (clAt h q).ref = 0 := by have := (used_iff.mp hu).2; omega
      have h2 := o.pos q hq
      unfold freeB
      show (decide ((clAt h q).ref + _ = 0) && _) = _
      rw [decide_eq_false (by omega), decide_eq_false h1]
    · have hu' : usedB h q = false := by simpa using hu
      rw [(addN_zero hl held hu').1]
      unfold freeB
      simp
  · intro q hq hu
    have hne : q ≠ f := by rintro rfl; rw [hu] at huf; cases huf
    rw [d q (used_iff.mp hu).1 hne] at hq
    have := (used_iff.mp hu).2
    have hq' : (clAt h q).ref + _ ≤ 1 := hq
    omega
  · intro R R' hR hRR q hq
    rw [hinB] at hq
    obtain ⟨k, rfl, hk⟩ := inB_nat' f1
    have ht : tot g q = tot h q + tl n q := by
      rw [tot_tl hO, tot_tl o, a]
      have := sumN_point (f := fun p : Nat => tl (clAt g (p : Int)).n q) (g := fun p : Nat => tl (clAt h (p : Int)).n q) hk (fun i hi hne => by show tl _ q = tl _ q; rw [hnode _ (inB_iff.mpr (by omega)) (by omega)])
      simp only [c] at this
      have hz : tl (clAt h (k : Int)).n q = 0 := by rw [o.zero _ f1 f2.1]; rfl
      rw [hz] at this
      omega
    have h1 := hR q hq
    have h2 := hRR q hq
    have h3 := hpN_add n held q
    rw [ht]
    by_cases hne : q = (k : Int)
    · subst hne
      rw [if_pos rfl] at h2
      have := addN_zero hl held huf
      rw [c]
      show (1 : Int) = _
      omega
    · rw [if_neg hne] at h2
      rw [d q hq hne]
      show (clAt h q).ref + _ = _
      omega
/-- Two rows go side by side. -/
inductive F2 {α β : Type} (R : α → β → Prop) : List α → List β → Prop
  | nil : F2 R [] []
  | cons {a : α} {b : β} {la : List α} {lb : List β} : R a b → F2 R la lb → F2 R (a :: la) (b :: lb)
theorem F2.imp {α β : Type} {R S : α → β → Prop} {l : List α} {m : List β} (H : ∀ a b, a ∈ l → b ∈ m → R a b → S a b) (f : F2 R l m) : F2 S l m := by
  induction f with
  | nil => exact .nil
  | cons r _ ih => exact .cons (H _ _ List.mem_cons_self List.mem_cons_self r) (ih fun a b ha hb => H a b (List.mem_cons_of_mem _ ha) (List.mem_cons_of_mem _ hb))
theorem F2.len {α β : Type} {R : α → β → Prop} {l : List α} {m : List β} (f : F2 R l m) : l.length = m.length := by
  induction f with
  | nil => rfl
  | cons _ _ ih => simp [ih]
theorem F2.append {α β : Type} {R : α → β → Prop} {l l' : List α} {m m' : List β} (f : F2 R l m) (g : F2 R l' m') : F2 R (l ++ l') (m ++ m') := by
  induction f with
  | nil => exact g
  | cons r _ ih => exact .cons r ih
theorem F2.split {α β : Type} {R : α → β → Prop} {m : List β} : ∀ (l l' : List α) {m : List β}, F2 R (l ++ l') m → ∃ a b, m = a ++ b ∧ F2 R l a ∧ F2 R l' b
  | [], _, m, f => ⟨[], m, rfl, .nil, f⟩
  | x :: l, l', _, .cons r f => by
    obtain ⟨a, b, rfl, fa, fb⟩ := F2.split (m := m) l l' f
    exact ⟨_ :: a, b, rfl, .cons r fa, fb⟩
theorem F2.mem_l {α β : Type} {R : α → β → Prop} {l : List α} {m : List β} (f : F2 R l m) : ∀ {a}, a ∈ l → ∃ b, b ∈ m ∧ R a b := by
  induction f with
  | nil => intro a h; cases h
  | cons r _ ih =>
    intro a h
    rcases List.mem_cons.mp h with rfl | h
    · exact ⟨_, List.mem_cons_self, r⟩
    · obtain ⟨b, hb, e⟩ := ih h; exact ⟨b, List.mem_cons_of_mem _ hb, e⟩
theorem F2.mem_r {α β : Type} {R : α → β → Prop} {l : List α} {m : List β} (f : F2 R l m) : ∀ {b}, b ∈ m → ∃ a, a ∈ l ∧ R a b := by
  induction f with
  | nil => intro a h; cases h
  | cons r _ ih =>
    intro a h
    rcases List.mem_cons.mp h with rfl | h
    · exact ⟨_, List.mem_cons_self, r⟩
    · obtain ⟨b, hb, e⟩ := ih h; exact ⟨b, List.mem_cons_of_mem _ hb, e⟩
/-- The first key of a row. -/
def ky (l : List It) : Int := (itAt l 0).k
/-- Rows are laid: what it comes to. -/
theorem lay_spec (lf : Bool) (held : List Int) : ∀ (rows : List (List It)) (h : Hp) (B : Int), Ok h B → 1 ≤ B → B + 4 * rows.length ≤ 1000000000000000 → (∀ r ∈ rows, nodeRight ⟨lf, r⟩ = true ∧ leadsB h ⟨lf, r⟩ = true) → rows.length ≤ freeN h →
    ∃ g made, layO h lf held rows = some (g, made) ∧ Ok g (B + 4 * rows.length) ∧ Ext h g ∧ F2 (fun y r => y.k = ky r ∧ (clAt g y.v).n = ⟨lf, r⟩ ∧ usedB g y.v = true ∧ usedB h y.v = false) made rows ∧ freeN g + rows.length = freeN h ∧ (∀ q, usedB g q = true → usedB h q = true ∨ ∃ y ∈ made, y.v = q) ∧
      (∀ R R' : Int → Int, Ct h R → (∀ q, inB h q = true → R' q + (hpN ⟨lf, rows.flatten⟩ held q : Int) = R q + (cntV made q : Int)) → Ct g R')
  | [], h, B, o, _, _, _, _ => by
    refine ⟨h, [], rfl, by simpa using o, Ext.refl h, .nil, by simp, fun q hq => .inl hq, fun R R' hR hRR q hq => ?_⟩
    have h1 := hR q hq
    have h2 := hRR q hq
    have h3 : hpN ⟨lf, ([] : List (List It)).flatten⟩ held q = 0 := by unfold hpN; rw [List.flatten_nil, cntV_nil]; simp
    rw [h3, cntV_nil] at h2
    omega
  | [] :: rows, h, B, o, _, _, hn, _ => by
    have := (hn [] List.mem_cons_self).1
    simp [nodeRight] at this
  | (x :: s) :: rows, h, B, o, hB1, hB, hn, hf => by
    simp only [List.length_cons] at hB hf
    obtain ⟨n1, n2⟩ := hn _ List.mem_cons_self
    obtain ⟨g, f, e, o1, x1, u1, u2, nd, bk, fr, _, ct⟩ := alloc_step (held := held) o (by omega) n1 n2 (by omega)
    have hmax : max (B + 4) 1 = B + 4 := by omega
    rw [hmax] at o1
    obtain ⟨g2, made, e2, o2, x2, f2, fr2, bk2, ct2⟩ := lay_spec lf held rows g (B + 4) o1 (by omega) (by omega) (fun r hr => ⟨(hn r (List.mem_cons_of_mem _ hr)).1, x1.leads (hn r (List.mem_cons_of_mem _ hr)).2⟩) (by omega)
    refine ⟨g2, ⟨x.k, f⟩ :: made, ?_, o2.wide (by simp only [List.length_cons]; omega), x1.trans x2, .cons ⟨rfl, (x2.use _ u1).2.trans nd, (x2.use _ u1).1, u2⟩ (f2.imp fun a b _ _ r => ⟨r.1, r.2.1, r.2.2.1, ?_⟩), by simp only [List.length_cons]; omega, fun q hq => ?_, fun R R' hR hRR => ?_⟩
    · simp only [layO, e, e2, Option.bind_eq_bind, Option.bind_some]
    · have := r.2.2.2
      cases hu : usedB h a.v with
      | false => rfl
      | true => rw [(x1.use _ hu).1] at this; cases this
    · rcases bk2 q hq with hu | ⟨y, hy, rfl⟩
      · rcases bk q hu with hu | rfl
        · exact .inl hu
        · exact .inr ⟨_, List.mem_cons_self, rfl⟩
      · exact .inr ⟨y, List.mem_cons_of_mem _ hy, rfl⟩
    · refine ct2 (fun q => R q + (if q = f then 1 else 0) - (hpN ⟨lf, x :: s⟩ held q : Int)) R' (ct R _ hR (fun q hq => by show R q + _ - _ + _ = _; omega)) (fun q hq => ?_)
      rw [inB_len x1.len] at hq
      have h1 := hRR q hq
      have h2 : hpN ⟨lf, ((x :: s) :: rows).flatten⟩ held q = hpN ⟨lf, x :: s⟩ held q + hpN ⟨lf, rows.flatten⟩ held q := by
        unfold hpN
        rw [List.flatten_cons]
        show (if lf = true then 0 else if inL held q = true then cntV (x :: s ++ rows.flatten) q else 0) = (if lf = true then 0 else if inL held q = true then cntV (x :: s) q else 0) + (if lf = true then 0 else if inL held q = true then cntV rows.flatten q else 0)
        rw [cntV_append]
        split
        · rfl
        · split <;> rfl
      rw [h2, cntV_cons] at h1
      show _ = R q + _ - _ + _
      by_cases hqf : f = q
      · rw [if_pos hqf] at h1
        rw [if_pos hqf.symm]
        omega
      · rw [if_neg hqf] at h1
        rw [if_neg (fun e => hqf e.symm)]
        omega
end Go.Proofs.Ytopkoganfnabgaa.H
namespace Go.Proofs.Ytopkoganfnabgaa.H
structure Gd (l : List It) : Prop where
  ne : l ≠ []
  up : l.Pairwise fun a b => a.k < b.k
  fit : ∀ x ∈ l, fitsB x.k = true ∧ fitsB x.v = true
theorem fitsB_iff {n : Int} : fitsB n = true ↔ 0 ≤ n ∧ n ≤ 2147483647 := by unfold fitsB; simp
theorem itAt_get {l : List It} {i : Nat} (h : i < l.length) : itAt l i = l[i] := by unfold itAt; rw [List.getD_eq_getElem?_getD, List.getElem?_eq_getElem h]; rfl
theorem adj_up {l : List It} (H : ∀ i, i < l.length → i = 0 ∨ (itAt l (i - 1)).k < (itAt l i).k) : l.Pairwise fun a b => a.k < b.k := by
  rw [List.pairwise_iff_getElem]
  intro i j hi hj hij
  have : ∀ n, (hn : n < l.length) → i < n → l[i].k < l[n].k := by
    intro n
    induction n with
    | zero => intro _ h; omega
    | succ n ih =>
      intro hn h
      have h1 := H (n + 1) hn
      rw [itAt_get hn, show n + 1 - 1 = n from rfl, itAt_get (show n < l.length by omega)] at h1
      have h2 : l[n].k < l[n + 1].k := by omega
      by_cases e : i = n
      · subst e; exact h2
      · have := ih (by omega) (by omega); omega
  exact this j hj hij
theorem up_adj {l : List It} (H : l.Pairwise fun a b => a.k < b.k) {i : Nat} (hi : i < l.length) : i = 0 ∨ (itAt l (i - 1)).k < (itAt l i).k := by
  by_cases h : i = 0
  · exact .inl h
  · right
    rw [List.pairwise_iff_getElem] at H
    rw [itAt_get hi, itAt_get (show i - 1 < l.length by omega)]
    exact H _ _ (by omega) hi (by omega)
theorem sortedB_up {l : List It} : sortedB l = true ↔ l.Pairwise fun a b => a.k < b.k := by
  unfold sortedB
  simp only [List.all_eq_true, List.mem_range, Bool.or_eq_true, decide_eq_true_eq]
  exact ⟨adj_up, fun H i hi => up_adj H hi⟩
theorem nodeRight_iff {n : Nd} : nodeRight n = true ↔ n.it.length ≤ 4 ∧ Gd n.it := by
  unfold nodeRight okAt
  simp only [Bool.and_eq_true, decide_eq_true_eq, List.all_eq_true, List.mem_range, Bool.or_eq_true]
  constructor
  · rintro ⟨a, b, c⟩
    refine ⟨b, fun e => by rw [e] at a; simp at a, adj_up fun i hi => (c i hi).2.2, fun x hx => ?_⟩
    obtain ⟨i, hi, rfl⟩ := List.mem_iff_getElem.mp hx
    have := c i hi
    rw [itAt_get hi] at this
    exact ⟨this.1, this.2.1⟩
  · rintro ⟨b, g⟩
    refine ⟨by have := List.length_pos_iff.mpr g.ne; omega, b, fun i hi => ?_⟩
    have := g.fit (itAt n.it i) (by rw [itAt_get hi]; exact List.getElem_mem hi)
    exact ⟨this.1, this.2, up_adj g.up hi⟩
theorem ky_mem {l : List It} (h : l ≠ []) : ∃ x, x ∈ l ∧ x.k = ky l := by
  cases l with
  | nil => exact absurd rfl h
  | cons a l => exact ⟨a, List.mem_cons_self, rfl⟩
theorem ky_le {l : List It} (h : l.Pairwise fun a b => a.k < b.k) {x : It} (hx : x ∈ l) : ky l ≤ x.k := by
  cases l with
  | nil => cases hx
  | cons a l =>
    rcases List.mem_cons.mp hx with rfl | hx
    · exact Int.le_refl _
    · exact Int.le_of_lt (List.rel_of_pairwise_cons h hx)
def lk (l : List It) : Int := (itAt l (l.length - 1)).k
theorem lk_mem {l : List It} (h : l ≠ []) : ∃ x, x ∈ l ∧ x.k = lk l := by
  have := List.length_pos_iff.mpr h
  exact ⟨l[l.length - 1], List.getElem_mem _, by unfold lk; rw [itAt_get (by omega)]⟩
theorem lk_ge {l : List It} (h : l.Pairwise fun a b => a.k < b.k) {x : It} (hx : x ∈ l) : x.k ≤ lk l := by
  obtain ⟨i, hi, rfl⟩ := List.mem_iff_getElem.mp hx
  unfold lk
  rw [itAt_get (by omega)]
  by_cases e : i = l.length - 1
  · subst e; exact Int.le_refl _
  · rw [List.pairwise_iff_getElem] at h; exact Int.le_of_lt (h _ _ hi (by omega) (by omega))
theorem ky_append {a b : List It} (h : a ≠ []) : ky (a ++ b) = ky a := by
  cases a with
  | nil => exact absurd rfl h
  | cons x a => rfl
theorem lk_append {a b : List It} (h : b ≠ []) : lk (a ++ b) = lk b := by
  have := List.length_pos_iff.mpr h
  unfold lk
  rw [List.length_append, itAt_get (by rw [List.length_append]; omega), itAt_get (by omega), List.getElem_append_right (by omega)]
  congr 2; omega
theorem Gd.len {l : List It} (g : Gd l) : l.length ≤ 2147483648 := by
  have : ∀ n, (hn : n < l.length) → (n : Int) ≤ l[n].k := by
    intro n
    induction n with
    | zero => intro hn; exact (fitsB_iff.mp (g.fit _ (List.getElem_mem hn)).1).1
    | succ n ih =>
      intro hn
      have h1 := ih (by omega)
      have h2 := g.up
      rw [List.pairwise_iff_getElem] at h2
      have := h2 n (n + 1) (by omega) hn (by omega)
      omega
  have h0 := List.length_pos_iff.mpr g.ne
  have h1 := this (l.length - 1) (by omega)
  have h2 := (fitsB_iff.mp (g.fit _ (List.getElem_mem (show l.length - 1 < l.length by omega))).1).2
  omega
/-- A tree of a height, and its items. -/
def T (h : Hp) : Nat → Int → List It → Prop
  | 0, _, _ => False
  | d + 1, p, l => usedB h p = true ∧ Gd l ∧ (((clAt h p).n.leaf = true ∧ d = 0 ∧ l = (clAt h p).n.it) ∨ ((clAt h p).n.leaf = false ∧ ∃ ls : List (List It), l = ls.flatten ∧ F2 (fun x li => x.k = ky li ∧ T h d x.v li) (clAt h p).n.it ls))
theorem T.pos {h : Hp} {d : Nat} {p : Int} {l : List It} (t : T h d p l) : 0 < d := by cases d with
  | zero => exact t.elim
  | succ d => omega
theorem T.used {h : Hp} {d : Nat} {p : Int} {l : List It} (t : T h d p l) : usedB h p = true := by cases d with
  | zero => exact t.elim
  | succ d => exact t.1
theorem T.gd {h : Hp} {d : Nat} {p : Int} {l : List It} (t : T h d p l) : Gd l := by cases d with
  | zero => exact t.elim
  | succ d => exact t.2.1
theorem T.leaf {h : Hp} {d : Nat} {p : Int} {l : List It} (t : T h d p l) (e : (clAt h p).n.leaf = true) : d = 1 ∧ l = (clAt h p).n.it := by cases d with
  | zero => exact t.elim
  | succ d =>
    rcases t.2.2 with ⟨_, a, b⟩ | ⟨a, _⟩
    · exact ⟨by omega, b⟩
    · rw [e] at a; cases a
theorem T.inner {h : Hp} {d : Nat} {p : Int} {l : List It} (t : T h d p l) (e : (clAt h p).n.leaf = false) : ∃ d', d = d' + 1 ∧ ∃ ls : List (List It), l = ls.flatten ∧ F2 (fun x li => x.k = ky li ∧ T h d' x.v li) (clAt h p).n.it ls := by cases d with
  | zero => exact t.elim
  | succ d =>
    rcases t.2.2 with ⟨a, _⟩ | ⟨_, a⟩
    · rw [e] at a; cases a
    · exact ⟨d, rfl, a⟩
/-- A tree lives where its used cells are as they were. -/
theorem T.ext {h g : Hp} (x : Ext h g) : ∀ {d : Nat} {p : Int} {l : List It}, T h d p l → T g d p l
  | 0, _, _, t => t.elim
  | d + 1, p, l, ⟨u, g1, e⟩ => by
    obtain ⟨u', en⟩ := x.use p u
    refine ⟨u', g1, ?_⟩
    rw [en]
    rcases e with e | ⟨e1, ls, e2, e3⟩
    · exact .inl e
    · exact .inr ⟨e1, ls, e2, e3.imp fun a b _ _ r => ⟨r.1, T.ext x r.2⟩⟩
theorem flatten_ne {ls : List (List It)} (h : ls.flatten ≠ []) : ls ≠ [] := by rintro rfl; exact h rfl
theorem T.uniq {h : Hp} : ∀ {d d' : Nat} {p : Int} {l l' : List It}, T h d p l → T h d' p l' → d = d' ∧ l = l'
  | 0, _, _, _, _, t, _ => t.elim
  | d + 1, d', p, l, l', t, t' => by
    cases hl : (clAt h p).n.leaf with
    | true =>
      obtain ⟨a, b⟩ := t.leaf hl
      obtain ⟨a', b'⟩ := t'.leaf hl
      exact ⟨a.trans a'.symm, b.trans b'.symm⟩
    | false =>
      obtain ⟨e, ed, ls, rfl, f⟩ := t.inner hl
      obtain ⟨e', ed', ls', rfl, f'⟩ := t'.inner hl
      obtain rfl : d = e := by omega
      have hne := flatten_ne t.gd.ne
      have : ∀ (it : List It) (ls ls' : List (List It)), F2 (fun x li => x.k = ky li ∧ T h d x.v li) it ls → F2 (fun x li => x.k = ky li ∧ T h e' x.v li) it ls' → ls = ls' ∧ (it ≠ [] → d = e') := by
        intro it
        induction it with
        | nil => intro ls ls' f f'; cases f; cases f'; exact ⟨rfl, fun h => absurd rfl h⟩
        | cons x it ih =>
          intro ls ls' f f'
          cases f with
          | cons r f => cases f' with
            | cons r' f' =>
              obtain ⟨a, b⟩ := T.uniq r.2 r'.2
              obtain ⟨c, _⟩ := ih _ _ f f'
              exact ⟨by rw [b, c], fun _ => a⟩
      obtain ⟨a, b⟩ := this _ _ _ f f'
      have hit : (clAt h p).n.it ≠ [] := by
        intro e0
        have := f.len
        rw [e0] at this
        exact hne (List.length_eq_zero_iff.mp this.symm)
      exact ⟨by rw [b hit]; omega, by rw [a]⟩
theorem neg_of_used {h : Hp} {p : Int} (u : usedB h p = true) : ¬ p < 0 := by have := (inB_iff.mp (used_iff.mp u).1).1; omega
theorem T.high {h : Hp} : ∀ {d : Nat} {p : Int} {l : List It} (f : Nat), T h d p l → d ≤ f → highO f h p = some d
  | 0, _, _, _, t, _ => t.elim
  | d + 1, p, l, 0, _, hf => by omega
  | d + 1, p, l, f + 1, t, hf => by
    have u := t.used
    unfold highO
    rw [if_neg (neg_of_used u), if_pos (used_iff.mp u).1]
    cases hl : (clAt h p).n.leaf with
    | true => rw [if_pos rfl, (t.leaf hl).1]
    | false =>
      rw [if_neg (by simp)]
      obtain ⟨e, ed, ls, rfl, ff⟩ := t.inner hl
      obtain rfl : d = e := by omega
      have hne := flatten_ne t.gd.ne
      cases hit : (clAt h p).n.it with
      | nil => rw [hit] at ff; cases ff; exact absurd rfl hne
      | cons x it =>
        rw [hit] at ff
        cases ff with
        | cons r _ => show (highO f h x.v).map (· + 1) = _; rw [T.high f r.2 (by omega)]; rfl
theorem Gd.part {a b c : List It} (g : Gd (a ++ b ++ c)) (h : b ≠ []) : Gd b := by
  obtain ⟨_, u, f⟩ := g
  rw [List.pairwise_append, List.pairwise_append] at u
  exact ⟨h, u.1.2.1, fun x hx => f x (by simp [hx])⟩
theorem T.list {h : Hp} : ∀ {d : Nat} {p : Int} {l : List It} (f : Nat), T h d p l → d ≤ f → listO f h p = some l
  | 0, _, _, _, t, _ => t.elim
  | d + 1, p, l, 0, _, hf => by omega
  | d + 1, p, l, f + 1, t, hf => by
    have u := t.used
    unfold listO
    rw [if_neg (neg_of_used u), if_pos (used_iff.mp u).1]
    cases hl : (clAt h p).n.leaf with
    | true =>
      obtain ⟨_, rfl⟩ := t.leaf hl
      rw [if_pos rfl, if_pos t.gd.len]
    | false =>
      rw [if_neg (by simp)]
      obtain ⟨e, ed, ls, rfl, ff⟩ := t.inner hl
      obtain rfl : d = e := by omega
      have : ∀ (it : List It) (ls : List (List It)) (acc : List It), F2 (fun x li => x.k = ky li ∧ T h d x.v li) it ls → (acc ++ ls.flatten).length ≤ 2147483648 → listL (listO f h) acc it = some (acc ++ ls.flatten) := by
        intro it
        induction it with
        | nil => intro ls acc f hl; cases f; simp [listL]
        | cons x it ih =>
          intro ls acc f2 hl
          cases f2 with
          | cons r f2 =>
            rename_i li ls
            unfold listL
            rw [T.list f r.2 (by omega)]
            simp only [List.flatten_cons, List.length_append] at hl
            show (if acc.length + li.length ≤ 2147483648 then listL (listO f h) (acc ++ li) it else none) = _
            rw [if_pos (by omega), ih ls (acc ++ li) f2 (by simp only [List.length_append]; omega)]
            simp
      have := this _ ls [] ff (by simpa using t.gd.len)
      simpa using this
end Go.Proofs.Ytopkoganfnabgaa.H
namespace Go.Proofs.Ytopkoganfnabgaa.H
theorem belowO_eq' (m : Nat) (h : Hp) (p : Int) : ∃ inner, belowO m h p = belowB m h p inner ∧ (m ≤ 1 → ∀ l, inner l = some zGt) ∧ (2 ≤ m → ∀ l, inner l = belowL (belowO (m - 1) h) zGt true l) := by
  cases m with
  | zero => exact ⟨_, rfl, fun _ _ => rfl, fun h => by omega⟩
  | succ m =>
    refine ⟨_, rfl, fun hm l => ?_, fun hm l => ?_⟩
    · show (if m = 0 then some zGt else belowL (belowO m h) zGt true l) = _; rw [if_pos (by omega)]
    · show (if m = 0 then some zGt else belowL (belowO m h) zGt true l) = _; rw [if_neg (by omega)]; rfl
theorem belowL_fwd {rec_ : Int → Option Gt} {d : Nat} (hd : d ≤ 1000) : ∀ (l : List It) (ls : List (List It)) (out : Gt) (first : Bool), F2 (fun x li => x.k = ky li ∧ rec_ x.v = some ⟨ky li, lk li, (d : Int), true⟩ ∧ li ≠ []) l ls → (ls.flatten.Pairwise fun a b => a.k < b.k) → (first = false → out.high = (d : Int) + 1 ∧ ∀ y ∈ ls.flatten, out.hi < y.k) → (first = true → l ≠ []) →
    belowL rec_ out first l = some ⟨if first then ky ls.flatten else out.lo, if l = [] then out.hi else lk ls.flatten, (d : Int) + 1, true⟩
  | [], _, out, first, .nil, _, ho, hf => by
    cases first with
    | true => exact absurd rfl (hf rfl)
    | false => show some (⟨out.lo, out.hi, out.high, true⟩ : Gt) = _; rw [(ho rfl).1]; rfl
  | y :: l, _ :: _, out, first, .cons (lb := ls) (b := li) r f, up, ho, hf => by
    obtain ⟨r1, r2, r3⟩ := r
    rw [List.flatten_cons, List.pairwise_append] at up
    obtain ⟨u1, u2, u3⟩ := up
    unfold belowL
    rw [r2]
    have hw : w64 ((d : Int) + 1) = (d : Int) + 1 := w64_id (by omega) (by omega)
    obtain ⟨xk, hxk, exk⟩ := ky_mem r3
    obtain ⟨xl, hxl, exl⟩ := lk_mem r3
    have hb : badB out first y ⟨ky li, lk li, (d : Int), true⟩ = false := by
      unfold badB
      cases first with
      | true => simp [r1]
      | false =>
        obtain ⟨o1, o2⟩ := ho rfl
        have := o2 xk (by simp [hxk])
        simp only [hw, Bool.not_true, Bool.false_or, Bool.not_false, Bool.true_and]
        rw [decide_eq_true r1.symm, decide_eq_false (by omega), decide_eq_true o1]
        rfl
    show (if badB out first y ⟨ky li, lk li, (d : Int), true⟩ = true then some zGt else belowL rec_ (stepG out first ⟨ky li, lk li, (d : Int), true⟩) false l) = _
    rw [hb, if_neg (by simp)]
    have hst : stepG out first ⟨ky li, lk li, (d : Int), true⟩ = ⟨if first then ky li else out.lo, lk li, (d : Int) + 1, false⟩ := by
      unfold stepG
      rw [hw]
      cases first with
      | true => rfl
      | false => rw [(ho rfl).1]; rfl
    rw [hst, belowL_fwd hd l ls _ false f u2 (fun _ => ⟨rfl, fun z hz => ?_⟩) (fun h => by cases h)]
    · have e1 : (if l = [] then lk li else lk ls.flatten) = lk (li ++ ls.flatten) := by
        by_cases hl : l = []
        · subst hl; cases f; simp
        · rw [if_neg hl]
          have : ls.flatten ≠ [] := by
            cases f with
            | nil => exact absurd rfl hl
            | cons r _ => rw [List.flatten_cons]; intro e; exact r.2.2 (List.append_eq_nil_iff.mp e).1
          rw [lk_append this]
      have e2 : ky (li :: ls).flatten = ky li := by rw [List.flatten_cons, ky_append r3]
      have e3 : (if y :: l = [] then out.hi else lk (li :: ls).flatten) = lk (li ++ ls.flatten) := by rw [if_neg (by simp), List.flatten_cons]
      rw [e2, e3, ← e1]
      exact congrArg some rfl
    · show lk li < z.k
      have := u3 xl hxl z hz; omega
theorem T.below {h : Hp} : ∀ {d : Nat} {p : Int} {l : List It} (m : Nat), T h d p l → d ≤ m → m ≤ 1000 → belowO m h p = some ⟨ky l, lk l, (d : Int), true⟩
  | 0, _, _, _, t, _, _ => t.elim
  | d + 1, p, l, m, t, hm, hm2 => by
    have u := t.used
    obtain ⟨inner, e0, _, e2⟩ := belowO_eq' m h p
    rw [e0]
    unfold belowB
    have hu := used_iff.mp u
    rw [if_pos hu.1, if_neg (by omega)]
    cases hl : (clAt h p).n.leaf with
    | true =>
      obtain ⟨h1, rfl⟩ := t.leaf hl
      rw [if_pos rfl, if_pos (List.length_pos_iff.mpr t.gd.ne), decide_eq_true (by omega), h1]
      rfl
    | false =>
      rw [if_neg (by simp)]
      obtain ⟨e, ed, ls, rfl, ff⟩ := t.inner hl
      obtain rfl : d = e := by omega
      have hne := flatten_ne t.gd.ne
      have hit : (clAt h p).n.it ≠ [] := by
        intro e0
        have := ff.len
        rw [e0] at this
        exact hne (List.length_eq_zero_iff.mp this.symm)
      have hd1 : 1 ≤ d := by
        cases hi : (clAt h p).n.it with
        | nil => exact absurd hi hit
        | cons x it => rw [hi] at ff; cases ff with
          | cons r _ => have := r.2.pos; omega
      rw [e2 (by omega), belowL_fwd (d := d) (by omega) _ ls zGt true (ff.imp fun a b _ _ r => ⟨r.1, T.below (m - 1) r.2 (by omega) (by omega), r.2.gd.ne⟩) t.gd.up (fun h => by cases h) (fun _ => hit), if_neg hit]
      simp
theorem belowL_bwd {rec_ : Int → Option Gt} {P : Nat → Int → List It → Prop} : ∀ (l : List It) (out z : Gt) (first : Bool), belowL rec_ out first l = some z → z.is = true → (∀ y ∈ l, ∀ x, rec_ y.v = some x → x.is = true → ∃ d li, d ≤ 1000 ∧ P d y.v li ∧ Gd li ∧ x = ⟨ky li, lk li, (d : Int), true⟩) →
    ∀ (D : Nat), (first = false → out.high = (D : Int) + 1) → (first = true → l ≠ []) → ∃ (D' : Nat) (ls : List (List It)), (first = false → D' = D) ∧ F2 (fun x li => x.k = ky li ∧ P D' x.v li ∧ Gd li) l ls ∧ (ls.flatten.Pairwise fun a b => a.k < b.k) ∧ (first = false → ∀ y ∈ ls.flatten, out.hi < y.k)
  | [], out, z, first, _, _, _, D, ho, hf => by
    cases first with
    | true => exact absurd rfl (hf rfl)
    | false => exact ⟨D, [], fun _ => rfl, .nil, .nil, fun _ y hy => by cases hy⟩
  | y :: l, out, z, first, e, hz, H, D, ho, hf => by
    unfold belowL at e
    cases hq : rec_ y.v with
    | none => rw [hq] at e; cases e
    | some x =>
      rw [hq] at e
      have e' : (if badB out first y x = true then some zGt else belowL rec_ (stepG out first x) false l) = some z := e
      by_cases hb : badB out first y x = true
      · rw [if_pos hb] at e'
        simp only [Option.some.injEq] at e'
        rw [← e'] at hz; cases hz
      · rw [if_neg hb] at e'
        have hb' : badB out first y x = false := by simpa using hb
        unfold badB at hb'
        simp only [Bool.or_eq_false_iff, Bool.not_eq_false'] at hb'
        obtain ⟨b1, b2, b3⟩ := hb'
        obtain ⟨d, li, hd, hp, hg, rfl⟩ := H y List.mem_cons_self x hq b1
        have b2' : ky li = y.k := by simpa using b2
        have hw : w64 ((d : Int) + 1) = (d : Int) + 1 := w64_id (by omega) (by omega)
        simp only [hw] at b3
        have hhi : (stepG out first ⟨ky li, lk li, (d : Int), true⟩).high = (d : Int) + 1 := by
          unfold stepG
          rw [hw]
          cases first with
          | true => rfl
          | false =>
            simp only [Bool.not_false, Bool.true_and, Bool.or_eq_false_iff, Bool.not_eq_false', decide_eq_true_eq] at b3
            exact b3.2
        obtain ⟨D', ls, h1, h2, h3, h4⟩ := belowL_bwd l _ z false e' hz (fun w hw => H w (List.mem_cons_of_mem _ hw)) d (fun _ => hhi) (fun h => by cases h)
        obtain rfl := h1 rfl
        have h4' : ∀ y ∈ ls.flatten, lk li < y.k := h4 rfl
        refine ⟨D', li :: ls, fun hf0 => ?_, .cons ⟨b2'.symm, hp, hg⟩ h2, ?_, fun hf0 w hw => ?_⟩
        · rw [hf0] at b3
          simp only [Bool.not_false, Bool.true_and, Bool.or_eq_false_iff, Bool.not_eq_false', decide_eq_true_eq] at b3
          have := ho hf0; omega
        · rw [List.flatten_cons, List.pairwise_append]
          exact ⟨hg.up, h3, fun a ha b hb => by have := lk_ge hg.up ha; have := h4' b hb; omega⟩
        · rw [hf0] at b3
          simp only [Bool.not_false, Bool.true_and, Bool.or_eq_false_iff, Bool.not_eq_false', decide_eq_true_eq, decide_eq_false_iff_not] at b3
          have hlo : out.hi < ky li := by omega
          rw [List.flatten_cons, List.mem_append] at hw
          rcases hw with hw | hw
          · have := ky_le hg.up hw; omega
          · have := h4' w hw
            obtain ⟨a, ha, ea⟩ := lk_mem hg.ne
            have := ky_le hg.up ha
            omega
theorem below_T {h : Hp} {B : Int} (o : Ok h B) : ∀ (m : Nat) {p : Int} {z : Gt}, m ≤ 1000 → belowO m h p = some z → z.is = true → ∃ (d : Nat) (l : List It), d ≤ m ∧ T h d p l ∧ z = ⟨ky l, lk l, (d : Int), true⟩ := by
  intro m
  induction m using Nat.strongRecOn with
  | _ m ih =>
    intro p z hm e hz
    obtain ⟨inner, e0, e1, e2⟩ := belowO_eq' m h p
    rw [e0] at e
    unfold belowB at e
    split at e
    · rename_i hin
      split at e
      · simp only [Option.some.injEq] at e; rw [← e] at hz; cases hz
      · rename_i hr
        have hu : usedB h p = true := used_iff.mpr ⟨hin, by omega⟩
        have hnr := nodeRight_iff.mp (o.right p hu)
        split at e
        · rename_i hl
          split at e
          · simp only [Option.some.injEq] at e
            rw [← e] at hz
            have hm1 : 1 ≤ m := by simpa using hz
            refine ⟨1, (clAt h p).n.it, hm1, ⟨hu, hnr.2, .inl ⟨hl, rfl, rfl⟩⟩, ?_⟩
            rw [← e, decide_eq_true hm1]; rfl
          · cases e
        · rename_i hl
          have hl' : (clAt h p).n.leaf = false := by simpa using hl
          by_cases hm2 : 2 ≤ m
          · rw [e2 hm2] at e
            obtain ⟨D, ls, _, f, up, _⟩ := belowL_bwd (P := T h) _ zGt z true e hz (fun y hy x hx hxi => by
              obtain ⟨d, l, a, b, c⟩ := ih (m - 1) (by omega) (by omega) hx hxi
              exact ⟨d, l, by omega, b, b.gd, c⟩) 0 (fun h => by cases h) (fun _ => hnr.2.ne)
            have hDm : D ≤ m - 1 := by
              cases hi : (clAt h p).n.it with
              | nil => exact absurd hi hnr.2.ne
              | cons x it =>
                rw [hi] at f e
                cases f with
                | cons r _ =>
                  unfold belowL at e
                  cases hq : belowO (m - 1) h x.v with
                  | none => rw [hq] at e; cases e
                  | some xx =>
                    rw [hq] at e
                    have e' : (if badB zGt true x xx = true then some zGt else belowL (belowO (m - 1) h) (stepG zGt true xx) false it) = some z := e
                    by_cases hb : badB zGt true x xx = true
                    · rw [if_pos hb] at e'
                      simp only [Option.some.injEq] at e'
                      rw [← e'] at hz; cases hz
                    · have hb' : badB zGt true x xx = false := by simpa using hb
                      unfold badB at hb'
                      simp only [Bool.or_eq_false_iff, Bool.not_eq_false'] at hb'
                      obtain ⟨d, l, a, b, c⟩ := ih (m - 1) (by omega) (by omega) hq hb'.1
                      have := (r.2.1.uniq b).1
                      omega
            have hgd : Gd ls.flatten := by
              refine ⟨?_, up, fun x hx => ?_⟩
              · cases hi : (clAt h p).n.it with
                | nil => exact absurd hi hnr.2.ne
                | cons x it =>
                  rw [hi] at f
                  cases f with
                  | cons r _ => rw [List.flatten_cons]; intro e; exact r.2.2.ne (List.append_eq_nil_iff.mp e).1
              · obtain ⟨li, hli, hx⟩ := List.mem_flatten.mp hx
                obtain ⟨a, _, ha⟩ := f.mem_r hli
                exact ha.2.2.fit x hx
            have t : T h (D + 1) p ls.flatten := ⟨hu, hgd, .inr ⟨hl', ls, rfl, f.imp fun a b _ _ r => ⟨r.1, r.2.1⟩⟩⟩
            refine ⟨D + 1, ls.flatten, by omega, t, ?_⟩
            have := t.below m (by omega) hm
            rw [e0] at this
            unfold belowB at this
            rw [if_pos hin, if_neg hr, if_neg hl, e2 hm2, e] at this
            simpa using this
          · rw [e1 (by omega)] at e
            simp only [Option.some.injEq] at e; rw [← e] at hz; cases hz
    · cases e
theorem treeO_T {h : Hp} {B : Int} (o : Ok h B) {root : Int} (e : treeO h root = some true) : root = -1 ∨ ∃ d l, d ≤ 20 ∧ T h d root l := by
  unfold treeO at e
  split at e
  · rename_i h; exact .inl h
  · split at e
    · cases hq : belowO 20 h root with
      | none => rw [hq] at e; cases e
      | some z =>
        rw [hq] at e
        obtain ⟨d, l, a, b, _⟩ := below_T o 20 (by decide) hq (by simpa using e)
        exact .inr ⟨d, l, a, b⟩
    · cases e
theorem T_treeO {h : Hp} {root : Int} (e : root = -1 ∨ ∃ d l, d ≤ 20 ∧ T h d root l) : treeO h root = some true := by
  unfold treeO
  rcases e with e | ⟨d, l, hd, t⟩
  · rw [if_pos e]
  · have := neg_of_used t.used
    rw [if_neg (by omega), if_pos t.used, t.below 20 hd (by decide)]
    rfl
/-- In right heaps it is always told whether a tree is right. -/
theorem below_some {h : Hp} {B : Int} (o : Ok h B) : ∀ (m : Nat) {p : Int}, inB h p = true → ∃ z, belowO m h p = some z := by
  intro m
  induction m using Nat.strongRecOn with
  | _ m ih =>
    intro p hin
    obtain ⟨inner, e0, e1, e2⟩ := belowO_eq' m h p
    rw [e0]
    unfold belowB
    rw [if_pos hin]
    split
    · exact ⟨_, rfl⟩
    · rename_i hr
      have hu : usedB h p = true := used_iff.mpr ⟨hin, by omega⟩
      have hnr := nodeRight_iff.mp (o.right p hu)
      split
      · rw [if_pos (List.length_pos_iff.mpr hnr.2.ne)]; exact ⟨_, rfl⟩
      · rename_i hl
        have hl' : (clAt h p).n.leaf = false := by simpa using hl
        by_cases hm2 : 2 ≤ m
        · rw [e2 hm2]
          have hpl := o.plc p hu hl'
          generalize (clAt h p).n.it = it at hpl
          have : ∀ (it : List It) (out : Gt) (first : Bool), (∀ x ∈ it, inB h x.v = true) → ∃ z, belowL (belowO (m - 1) h) out first it = some z := by
            intro it
            induction it with
            | nil => intro out first _; exact ⟨_, rfl⟩
            | cons x it ih2 =>
              intro out first H
              obtain ⟨z, hz⟩ := ih (m - 1) (by omega) (H x List.mem_cons_self)
              unfold belowL
              rw [hz]
              show ∃ z', (if badB out first x z = true then some zGt else belowL (belowO (m - 1) h) (stepG out first z) false it) = some z'
              split
              · exact ⟨_, rfl⟩
              · exact ih2 _ _ fun y hy => H y (List.mem_cons_of_mem _ hy)
          exact this it zGt true hpl
        · rw [e1 (by omega)]; exact ⟨_, rfl⟩
theorem treeO_some {h : Hp} {B : Int} (o : Ok h B) (root : Int) : ∃ b, treeO h root = some b := by
  unfold treeO
  split
  · exact ⟨_, rfl⟩
  · split
    · rename_i hu
      obtain ⟨z, hz⟩ := below_some o 20 (used_iff.mp hu).1
      rw [hz]; exact ⟨_, rfl⟩
    · exact ⟨_, rfl⟩
end Go.Proofs.Ytopkoganfnabgaa.H
namespace Go.Proofs.Ytopkoganfnabgaa.H
/-- Items with one instead of that of its key. -/
def ins (l : List It) (x : It) : List It := l.filter (fun y => decide (y.k < x.k)) ++ x :: l.filter (fun y => decide (x.k < y.k))
theorem ins_mid {a m c : List It} {x : It} (ha : ∀ y ∈ a, y.k < x.k) (hc : ∀ y ∈ c, x.k < y.k) : ins (a ++ m ++ c) x = a ++ ins m x ++ c := by
  unfold ins
  rw [List.filter_append, List.filter_append, List.filter_append, List.filter_append]
  have e1 : a.filter (fun y => decide (y.k < x.k)) = a := List.filter_eq_self.mpr fun y hy => decide_eq_true (ha y hy)
  have e2 : a.filter (fun y => decide (x.k < y.k)) = [] := List.filter_eq_nil_iff.mpr fun y hy => by have := ha y hy; simp; omega
  have e3 : c.filter (fun y => decide (y.k < x.k)) = [] := List.filter_eq_nil_iff.mpr fun y hy => by have := hc y hy; simp; omega
  have e4 : c.filter (fun y => decide (x.k < y.k)) = c := List.filter_eq_self.mpr fun y hy => decide_eq_true (hc y hy)
  rw [e1, e2, e3, e4]
  simp
theorem ins_gd {l : List It} {x : It} (up : l.Pairwise fun a b => a.k < b.k) (f : ∀ x ∈ l, fitsB x.k = true ∧ fitsB x.v = true) (hx : fitsB x.k = true ∧ fitsB x.v = true) : Gd (ins l x) := by
  refine ⟨by unfold ins; simp, ?_, fun y hy => ?_⟩
  · unfold ins
    rw [List.pairwise_append, List.pairwise_cons]
    refine ⟨up.filter _, ⟨fun y hy => by simpa using (List.mem_filter.mp hy).2, up.filter _⟩, fun a ha b hb => ?_⟩
    have h1 : a.k < x.k := by simpa using (List.mem_filter.mp ha).2
    rcases List.mem_cons.mp hb with rfl | hb
    · exact h1
    · have h2 : x.k < b.k := by simpa using (List.mem_filter.mp hb).2
      omega
  · unfold ins at hy
    rcases List.mem_append.mp hy with hy | hy
    · exact f y (List.mem_filter.mp hy).1
    · rcases List.mem_cons.mp hy with rfl | hy
      · exact hx
      · exact f y (List.mem_filter.mp hy).1
theorem ins_len (l : List It) (x : It) : (ins l x).length ≤ l.length + 1 := by
  unfold ins
  rw [List.length_append, List.length_cons]
  have : ∀ l : List It, (l.filter (fun y => decide (y.k < x.k))).length + (l.filter (fun y => decide (x.k < y.k))).length ≤ l.length := by
    intro l
    induction l with
    | nil => simp
    | cons a l ih =>
      simp only [List.filter_cons, List.length_cons]
      by_cases h1 : a.k < x.k
      · rw [if_pos (decide_eq_true h1), if_neg (by simp; omega), List.length_cons]; omega
      · rw [if_neg (by simpa using h1)]
        split
        · rw [List.length_cons]; omega
        · omega
  have := this l
  omega
theorem cnt_take {l : List It} {key : Int} : ∀ y ∈ l.take (cnt l key), y.k < key := by
  unfold cnt
  induction l with
  | nil => intro y hy; simp at hy
  | cons a l ih =>
    intro y hy
    by_cases h : a.k < key
    · rw [List.takeWhile_cons, if_pos (decide_eq_true h), List.length_cons, List.take_succ_cons] at hy
      rcases List.mem_cons.mp hy with rfl | hy
      · exact h
      · exact ih y hy
    · rw [List.takeWhile_cons, if_neg (by simpa using h)] at hy; simp at hy
theorem cnt_le (l : List It) (key : Int) : cnt l key ≤ l.length := by
  unfold cnt
  induction l with
  | nil => simp
  | cons a l ih => rw [List.takeWhile_cons]; split <;> simp <;> omega
theorem cnt_at {l : List It} {key : Int} (h : cnt l key < l.length) : key ≤ (itAt l (cnt l key)).k := by
  unfold cnt at *
  induction l with
  | nil => simp at h
  | cons a l ih =>
    by_cases ha : a.k < key
    · rw [List.takeWhile_cons, if_pos (decide_eq_true ha)] at h ⊢
      simp only [List.length_cons] at h ⊢
      have := ih (by omega)
      simpa [itAt] using this
    · rw [List.takeWhile_cons, if_neg (by simpa using ha)]
      simp [itAt]; omega
theorem take_mem {l : List It} {i : Nat} {y : It} : y ∈ l.take i ↔ ∃ j, j < i ∧ j < l.length ∧ itAt l j = y := by
  constructor
  · intro h
    obtain ⟨j, hj, rfl⟩ := List.mem_iff_getElem.mp h
    rw [List.length_take] at hj
    exact ⟨j, by omega, by omega, by rw [itAt_get (by omega)]; simp⟩
  · rintro ⟨j, h1, h2, rfl⟩
    rw [itAt_get h2]
    exact List.mem_iff_getElem.mpr ⟨j, by rw [List.length_take]; omega, by simp⟩
theorem drop_mem {l : List It} {i : Nat} {y : It} : y ∈ l.drop i ↔ ∃ j, i ≤ j ∧ j < l.length ∧ itAt l j = y := by
  constructor
  · intro h
    obtain ⟨j, hj, rfl⟩ := List.mem_iff_getElem.mp h
    rw [List.length_drop] at hj
    exact ⟨i + j, by omega, by omega, by rw [itAt_get (by omega)]; simp⟩
  · rintro ⟨j, h1, h2, rfl⟩
    rw [itAt_get h2]
    refine List.mem_iff_getElem.mpr ⟨j - i, by rw [List.length_drop]; omega, ?_⟩
    rw [List.getElem_drop]; congr 1; omega
theorem up_lt {l : List It} (up : l.Pairwise fun a b => a.k < b.k) {i j : Nat} (hij : i < j) (hj : j < l.length) : (itAt l i).k < (itAt l j).k := by
  rw [List.pairwise_iff_getElem] at up
  rw [itAt_get hj, itAt_get (by omega)]
  exact up _ _ (by omega) hj hij
/-- At, in a leaf. -/
theorem at_leaf {l : List It} {x : It} (g : Gd l) (h4 : l.length ≤ 4) : ∃ i is, atO true l x.k = some (i, is) ∧ i + (if is = true then 1 else 0) ≤ l.length ∧ l.take i ++ [x] ++ l.drop (i + if is = true then 1 else 0) = ins l x := by
  unfold atO
  rw [if_pos ⟨sortedB_up.mpr g.up, by omega⟩]
  refine ⟨cnt l x.k, isAt l x.k, by simp, ?_⟩
  have hc := cnt_le l x.k
  have e1 : l.take (cnt l x.k) = l.filter (fun y => decide (y.k < x.k)) := by
    conv => rhs; rw [← List.take_append_drop (cnt l x.k) l]
    rw [List.filter_append, List.filter_eq_self.mpr (fun y hy => decide_eq_true (cnt_take y hy)), List.filter_eq_nil_iff.mpr (fun y hy => ?_), List.append_nil]
    obtain ⟨j, h1, h2, rfl⟩ := drop_mem.mp hy
    have := cnt_at (show cnt l x.k < l.length by omega)
    by_cases e : j = cnt l x.k
    · subst e; simp; omega
    · have := up_lt g.up (show cnt l x.k < j by omega) h2; simp; omega
  have e2 : ∀ m, (∀ y ∈ l.take m, ¬ x.k < y.k) → (∀ y ∈ l.drop m, x.k < y.k) → l.drop m = l.filter (fun y => decide (x.k < y.k)) := by
    intro m h1 h2
    conv => rhs; rw [← List.take_append_drop m l]
    rw [List.filter_append, List.filter_eq_nil_iff.mpr (fun y hy => by simpa using h1 y hy), List.filter_eq_self.mpr (fun y hy => decide_eq_true (h2 y hy)), List.nil_append]
  cases hi : isAt l x.k with
  | true =>
    unfold isAt at hi
    simp only [Bool.and_eq_true, decide_eq_true_eq] at hi
    obtain ⟨h1, h2⟩ := hi
    simp only [if_true]
    refine ⟨by omega, ?_⟩
    rw [e1, e2 (cnt l x.k + 1) (fun y hy => ?_) (fun y hy => ?_)]
    · unfold ins; simp
    · obtain ⟨j, j1, j2, rfl⟩ := take_mem.mp hy
      by_cases e : j = cnt l x.k
      · subst e; omega
      · have := up_lt g.up (show j < cnt l x.k by omega) h1; omega
    · obtain ⟨j, j1, j2, rfl⟩ := drop_mem.mp hy
      have := up_lt g.up (show cnt l x.k < j by omega) j2; omega
  | false =>
    unfold isAt at hi
    simp only [Bool.and_eq_false_iff, decide_eq_false_iff_not] at hi
    simp only [Bool.false_eq_true, if_false]
    refine ⟨by omega, ?_⟩
    rw [Nat.add_zero, e1, e2 (cnt l x.k) (fun y hy => ?_) (fun y hy => ?_)]
    · unfold ins; simp
    · have := cnt_take y hy; omega
    · obtain ⟨j, j1, j2, rfl⟩ := drop_mem.mp hy
      have h3 := cnt_at (show cnt l x.k < l.length by omega)
      have h4 : (itAt l (cnt l x.k)).k ≠ x.k := by omega
      by_cases e : j = cnt l x.k
      · subst e; omega
      · have := up_lt g.up (show cnt l x.k < j by omega) j2; omega
/-- At, in a node that is no leaf. -/
theorem at_inner {l : List It} {key : Int} (g : Gd l) (h4 : l.length ≤ 4) : ∃ i is, atO false l key = some (i, is) ∧ i < l.length ∧ (∀ y ∈ l.drop (i + 1), key < y.k) ∧ (0 < i → (itAt l i).k ≤ key) := by
  unfold atO
  rw [if_pos ⟨sortedB_up.mpr g.up, by omega⟩]
  have hc := cnt_le l key
  have hl := List.length_pos_iff.mpr g.ne
  cases hi : isAt l key with
  | true =>
    refine ⟨cnt l key, true, by simp, ?_⟩
    unfold isAt at hi
    simp only [Bool.and_eq_true, decide_eq_true_eq] at hi
    obtain ⟨h1, h2⟩ := hi
    refine ⟨h1, fun y hy => ?_, fun _ => by omega⟩
    obtain ⟨j, j1, j2, rfl⟩ := drop_mem.mp hy
    have := up_lt g.up (show cnt l key < j by omega) j2; omega
  | false =>
    refine ⟨cnt l key - 1, false, by simp, by omega, fun y hy => ?_, fun h0 => ?_⟩
    · obtain ⟨j, j1, j2, rfl⟩ := drop_mem.mp hy
      unfold isAt at hi
      simp only [Bool.and_eq_false_iff, decide_eq_false_iff_not] at hi
      have h3 := cnt_at (show cnt l key < l.length by omega)
      by_cases e : j = cnt l key
      · subst e; omega
      · have := up_lt g.up (show cnt l key < j by omega) j2; omega
    · have : itAt l (cnt l key - 1) ∈ l.take (cnt l key) := take_mem.mpr ⟨cnt l key - 1, by omega, by omega, rfl⟩
      exact Int.le_of_lt (cnt_take _ this)
theorem split_spec {l : List It} (h1 : 1 ≤ l.length) (h7 : l.length ≤ 7) : ∃ rows, splitO l = some rows ∧ rows.flatten = l ∧ (∀ r ∈ rows, r ≠ [] ∧ r.length ≤ 4) ∧ 1 ≤ rows.length ∧ rows.length ≤ 2 := by
  unfold splitO
  rw [if_neg (by omega)]
  by_cases h4 : l.length ≤ 4
  · rw [if_pos h4]
    exact ⟨[l], rfl, by simp, fun r hr => by rw [List.mem_singleton.mp hr]; exact ⟨fun e => by rw [e] at h1; simp at h1, h4⟩, by simp, by simp⟩
  · rw [if_neg h4, if_pos h7]
    refine ⟨[l.take 3, l.drop 3], rfl, by simp, fun r hr => ?_, by simp, by simp⟩
    rcases List.mem_cons.mp hr with rfl | hr
    · refine ⟨fun e => ?_, by rw [List.length_take]; omega⟩
      have := congrArg List.length e; rw [List.length_take, List.length_nil] at this; omega
    · rw [List.mem_singleton.mp hr]
      refine ⟨fun e => ?_, by rw [List.length_drop]; omega⟩
      have := congrArg List.length e; rw [List.length_drop, List.length_nil] at this; omega
theorem F2.rows {α β : Type} {R : α → β → Prop} : ∀ (rows : List (List α)) {m : List β}, F2 R rows.flatten m → ∃ ms : List (List β), m = ms.flatten ∧ F2 (F2 R) rows ms
  | [], m, f => by cases f; exact ⟨[], rfl, .nil⟩
  | r :: rows, m, f => by
    rw [List.flatten_cons] at f
    obtain ⟨a, b, rfl, fa, fb⟩ := F2.split (m := m) r _ f
    obtain ⟨ms, rfl, fm⟩ := F2.rows rows fb
    exact ⟨a :: ms, by simp, .cons fa fm⟩
theorem F2.comp {α β γ : Type} {R : α → β → Prop} {S : β → γ → Prop} {U : α → γ → Prop} {l : List α} {m : List β} (H : ∀ a b c, a ∈ l → b ∈ m → R a b → S b c → U a c) (f : F2 R l m) : ∀ {n : List γ}, F2 S m n → F2 U l n := by
  induction f with
  | nil => intro n g; cases g; exact .nil
  | cons r _ ih =>
    intro n g
    cases g with
    | cons s g => exact .cons (H _ _ _ List.mem_cons_self List.mem_cons_self r s) (ih (fun a b c ha hb => H a b c (List.mem_cons_of_mem _ ha) (List.mem_cons_of_mem _ hb)) g)
theorem F2.map_r {α β γ : Type} {R : α → β → Prop} {U : α → γ → Prop} {k : β → γ} {l : List α} {m : List β} (H : ∀ a b, a ∈ l → b ∈ m → R a b → U a (k b)) (f : F2 R l m) : F2 U l (m.map k) := by
  induction f with
  | nil => exact .nil
  | cons r _ ih => exact .cons (H _ _ List.mem_cons_self List.mem_cons_self r) (ih fun a b ha hb => H a b (List.mem_cons_of_mem _ ha) (List.mem_cons_of_mem _ hb))
theorem flatten_map_flatten {α : Type} : ∀ (ms : List (List (List α))), (ms.map List.flatten).flatten = ms.flatten.flatten
  | [] => rfl
  | m :: ms => by simp [flatten_map_flatten ms]
/-- A row of trees is good, with what tells it. -/
theorem Gd.of_trees {h : Hp} {d : Nat} {it : List It} {ls : List (List It)} (f : F2 (fun x li => x.k = ky li ∧ T h d x.v li) it ls) (hne : it ≠ []) (up : ls.flatten.Pairwise fun a b => a.k < b.k) (hv : ∀ x ∈ it, fitsB x.v = true) : Gd it ∧ Gd ls.flatten := by
  have hk : ∀ x ∈ it, fitsB x.k = true := fun x hx => by
    obtain ⟨li, _, e, t⟩ := f.mem_l hx
    obtain ⟨y, hy, ey⟩ := ky_mem t.gd.ne
    rw [e, ← ey]; exact (t.gd.fit y hy).1
  refine ⟨⟨hne, ?_, fun x hx => ⟨hk x hx, hv x hx⟩⟩, ⟨?_, up, fun x hx => ?_⟩⟩
  · clear hv hk hne
    induction f with
    | nil => exact .nil
    | cons r f ih =>
      rename_i a b la lb
      rw [List.flatten_cons, List.pairwise_append] at up
      rw [List.pairwise_cons]
      refine ⟨fun y hy => ?_, ih up.2.1⟩
      obtain ⟨li, hli, e, t⟩ := f.mem_l hy
      obtain ⟨z, hz, ez⟩ := ky_mem t.gd.ne
      obtain ⟨z', hz', ez'⟩ := ky_mem r.2.gd.ne
      have := up.2.2 z' hz' z (List.mem_flatten.mpr ⟨li, hli, hz⟩)
      rw [r.1, e]; omega
  · cases f with
    | nil => exact absurd rfl hne
    | cons r _ => rw [List.flatten_cons]; intro e; exact r.2.gd.ne (List.append_eq_nil_iff.mp e).1
  · obtain ⟨li, hli, hx⟩ := List.mem_flatten.mp hx
    obtain ⟨a, _, _, t⟩ := f.mem_r hli
    exact t.gd.fit x hx
end Go.Proofs.Ytopkoganfnabgaa.H
