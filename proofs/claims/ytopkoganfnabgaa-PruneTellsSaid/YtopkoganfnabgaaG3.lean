import Derived.Test.YtopkoganfnabgaaG2
import Derived.Test.YtopkoganfnabgaaG1
namespace Go.Proofs.Ytopkoganfnabgaa.H
open Go.RowKit Go.Proofs.YtopkoganfnabgaaW.PrintWords Go.Proofs.YtopkoganfnabgaaW.PrintLast Go.Proofs.YtopkoganfnabgaaW.PrintMore
attribute [local go_sem] max2_int min2_int max_two min_two max_three min_three max_four min_four
set_option linter.unusedVariables false
set_option linter.unusedSimpArgs false
set_option maxHeartbeats 4000000 in
set_option maxRecDepth 100000 in
theorem nodeRight_walk (A : Option Addr) (c : Nat) (n : Nd) (w : World) (hr : kIt.C w A n.it.length n.it) :
    Calls Try.prog 80 #[.agg #[.bool n.leaf, .slice A n.it.length c]] w fun e w' => e = .returned (.bool (nodeRight n)) ∧ Below w.heap.size w w' := by
  by_cases h1 : n.it.length < 1
  · have hu : nodeRight n = false := by unfold nodeRight; simp; omega
    rw [hu]
    have q1 : decide ((n.it.length : Int) < 1) = true := decide_eq_true (by omega)
    have q2 : decide (n.it.length < 1) = true := decide_eq_true h1
    clear hu hr
    go_enter Try.func80, Try.ntmps80
    go_wp2
    go_ret
    exact ⟨rfl, by repeat (first | (with_reducible exact Below.refl _ _) | (with_reducible refine below_alloc ?_ _) | (with_reducible refine below_drew1 ?_) | (with_reducible refine pw_below_drewN ?_ _) | fail)⟩
  · have q1 : decide ((n.it.length : Int) < 1) = false := decide_eq_false (by omega)
    have q2 : decide (n.it.length < 1) = false := decide_eq_false h1
    by_cases h2 : 4 < n.it.length
    · have hu : nodeRight n = false := by unfold nodeRight; simp; omega
      rw [hu]
      have q3 : decide ((4 : Int) < (n.it.length : Int)) = true := decide_eq_true (by omega)
      have q4 : decide (4 < n.it.length) = true := decide_eq_true h2
      clear hu hr h1
      go_enter Try.func80, Try.ntmps80
      go_wp2
      go_ret
      exact ⟨rfl, by repeat (first | (with_reducible exact Below.refl _ _) | (with_reducible refine below_alloc ?_ _) | (with_reducible refine below_drew1 ?_) | (with_reducible refine pw_below_drewN ?_ _) | fail)⟩
    · have q3 : decide ((4 : Int) < (n.it.length : Int)) = false := decide_eq_false (by omega)
      have q4 : decide (4 < n.it.length) = false := decide_eq_false h2
      have HR := Aside0.mk (Kd.C_alloc hr (.cells #[.bool n.leaf, .slice A n.it.length c] 77))
      have HL := Aside0.mk (show 1 ≤ n.it.length ∧ n.it.length ≤ 4 by omega)
      have HBX := Aside0.mk (blk_new w (.cells #[.bool n.leaf, .slice A n.it.length c] 77))
      have hB0 : Below w.heap.size w (w.alloc (.cells #[.bool n.leaf, .slice A n.it.length c] 77)) := below_alloc (Below.refl _ _) _
      clear hr h1 h2
      go_enter Try.func80, Try.ntmps80
      go_wp2
      generalize w.alloc (.cells #[.bool n.leaf, .slice A n.it.length c] 77) = W1 at HR HBX hB0 ⊢
      have HB0 := Aside0.mk hB0
      clear hB0 q1 q2 q3 q4
      go_loopg [18] n.it.length (fun g s18 wr => ∃ k : Nat, s18 = .int .i64 k ∧ k + g = n.it.length ∧ Aside0 (∀ i, i < k → okAt n.it i = true) ∧ Aside0 (Below W1.heap.size W1 wr))
      case atStart => exact ⟨0, rfl, by omega, ⟨fun i h => by omega⟩, ⟨Below.refl _ _⟩⟩
      case round =>
        obtain ⟨k, rfl, hk, HO, HB⟩ := hrel
        have b1 := (blk_cell (blk_below HBX.out HB.out) 1).trans (show _ = some (Value.slice A n.it.length c) from rfl)
        by_cases hlt : k < n.it.length
        · obtain ⟨g1, rfl⟩ : ∃ g1, gk = g1 + 1 := ⟨gk - 1, by omega⟩
          have r1 : decide (k < n.it.length) = true := decide_eq_true hlt
          have r2 : (k < n.it.length) = True := eq_true hlt
          obtain ⟨ad, rfl, x0, x1⟩ := at_it (Kd.C_below HR.out HB.out) k hlt
          have HBW := Aside0.mk (below_step HB0.out HB.out)
          obtain ⟨x, hx⟩ : ∃ x, x = itAt n.it k := ⟨_, rfl⟩
          have hok : okAt n.it k = (fitsB x.k && (fitsB x.v && (decide (k = 0) || decide ((itAt n.it (k - 1)).k < x.k)))) := by rw [hx]; rfl
          rw [← hx] at x0 x1
          have HOK := Aside0.mk hok
          have HK := Aside0.mk (And.intro hlt hk)
          have HW := Aside0.mk (show wrap64 ((k : Int) + 1) = ((k + 1 : Nat) : Int) by have := HL.out; unfold wrap64; omega)
          have x2 := al1 x0
          have x3 := al1 x1
          have b2 := al1 b1
          clear hx hok hlt hk
          have hfk : ∀ W, Calls Try.prog 99 #[.int .i64 x.k] W fun e w' => e = .returned (.bool (fitsB x.k)) ∧ w' = W := fun W => nodeFits_walk x.k W
          have hfv : ∀ W, Calls Try.prog 99 #[.int .i64 x.v] W fun e w' => e = .returned (.bool (fitsB x.v)) ∧ w' = W := fun W => nodeFits_walk x.v W
          obtain ⟨b1, hb1⟩ : ∃ b1, b1 = fitsB x.k := ⟨_, rfl⟩
          obtain ⟨b2', hb2⟩ : ∃ b2, b2 = fitsB x.v := ⟨_, rfl⟩
          rw [← hb1] at hfk
          rw [← hb2] at hfv
          rw [← hb1, ← hb2] at HOK
          have HFK := Aside0.mk hfk
          have HFV := Aside0.mk hfv
          clear hfk hfv hb1 hb2
          cases b1 with
          | false =>
            have HF := Aside0.mk (nodeRight_false HK.out.1 (by rw [HOK.out]; rfl))
            (go_wp2; go_quiet ((first | (go_at_call 99; exact Calls.quiet_of_same (HFK.out _)) | (go_at_call 99; exact Calls.quiet_of_same (HFV.out _)) | fail)); go_wp2; go_ret; exact ⟨ret_b HF.out.symm, by repeat (first | (with_reducible exact Below.refl _ _) | (with_reducible refine below_alloc ?_ _) | (with_reducible refine below_drew1 ?_) | (with_reducible refine pw_below_drewN ?_ _) | (with_reducible exact HBW.out))⟩)
          | true =>
          cases b2' with
          | false =>
            have HF := Aside0.mk (nodeRight_false HK.out.1 (by rw [HOK.out]; rfl))
            (go_wp2; go_quiet ((first | (go_at_call 99; exact Calls.quiet_of_same (HFK.out _)) | (go_at_call 99; exact Calls.quiet_of_same (HFV.out _)) | fail)); go_wp2; go_ret; exact ⟨ret_b HF.out.symm, by repeat (first | (with_reducible exact Below.refl _ _) | (with_reducible refine below_alloc ?_ _) | (with_reducible refine below_drew1 ?_) | (with_reducible refine pw_below_drewN ?_ _) | (with_reducible exact HBW.out))⟩)
          | true =>
          by_cases hk0 : k = 0
          · have HN := Aside0.mk (show okAt n.it k = true by rw [HOK.out, hk0]; rfl)
            have p1 : (0 < (k : Int)) = False := eq_false (by omega)
            have p2 : decide (0 < (k : Int)) = false := decide_eq_false (by omega)
            have p3 : decide (0 < k) = false := decide_eq_false (by omega)
            have p4 : (0 < k) = False := eq_false (by omega)
            have HK0 := Aside0.mk hk0
            clear hk0
            go_wp2
            go_quiet ((first | (go_at_call 99; exact Calls.quiet_of_same (HFK.out _)) | (go_at_call 99; exact Calls.quiet_of_same (HFV.out _)) | fail))
            go_wp2
            go_roundg g1
            case measure => omega
            case rel => exact ⟨k + 1, by rw [HW.out], by have := HK.out; omega, ⟨fun i hi => by have := HK0.out; obtain rfl : i = k := (by omega); exact HN.out⟩, ⟨by repeat (first | (with_reducible exact Below.refl _ _) | (with_reducible refine below_alloc ?_ _) | (with_reducible refine below_drew1 ?_) | (with_reducible refine pw_below_drewN ?_ _) | (with_reducible exact HB.out))⟩⟩
          · obtain ⟨j, hj1⟩ : ∃ j, j = k - 1 := ⟨_, rfl⟩
            have hj : j < n.it.length := by have := HK.out; omega
            obtain ⟨ad', e', y0, _⟩ := at_it (Kd.C_below HR.out HB.out) j hj
            cases e'
            rw [← hj1] at HOK
            obtain ⟨y, hy⟩ : ∃ y, y = itAt n.it j := ⟨_, rfl⟩
            rw [← hy] at y0 HOK
            have y1 := al1 y0
            have p1 : (0 < (k : Int)) = True := eq_true (by omega)
            have p2 : decide (0 < (k : Int)) = true := decide_eq_true (by omega)
            have p6 : decide (0 < k) = true := decide_eq_true (by omega)
            have p7 : (0 < k) = True := eq_true (by omega)
            have p3 : IntKind.i64.wrap ((k : Int) - 1) = (j : Int) := by rw [i64_w]; have := HL.out; have := HK.out; unfold wrap64; omega
            have p4 : (j < n.it.length) = True := eq_true hj
            have p5 : ((j : Int) < (n.it.length : Int)) = True := eq_true (by omega)
            have HK0 := Aside0.mk hk0
            clear hy hj hj1 hk0
            by_cases e5 : x.k ≤ y.k
            · have HF := Aside0.mk (nodeRight_false HK.out.1 (by rw [HOK.out, decide_eq_false HK0.out]; simp; omega))
              have d5 : decide (x.k ≤ y.k) = true := decide_eq_true e5
              clear e5
              (go_wp2; go_quiet ((first | (go_at_call 99; exact Calls.quiet_of_same (HFK.out _)) | (go_at_call 99; exact Calls.quiet_of_same (HFV.out _)) | fail)); go_wp2; go_ret; exact ⟨ret_b HF.out.symm, by repeat (first | (with_reducible exact Below.refl _ _) | (with_reducible refine below_alloc ?_ _) | (with_reducible refine below_drew1 ?_) | (with_reducible refine pw_below_drewN ?_ _) | (with_reducible exact HBW.out))⟩)
            · have d5 : decide (x.k ≤ y.k) = false := decide_eq_false e5
              have HN := Aside0.mk (show okAt n.it k = true by rw [HOK.out]; simp; omega)
              clear e5
              go_wp2
              go_quiet ((first | (go_at_call 99; exact Calls.quiet_of_same (HFK.out _)) | (go_at_call 99; exact Calls.quiet_of_same (HFV.out _)) | fail))
              go_wp2
              go_roundg g1
              case measure => omega
              case rel => exact ⟨k + 1, by rw [HW.out], by have := HK.out; omega, ⟨fun i hi => by rcases Nat.lt_or_ge i k with h | h; exact HO.out i h; obtain rfl : i = k := (by omega); exact HN.out⟩, ⟨by repeat (first | (with_reducible exact Below.refl _ _) | (with_reducible refine below_alloc ?_ _) | (with_reducible refine below_drew1 ?_) | (with_reducible refine pw_below_drewN ?_ _) | (with_reducible exact HB.out))⟩⟩
        · have r1 : decide (k < n.it.length) = false := decide_eq_false hlt
          have r2 : (k < n.it.length) = False := eq_false hlt
          have HF := Aside0.mk (nodeRight_true HL.out.1 HL.out.2 (fun i hi => HO.out i (by omega)))
          have HBW := Aside0.mk (below_step HB0.out HB.out)
          clear hlt hk
          go_wp2
          go_ret
          exact ⟨ret_b HF.out.symm, HBW.out⟩
end Go.Proofs.Ytopkoganfnabgaa.H
namespace Go.Proofs.Ytopkoganfnabgaa.H
open Go.RowKit Go.Proofs.YtopkoganfnabgaaW.PrintWords Go.Proofs.YtopkoganfnabgaaW.PrintLast Go.Proofs.YtopkoganfnabgaaW.PrintMore
attribute [local go_sem] max2_int min2_int max_two min_two max_three min_three max_four min_four
set_option linter.unusedVariables false
set_option linter.unusedSimpArgs false
theorem tw_len {α : Type} (p : α → Bool) (z : α) : ∀ (l : List α) (k : Nat), k < l.length → (∀ i, i < k → p (l.getD i z) = false) → p (l.getD k z) = true → (l.takeWhile fun x => !p x).length = k ∧ l.any p = true
  | [], k, hk, _, _ => by simp at hk
  | a :: l, 0, _, _, h2 => by
    have h2 : p a = true := h2
    simp [List.takeWhile_cons, h2]
  | a :: l, k + 1, hk, h1, h2 => by
    have h0 : p a = false := h1 0 (by omega)
    obtain ⟨e1, e2⟩ := tw_len p z l k (by simpa using hk) (fun i hi => by have := h1 (i + 1) (by omega); simpa using this) (by simpa using h2)
    simp [List.takeWhile_cons, h0, e1, e2]
theorem tw_all {α : Type} (p : α → Bool) (z : α) : ∀ (l : List α), (∀ i, i < l.length → p (l.getD i z) = false) → (l.takeWhile fun x => !p x).length = l.length ∧ l.any p = false
  | [], _ => ⟨rfl, rfl⟩
  | a :: l, h => by
    have h0 : p a = false := h 0 (by simp)
    obtain ⟨e1, e2⟩ := tw_all p z l (fun i hi => by have := h (i + 1) (by simpa using hi); simpa using this)
    refine ⟨?_, ?_⟩
    · rw [List.takeWhile_cons, h0]; simp [e1]
    · rw [List.any_cons, h0, e2]; rfl
def idxI {α : Type} (p : α → Bool) (l : List α) : Int := if l.any p = true then ((l.takeWhile fun x => !p x).length : Int) else -1
set_option maxHeartbeats 4000000 in
set_option maxRecDepth 100000 in
theorem idxIt_walk (gf : Nat) (pre lb : Array Value) (eg : ∀ args w, (callFunc gf args).run Try.prog w = .ok (.enter gf args) w) (pf : It → Bool) (B : Option Addr) (cb : Nat) (l : List It) (w : World) (hr : kIt.C w B l.length l)
    (hF : ∀ i W, i < l.length → Below w.heap.size w W → Calls Try.prog gf (pre ++ #[.agg #[.int .i64 (itAt l i).k, .int .i64 (itAt l i).v]] ++ lb) W fun e W' => e = .returned (.bool (pf (itAt l i))) ∧ Below W.heap.size W W') :
    Calls Try.prog 114 #[.slice B l.length cb, .func (.func gf) pre lb] w fun e w' => e = .returned (.int .i64 (idxI pf l)) ∧ Below w.heap.size w w' := by
  have hm := Kd.C_max hr
  have HR := Aside0.mk hr
  have HF := Aside0.mk hF
  clear hr hF
  go_enter Try.func114, Try.ntmps114
  go_wp2
  go_loopg [8] l.length (fun g s8 wr => ∃ k : Nat, s8 = .int .i64 k ∧ k + g = l.length ∧ Aside0 (∀ i, i < k → pf (itAt l i) = false) ∧ Aside0 (Below w.heap.size w wr))
  case atStart => exact ⟨0, rfl, by omega, ⟨fun i h => by omega⟩, ⟨Below.refl _ _⟩⟩
  case round =>
    obtain ⟨k, rfl, hk, HO, HB⟩ := hrel
    by_cases hlt : k < l.length
    · have r1 : decide (k < l.length) = true := decide_eq_true hlt
      have r2 : (k < l.length) = True := eq_true hlt
      obtain ⟨g1, rfl⟩ : ∃ g1, gk = g1 + 1 := ⟨gk - 1, by omega⟩
      obtain ⟨ad, rfl, x0, x1⟩ := at_it (Kd.C_below HR.out HB.out) k hlt
      have hc := HF.out k wr hlt HB.out
      obtain ⟨x, hx⟩ : ∃ x, x = itAt l k := ⟨_, rfl⟩
      rw [← hx] at x0 x1 hc
      have HX := Aside0.mk hx
      have HK := Aside0.mk (And.intro hlt hk)
      have HW := Aside0.mk (show wrap64 ((k : Int) + 1) = ((k + 1 : Nat) : Int) by unfold wrap64; omega)
      obtain ⟨b, hb⟩ : ∃ b, b = pf x := ⟨_, rfl⟩
      rw [← hb] at hc
      have HBP := Aside0.mk hb
      have HC := Aside0.mk hc
      clear hx hlt hk hc hb
      cases b with
      | true =>
        go_wp2
        refine HC.out.mono ?_
        rintro e w3 ⟨rfl, hb3⟩
        have HB3 := Aside0.mk hb3
        clear hb3
        go_wp2
        go_ret
        obtain ⟨e1, e2⟩ := tw_len pf zIt l k HK.out.1 HO.out (by show pf (itAt l k) = true; rw [← HX.out]; exact HBP.out.symm)
        have hidx : idxI pf l = (k : Int) := by unfold idxI; rw [if_pos e2, e1]
        exact ⟨ret_i hidx.symm, below_step HB.out HB3.out⟩
      | false =>
        have HN := Aside0.mk (show pf (itAt l k) = false by rw [← HX.out]; exact HBP.out.symm)
        go_wp2
        refine HC.out.mono ?_
        rintro e w3 ⟨rfl, hb3⟩
        have HB3 := Aside0.mk hb3
        clear hb3
        go_wp2
        go_roundg g1
        case measure => omega
        case rel => exact ⟨k + 1, by rw [HW.out], by have := HK.out; omega, ⟨fun i hi => by rcases Nat.lt_or_ge i k with h | h; exact HO.out i h; obtain rfl : i = k := (by omega); exact HN.out⟩, ⟨below_step HB.out HB3.out⟩⟩
    · have r1 : decide (k < l.length) = false := decide_eq_false hlt
      have r2 : (k < l.length) = False := eq_false hlt
      have HN := Aside0.mk (show ∀ i, i < l.length → pf (l.getD i zIt) = false from fun i hi => HO.out i (by omega))
      clear hlt hk
      go_wp2
      go_ret
      obtain ⟨e1, e2⟩ := tw_all pf zIt l HN.out
      have hidx : idxI pf l = -1 := by unfold idxI; rw [e2]; rfl
      exact ⟨ret_i hidx.symm, HB.out⟩
theorem contIt_walk (gf : Nat) (pre lb : Array Value) (eg : ∀ args w, (callFunc gf args).run Try.prog w = .ok (.enter gf args) w) (pf : It → Bool) (B : Option Addr) (cb : Nat) (l : List It) (w : World) (hr : kIt.C w B l.length l)
    (hF : ∀ i W, i < l.length → Below w.heap.size w W → Calls Try.prog gf (pre ++ #[.agg #[.int .i64 (itAt l i).k, .int .i64 (itAt l i).v]] ++ lb) W fun e W' => e = .returned (.bool (pf (itAt l i))) ∧ Below W.heap.size W W') :
    Calls Try.prog 100 #[.slice B l.length cb, .func (.func gf) pre lb] w fun e w' => e = .returned (.bool (l.any pf)) ∧ Below w.heap.size w w' := by
  have hi := idxIt_walk gf pre lb eg pf B cb l w hr hF
  have hge : decide (0 ≤ idxI pf l) = l.any pf := by
    unfold idxI
    cases h : l.any pf with
    | true => rw [if_pos rfl]; exact decide_eq_true (by omega)
    | false => simp
  obtain ⟨b, hb⟩ : ∃ b, b = l.any pf := ⟨_, rfl⟩
  rw [← hb] at hge ⊢
  obtain ⟨q, hq⟩ : ∃ q, q = idxI pf l := ⟨_, rfl⟩
  rw [← hq] at hge hi
  have HI := Aside0.mk hi
  clear hi hF hb hq hr
  go_enter Try.func100, Try.ntmps100
  go_wp2_with (first | (go_at_call 114; (with_reducible refine HI.out.mono ?_); rintro e w2 ⟨rfl, hb2⟩; have HB2 := Aside0.mk hb2; clear hb2) | fail)
  go_ret
  exact ⟨rfl, HB2.out⟩
set_option maxHeartbeats 1000000 in
theorem leads1_walk (A : Option Addr) (c : Nat) (h : Hp) (b : Nat) (k v : Int) (w : World) (hr : kCl.C w A h.c.length h.c) (hb : w.heap[b]? = some (.cells #[.slice A h.c.length c, .int .i64 h.keep] 24)) :
    Calls Try.prog 101 #[.agg #[.int .i64 k, .int .i64 v], .pointer (some ⟨b, 0, none⟩)] w fun e w' => e = .returned (.bool (!usedB h v)) ∧ Below w.heap.size w w' := by
  obtain ⟨W1, hW1⟩ : ∃ W1, W1 = w.alloc (.cells #[.int .i64 k, .int .i64 v] 26) := ⟨_, rfl⟩
  have HB0 := Aside0.mk (show Below w.heap.size w W1 by rw [hW1]; exact below_alloc (Below.refl _ _) _)
  have HX := Aside0.mk (show W1.heap[w.heap.size]? = some (.cells #[.int .i64 k, .int .i64 v] 26) by rw [hW1]; exact blk_new w _)
  have HH := Aside0.mk (blk_below hb HB0.out)
  have hi := isUsed_walk A c h v W1 (Kd.C_below hr HB0.out)
  obtain ⟨u, hu⟩ : ∃ u, u = usedB h v := ⟨_, rfl⟩
  rw [← hu] at hi ⊢
  have HI := Aside0.mk hi
  have c0 := (blk_cell HH.out 0).trans (show _ = some (Value.slice A h.c.length c) from rfl)
  have c1 := (blk_cell HH.out 1).trans (show _ = some (Value.int .i64 h.keep) from rfl)
  have x1 := (blk_cell HX.out 1).trans (show _ = some (Value.int .i64 v) from rfl)
  have hW1' := Aside0.mk hW1
  clear hr hb hi hu hW1
  go_enter Try.func101, Try.ntmps101
  go_upto_region 1 with (fail)
  rw [← hW1'.out]
  go_wp2_with (first | (go_at_call 102; (with_reducible refine HI.out.mono ?_); rintro e w2 ⟨rfl, hb2⟩; have HB2 := Aside0.mk hb2; clear hb2) | fail)
  go_ret
  exact ⟨rfl, below_step HB0.out HB2.out⟩
set_option maxHeartbeats 1000000 in
theorem leads_walk (A B : Option Addr) (c cb : Nat) (h : Hp) (n : Nd) (w : World) (hr : kCl.C w A h.c.length h.c) (hn : kIt.C w B n.it.length n.it) :
    Calls Try.prog 81 #[.agg #[.slice A h.c.length c, .int .i64 h.keep], .agg #[.bool n.leaf, .slice B n.it.length cb]] w fun e w' => e = .returned (.bool (leadsB h n)) ∧ Below w.heap.size w w' := by
  obtain ⟨lf, l⟩ := n
  show Calls Try.prog 81 #[.agg #[.slice A h.c.length c, .int .i64 h.keep], .agg #[.bool lf, .slice B l.length cb]] w _
  replace hn : kIt.C w B l.length l := hn
  obtain ⟨W1, hW1⟩ : ∃ W1, W1 = (w.alloc (.cells #[.slice A h.c.length c, .int .i64 h.keep] 24)).alloc (.cells #[.bool lf, .slice B l.length cb] 77) := ⟨_, rfl⟩
  have HB0 := Aside0.mk (show Below w.heap.size w W1 by rw [hW1]; exact below_alloc (below_alloc (Below.refl _ _) _) _)
  have HH := Aside0.mk (show W1.heap[w.heap.size]? = some (.cells #[.slice A h.c.length c, .int .i64 h.keep] 24) by rw [hW1]; exact blk_alloc (blk_new w _) _)
  have HN := Aside0.mk (show W1.heap[w.heap.size + 1]? = some (.cells #[.bool lf, .slice B l.length cb] 77) by rw [hW1]; exact blk2 w _ _)
  have n0 := (blk_cell HN.out 0).trans (show _ = some (Value.bool lf) from rfl)
  have n1 := (blk_cell HN.out 1).trans (show _ = some (Value.slice B l.length cb) from rfl)
  have HC := Aside0.mk (contIt_walk 101 #[] #[.pointer (some ⟨w.heap.size, 0, none⟩)] (enters_of Try.func101 (by kernel_rfl) rfl) (fun x => !usedB h x.v) B cb l W1 (Kd.C_below hn HB0.out)
    (fun i W hi hb => leads1_walk A c h w.heap.size (itAt l i).k (itAt l i).v W (Kd.C_below hr (below_step HB0.out hb)) (blk_below HH.out hb)))
  have hW1' := Aside0.mk hW1
  clear hr hn hW1
  cases lf with
  | true =>
    go_enter Try.func81, Try.ntmps81
    go_upto_region 1 with (fail)
    rw [← hW1'.out]
    go_wp2
    go_ret
    exact ⟨rfl, HB0.out⟩
  | false =>
    have hl : leadsB h ⟨false, l⟩ = !(l.any fun x => !usedB h x.v) := by
      unfold leadsB
      simp [List.all_eq_not_any_not]
    rw [hl]
    obtain ⟨u, hu⟩ : ∃ u, u = (l.any fun x => !usedB h x.v) := ⟨_, rfl⟩
    rw [← hu] at HC ⊢
    clear hl hu
    go_enter Try.func81, Try.ntmps81
    go_upto_region 1 with (fail)
    rw [← hW1'.out]
    go_wp2_with (first | (go_at_call 100; (with_reducible refine HC.out.mono ?_); rintro e w2 ⟨rfl, hb2⟩; have HB2 := Aside0.mk hb2; clear hb2) | fail)
    go_ret
    exact ⟨rfl, below_step HB0.out HB2.out⟩
end Go.Proofs.Ytopkoganfnabgaa.H
namespace Go.Proofs.Ytopkoganfnabgaa.H
open Go.RowKit Go.Proofs.YtopkoganfnabgaaW.PrintWords Go.Proofs.YtopkoganfnabgaaW.PrintLast Go.Proofs.YtopkoganfnabgaaW.PrintMore
attribute [local go_sem] max2_int min2_int max_two min_two max_three min_three max_four min_four
set_option linter.unusedVariables false
set_option linter.unusedSimpArgs false
set_option maxHeartbeats 4000000 in
set_option maxRecDepth 100000 in
theorem idxCl_walk (gf : Nat) (eg : ∀ args w, (callFunc gf args).run Try.prog w = .ok (.enter gf args) w) (pf : Cl → Bool) (A : Option Addr) (c : Nat) (l : List Cl) (w : World) (hr : kCl.C w A l.length l)
    (hF : ∀ (x : Cl) (B : Option Addr) (cb : Nat) (W : World), Calls Try.prog gf #[.agg #[.int .i64 x.ref, .bool x.pin, .bool x.n.leaf, .slice B x.n.it.length cb]] W fun e W' => e = .returned (.bool (pf x)) ∧ Below W.heap.size W W') :
    Calls Try.prog 82 #[.slice A l.length c, .func (.func gf) #[] #[]] w fun e w' => e = .returned (.int .i64 (idxI pf l)) ∧ Below w.heap.size w w' := by
  have hm := Kd.C_max hr
  have HR := Aside0.mk hr
  have HF := Aside0.mk hF
  clear hr hF
  go_enter Try.func82, Try.ntmps82
  go_wp2
  go_loopg [8] l.length (fun g s8 wr => ∃ k : Nat, s8 = .int .i64 k ∧ k + g = l.length ∧ Aside0 (∀ i, i < k → pf (l.getD i zCl) = false) ∧ Aside0 (Below w.heap.size w wr))
  case atStart => exact ⟨0, rfl, by omega, ⟨fun i h => by omega⟩, ⟨Below.refl _ _⟩⟩
  case round =>
    obtain ⟨k, rfl, hk, HO, HB⟩ := hrel
    by_cases hlt : k < l.length
    · have r1 : decide (k < l.length) = true := decide_eq_true hlt
      have r2 : (k < l.length) = True := eq_true hlt
      obtain ⟨g1, rfl⟩ : ∃ g1, gk = g1 + 1 := ⟨gk - 1, by omega⟩
      obtain ⟨ad, B, cb, rfl, x0, x1, x2, x3, _⟩ := at_cl (Kd.C_below HR.out HB.out) k hlt
      have hc := HF.out (l.getD k zCl) B cb wr
      obtain ⟨x, hx⟩ : ∃ x, x = l.getD k zCl := ⟨_, rfl⟩
      rw [← hx] at x0 x1 x2 x3 hc
      have HX := Aside0.mk hx
      have HK := Aside0.mk (And.intro hlt hk)
      have HW := Aside0.mk (show wrap64 ((k : Int) + 1) = ((k + 1 : Nat) : Int) by unfold wrap64; omega)
      obtain ⟨b, hb⟩ : ∃ b, b = pf x := ⟨_, rfl⟩
      rw [← hb] at hc
      have HBP := Aside0.mk hb
      have HC := Aside0.mk hc
      clear hx hlt hk hc hb
      cases b with
      | true =>
        go_wp2
        refine HC.out.mono ?_
        rintro e w3 ⟨rfl, hb3⟩
        have HB3 := Aside0.mk hb3
        clear hb3
        go_wp2
        go_ret
        obtain ⟨e1, e2⟩ := tw_len pf zCl l k HK.out.1 HO.out (by rw [← HX.out]; exact HBP.out.symm)
        have hidx : idxI pf l = (k : Int) := by unfold idxI; rw [if_pos e2, e1]
        exact ⟨ret_i hidx.symm, below_step HB.out HB3.out⟩
      | false =>
        have HN := Aside0.mk (show pf (l.getD k zCl) = false by rw [← HX.out]; exact HBP.out.symm)
        go_wp2
        refine HC.out.mono ?_
        rintro e w3 ⟨rfl, hb3⟩
        have HB3 := Aside0.mk hb3
        clear hb3
        go_wp2
        go_roundg g1
        case measure => omega
        case rel => exact ⟨k + 1, by rw [HW.out], by have := HK.out; omega, ⟨fun i hi => by rcases Nat.lt_or_ge i k with h | h; exact HO.out i h; obtain rfl : i = k := (by omega); exact HN.out⟩, ⟨below_step HB.out HB3.out⟩⟩
    · have r1 : decide (k < l.length) = false := decide_eq_false hlt
      have r2 : (k < l.length) = False := eq_false hlt
      have HN := Aside0.mk (show ∀ i, i < l.length → pf (l.getD i zCl) = false from fun i hi => HO.out i (by omega))
      clear hlt hk
      go_wp2
      go_ret
      obtain ⟨e1, e2⟩ := tw_all pf zCl l HN.out
      have hidx : idxI pf l = -1 := by unfold idxI; rw [e2]; rfl
      exact ⟨ret_i hidx.symm, HB.out⟩
set_option maxHeartbeats 4000000 in
set_option maxRecDepth 100000 in
theorem idxInt_walk (A : Option Addr) (c : Nat) (l : List Int) (q : Int) (w : World) (hr : (Kd.int .i64).C w A l.length l) :
    Calls Try.prog 103 #[.slice A l.length c, .int .i64 q] w fun e w' => e = .returned (.int .i64 (idxI (fun y => decide (y = q)) l)) ∧ w' = w := by
  have hm := Kd.C_max hr
  have HR := Aside0.mk hr
  clear hr
  go_enter Try.func103, Try.ntmps103
  go_wp2
  go_loopg [8] l.length (fun g s8 wr => ∃ k : Nat, s8 = .int .i64 k ∧ k + g = l.length ∧ Aside0 (∀ i, i < k → decide (l.getD i 0 = q) = false) ∧ Aside0 (w = wr))
  case atStart => exact ⟨0, rfl, by omega, ⟨fun i h => by omega⟩, ⟨rfl⟩⟩
  case round =>
    obtain ⟨k, rfl, hk, HO, HE⟩ := hrel
    have he := HE.out
    subst he
    by_cases hlt : k < l.length
    · obtain ⟨g1, rfl⟩ : ∃ g1, gk = g1 + 1 := ⟨gk - 1, by omega⟩
      have r1 : decide (k < l.length) = true := decide_eq_true hlt
      have r2 : (k < l.length) = True := eq_true hlt
      obtain ⟨ad, rfl, hx⟩ := Kd.at_int HR.out (k : Int) (by omega) (by omega)
      rw [Int.toNat_natCast] at hx
      obtain ⟨x, hxx⟩ : ∃ x, x = rd l (k : Int) := ⟨_, rfl⟩
      rw [← hxx] at hx
      have HX := Aside0.mk (show l.getD k 0 = x by rw [hxx]; unfold rd; rw [Int.toNat_natCast])
      have HK := Aside0.mk (And.intro hlt hk)
      have HW := Aside0.mk (show wrap64 ((k : Int) + 1) = ((k + 1 : Nat) : Int) by unfold wrap64; omega)
      by_cases e1 : q = x
      · have q1 : (q == x) = true := beq_iff_eq.mpr e1
        have HQ := Aside0.mk e1
        clear hxx hlt hk e1
        go_wp2
        go_ret
        obtain ⟨e1, e2⟩ := tw_len (fun y => decide (y = q)) 0 l k HK.out.1 HO.out (by simp only [decide_eq_true_eq]; rw [HX.out]; exact HQ.out.symm)
        have hidx : idxI (fun y => decide (y = q)) l = (k : Int) := by unfold idxI; rw [if_pos e2, e1]
        exact ⟨ret_i hidx.symm, rfl⟩
      · have q1 : (q == x) = false := beq_eq_false_iff_ne.mpr e1
        have HN := Aside0.mk (show decide (l.getD k 0 = q) = false by rw [HX.out]; exact decide_eq_false (fun h => e1 h.symm))
        clear hxx hlt hk e1
        go_wp2
        go_roundg g1
        case measure => omega
        case rel => exact ⟨k + 1, by rw [HW.out], by have := HK.out; omega, ⟨fun i hi => by rcases Nat.lt_or_ge i k with h | h; exact HO.out i h; obtain rfl : i = k := (by omega); exact HN.out⟩, ⟨rfl⟩⟩
    · have r1 : decide (k < l.length) = false := decide_eq_false hlt
      have r2 : (k < l.length) = False := eq_false hlt
      have HN := Aside0.mk (show ∀ i, i < l.length → decide (l.getD i 0 = q) = false from fun i hi => HO.out i (by omega))
      clear hlt hk
      go_wp2
      go_ret
      obtain ⟨e1, e2⟩ := tw_all (fun y => decide (y = q)) 0 l HN.out
      have hidx : idxI (fun y => decide (y = q)) l = -1 := by unfold idxI; rw [e2]; rfl
      exact ⟨ret_i hidx.symm, rfl⟩
theorem contInt_walk (A : Option Addr) (c : Nat) (l : List Int) (q : Int) (w : World) (hr : (Kd.int .i64).C w A l.length l) :
    Calls Try.prog 87 #[.slice A l.length c, .int .i64 q] w fun e w' => e = .returned (.bool (inL l q)) ∧ w' = w := by
  have hi := idxInt_walk A c l q w hr
  have hge : decide (0 ≤ idxI (fun y => decide (y = q)) l) = inL l q := by
    unfold idxI inL
    cases h : l.any fun y => decide (y = q) with
    | true => rw [if_pos rfl]; exact decide_eq_true (by omega)
    | false => simp
  obtain ⟨b, hb⟩ : ∃ b, b = inL l q := ⟨_, rfl⟩
  rw [← hb] at hge ⊢
  obtain ⟨n, hn⟩ : ∃ n, n = idxI (fun y => decide (y = q)) l := ⟨_, rfl⟩
  rw [← hn] at hge hi
  have HI := Aside0.mk hi
  clear hi hb hn hr
  go_enter Try.func87, Try.ntmps87
  go_wp2_with (first | (go_at_call 103; (with_reducible refine HI.out.mono ?_); rintro e w2 ⟨rfl, rfl⟩) | fail)
  go_ret
  exact ⟨rfl, rfl⟩
set_option maxHeartbeats 2000000 in
/-- What Alloc does with each cell that its node tells. -/
theorem alloc1_walk {w0 W : World} {b g cap : Nat} {h : Hp} (p : Int) (A : Option Addr) (c : Nat) (held : List Int) (bh bw : Nat) (ho : OwnS w0 W b g cap h) (hp : inB h p = true) (hr : (Kd.int .i64).C W A held.length held)
    (h1 : W.heap[bh]? = some (.cells #[.slice A held.length c] 41 (0, 0))) (h2 : W.heap[bw]? = some (.cells #[.pointer (some ⟨b, 0, none⟩)] 122 (0, 0))) :
    Calls Try.prog 86 #[.int .i64 p, .pointer (some ⟨bh, 0, none⟩), .pointer (some ⟨bw, 0, none⟩)] W fun e W' => (∃ v, e = .returned v) ∧ OwnS w0 W' b g cap (if inL held p then h else moreH h p) ∧ KeepBut W W' g none := by
  have HC := Aside0.mk (contInt_walk A c held p W hr)
  have HH := Aside0.mk (hold_walk p ho hp)
  have HO := Aside0.mk ho
  have a0 := (blk_cell h1 0).trans (show _ = some (Value.slice A held.length c) from rfl)
  have b0 := (blk_cell h2 0).trans (show _ = some (Value.pointer (some ⟨b, 0, none⟩)) from rfl)
  obtain ⟨u, hu⟩ : ∃ u, u = inL held p := ⟨_, rfl⟩
  rw [← hu] at HC ⊢
  clear ho hp hr h1 h2 hu
  cases u with
  | true =>
    go_enter Try.func86, Try.ntmps86
    go_wp2_with (first | (go_at_call 87; (with_reducible refine HC.out.mono ?_); rintro e w2 ⟨rfl, rfl⟩) | fail)
    refine bodyPost_end (results_none rfl _ _ _) rfl ?_
    exact ⟨⟨_, rfl⟩, HO.out, KeepBut.refl _ _ _⟩
  | false =>
    go_enter Try.func86, Try.ntmps86
    go_wp2_with (first | (go_at_call 87; (with_reducible refine HC.out.mono ?_); rintro e w2 ⟨rfl, rfl⟩) | (go_at_call 88; (with_reducible refine HH.out.mono ?_); rintro e w3 ⟨⟨v, rfl⟩, ho3, hk3⟩; have HO3 := Aside0.mk ho3; have HK3 := Aside0.mk hk3; clear ho3 hk3) | fail)
    refine bodyPost_end (results_none rfl _ _ _) rfl ?_
    exact ⟨⟨_, rfl⟩, HO3.out, HK3.out⟩
end Go.Proofs.Ytopkoganfnabgaa.H
namespace Go.Proofs.Ytopkoganfnabgaa.H
open Go.RowKit Go.Proofs.YtopkoganfnabgaaW.PrintWords Go.Proofs.YtopkoganfnabgaaW.PrintLast Go.Proofs.YtopkoganfnabgaaW.PrintMore
attribute [local go_sem] max2_int min2_int max_two min_two max_three min_three max_four min_four
set_option linter.unusedVariables false
set_option linter.unusedSimpArgs false
/-- Blocks of b that a has not. -/
def Yg (a b : World) (i : Nat) : Prop := a.heap.size ≤ i ∧ i < b.heap.size
theorem it_lv {w0 w W : World} {n : Nat} {A : Option Addr} {l : List It} {S : Nat → Prop} (h : kIt.C w0 A n l) (hb : Below w0.heap.size w0 w) (hS : ∀ k, S k → w0.heap.size ≤ k) (hk : Kept w W S) : kIt.C W A n l := by
  refine Kd.C_foot_neS (S := S) (d := kIt) (fun h => h) (Kd.C_below h hb) ?_ W hk
  intro ad e hn hs
  subst e
  have := Kd.C_lt h hn (by decide)
  have := hS _ hs
  omega
theorem rw_lv {w0 w W : World} {n : Nat} {A : Option Addr} {l : List Rw} {S : Nat → Prop} (h : kRw.C w0 A n l) (hb : Below w0.heap.size w0 w) (hS : ∀ k, S k → w0.heap.size ≤ k) (hk : Kept w W S) : kRw.C W A n l := by
  refine Kd.C_foot_neS (S := S) (d := kRw) (fun h => h) (Kd.C_below h hb) ?_ W hk
  intro ad e hn hs
  subst e
  have := Kd.C_lt h hn (by decide)
  have := hS _ hs
  omega
theorem cl_lv {w0 w W : World} {n : Nat} {A : Option Addr} {l : List Cl} {S : Nat → Prop} (h : kCl.C w0 A n l) (hb : Below w0.heap.size w0 w) (hS : ∀ k, S k → w0.heap.size ≤ k) (hk : Kept w W S) : kCl.C W A n l := by
  obtain ⟨rc, h1, h2⟩ := rw_of_cl h
  refine cl_of_rw (rw_lv h1 hb hS hk) ⟨h2.1, fun i hi => ?_⟩
  obtain ⟨e1, e2, e3, e4, e5, e6⟩ := h2.2 i hi
  exact ⟨e1, e2, e3, e4, e5, it_lv e6 hb hS hk⟩
/-- A heap's cells that live through whatever is written to the blocks of w that w0 has not. -/
def Lv (w0 w w' : World) (B : Option Addr) (l : List Cl) : Prop := ∀ W', Kept w' W' (Yg w0 w) → kCl.C W' B l.length l
theorem Lv.now {w0 w w' : World} {B : Option Addr} {l : List Cl} (h : Lv w0 w w' B l) : kCl.C w' B l.length l := h w' (Kept.refl _ _)
theorem Lv_old {w0 w w' : World} {B : Option Addr} {l : List Cl} (h : kCl.C w0 B l.length l) (hb : Below w0.heap.size w0 w') : Lv w0 w w' B l := fun _ hk => cl_lv h hb (fun _ hs => hs.1) hk
theorem Lv_mono {w0 W W1 w' : World} {B : Option Addr} {l : List Cl} (h : Lv w0 W w' B l) (hs : W1.heap.size ≤ W.heap.size) : Lv w0 W1 w' B l := fun W' hk => h W' (Kept.mono hk fun _ hy => ⟨hy.1, by have := hy.2; omega⟩)
theorem Lv_below {w0 W w2 w3 : World} {B : Option Addr} {l : List Cl} (h : Lv w0 W w2 B l) (hb : Below w2.heap.size w2 w3) : Lv w0 W w3 B l := fun W' hk => h W' ((Kept.of_below hb _).then_ hk (fun _ hy => Or.inl hy))
/-- A write to a block that may be written. -/
theorem Lv_set {w0 W w2 : World} {B : Option Addr} {l : List Cl} (h : Lv w0 W w2 B l) {p : Addr} (h1 : w0.heap.size ≤ p.block) (h2 : p.block < W.heap.size) (u : Value) : Lv w0 W (w2.setCell p u) B l := fun W' hk => h W' (((Kept.refl w2 (Yg w0 W)).setCell (Or.inl ⟨h1, h2⟩) u).then_ hk (fun _ hy => Or.inl hy))
/-- A write to a block that holds a heap alone. -/
theorem Lv_hb {w0 W w2 w3 : World} {B : Option Addr} {l : List Cl} {g : Nat} (h : Lv w0 W w2 B l) (hH : Hb w2 g) (hk : KeepBut w2 w3 g none) : Lv w0 W w3 B l := by
  intro W' hk'
  by_cases hy : Yg w0 W g
  · refine h W' ⟨Nat.le_trans hk.1 hk'.1, fun i hi hn => ?_⟩
    exact (hk'.2 i (Nat.lt_of_lt_of_le hi hk.1) hn).trans (hk.2 i hi (fun e => hn (e ▸ hy)) (by simp))
  · obtain ⟨X, a, b, k, t, ho⟩ := hH
    have hg2 := blk_lt ho
    have hgW : g < W'.heap.size := Nat.lt_of_lt_of_le hg2 (Nat.le_trans hk.1 hk'.1)
    have hV : ({ W' with heap := W'.heap.setIfInBounds g (.cells #[.slice X a b, .int .i64 k] t (0, 0)) } : World).heap[g]? = some (.cells #[.slice X a b, .int .i64 k] t (0, 0)) := by
      simp [hgW]
    have hO : ∀ i, i ≠ g → ({ W' with heap := W'.heap.setIfInBounds g (.cells #[.slice X a b, .int .i64 k] t (0, 0)) } : World).heap[i]? = W'.heap[i]? := by
      intro i hi
      simp [Array.getElem?_setIfInBounds, Ne.symm hi]
    have hsz : ({ W' with heap := W'.heap.setIfInBounds g (.cells #[.slice X a b, .int .i64 k] t (0, 0)) } : World).heap.size = W'.heap.size := by simp
    generalize ({ W' with heap := W'.heap.setIfInBounds g (.cells #[.slice X a b, .int .i64 k] t (0, 0)) } : World) = V at hV hO hsz
    have hC := h V ⟨by rw [hsz]; exact Nat.le_trans hk.1 hk'.1, fun i hi hn => by
      by_cases e : i = g
      · rw [e, hV, ho]
      · rw [hO i e, hk'.2 i (Nat.lt_of_lt_of_le hi hk.1) hn, hk.2 i hi e (by simp)]⟩
    exact cl_keep hC ⟨X, a, b, k, t, hV⟩ ⟨by rw [hsz]; exact Nat.le_refl _, fun i hi hn _ => (hO i hn).symm⟩
theorem blk3 (w : World) (o1 o2 o3 : Obj) : (((w.alloc o1).alloc o2).alloc o3).heap[w.heap.size + 1 + 1]? = some o3 := by
  have h := blk2 (w.alloc o1) o2 o3
  rwa [show (w.alloc o1).heap.size = w.heap.size + 1 by simp] at h
theorem blk4 (w : World) (o1 o2 o3 o4 : Obj) : ((((w.alloc o1).alloc o2).alloc o3).alloc o4).heap[w.heap.size + 1 + 1 + 1]? = some o4 := by
  have h := blk3 (w.alloc o1) o2 o3 o4
  rwa [show (w.alloc o1).heap.size = w.heap.size + 1 by simp] at h
/-- What Alloc finds when it begins. -/
structure AlSt (w W1 : World) (A B D : Option Addr) (c cb d : Nat) (h : Hp) (lf : Bool) (n : Nat) (m : Nat) : Prop where
  b0 : Below w.heap.size w W1
  bh : W1.heap[w.heap.size]? = some (.cells #[.slice A h.c.length c, .int .i64 h.keep] 24 (0, 0))
  bn : W1.heap[w.heap.size + 1]? = some (.cells #[.bool lf, .slice B n cb] 77 (0, 0))
  bd : W1.heap[w.heap.size + 1 + 1]? = some (.cells #[.slice D m d] 41 (0, 0))
  br : W1.heap[w.heap.size + 1 + 1 + 1]? = some (.cells #[.slice none 0 0, .int .i64 0] 24 (0, 0))
theorem alst (w : World) (A B D : Option Addr) (c cb d : Nat) (h : Hp) (lf : Bool) (n m : Nat) :
    AlSt w ((((w.alloc (.cells #[.slice A h.c.length c, .int .i64 h.keep] 24)).alloc (.cells #[.bool lf, .slice B n cb] 77)).alloc (.cells #[.slice D m d] 41)).alloc (.cells #[.slice none 0 0, .int .i64 0] 24)) A B D c cb d h lf n m :=
  ⟨below_alloc (below_alloc (below_alloc (below_alloc (Below.refl _ _) _) _) _) _, blk_alloc (blk_alloc (blk_alloc (blk_new w _) _) _) _, blk_alloc (blk_alloc (blk2 w _ _) _) _, blk_alloc (blk3 w _ _ _) _, blk4 w _ _ _ _⟩
theorem AlSt.step {w W1 W2 : World} {A B D : Option Addr} {c cb d : Nat} {h : Hp} {lf : Bool} {n m : Nat} (s : AlSt w W1 A B D c cb d h lf n m) (hb : Below W1.heap.size W1 W2) : AlSt w W2 A B D c cb d h lf n m :=
  ⟨below_step s.b0 hb, blk_below s.bh hb, blk_below s.bn hb, blk_below s.bd hb, blk_below s.br hb⟩
--@ CELLS(S) := (have c0 := (blk_cell (%S%).out.bh 0).trans (show _ = some (Value.slice A h.c.length c) from rfl)⏎  have c1 := (blk_cell (%S%).out.bh 1).trans (show _ = some (Value.int .i64 h.keep) from rfl))
set_option maxHeartbeats 2000000 in
set_option maxRecDepth 100000 in
theorem allocArg_walk (A B D : Option Addr) (c cb d : Nat) (h : Hp) (n : Nd) (held : List Int) (w0 w : World) (hr0 : kCl.C w0 A h.c.length h.c) (hb0 : Below w0.heap.size w0 w) (hcc : h.c.length ≤ c) (hn : kIt.C w B n.it.length n.it) (hbad : (nodeRight n && leadsB h n) = false) :
    Calls Try.prog 50 #[.agg #[.slice A h.c.length c, .int .i64 h.keep], .agg #[.bool n.leaf, .slice B n.it.length cb], .slice D held.length d] w fun e w' => ∃ B' cb', e = .returned (.tuple #[.agg #[.slice B' h.c.length cb', .int .i64 h.keep], .int .i64 0, .int .i64 1]) ∧ h.c.length ≤ cb' ∧ Lv w0 w w' B' h.c ∧ Below w.heap.size w w' := by
  have hr := Kd.C_below hr0 hb0
  have HR0 := Aside0.mk (And.intro hr0 hb0)
  clear hr0 hb0
  obtain ⟨lf, l⟩ := n
  show Calls Try.prog 50 #[.agg #[.slice A h.c.length c, .int .i64 h.keep], .agg #[.bool lf, .slice B l.length cb], .slice D held.length d] w _
  replace hn : kIt.C w B l.length l := hn
  obtain ⟨W1, hW1⟩ : ∃ W1, W1 = ((((w.alloc (.cells #[.slice A h.c.length c, .int .i64 h.keep] 24)).alloc (.cells #[.bool lf, .slice B l.length cb] 77)).alloc (.cells #[.slice D held.length d] 41)).alloc (.cells #[.slice none 0 0, .int .i64 0] 24)) := ⟨_, rfl⟩
  have S1 := Aside0.mk (show AlSt w W1 A B D c cb d h lf l.length held.length by rw [hW1]; exact alst _ _ _ _ _ _ _ _ _ _ _)
  have HNR := Aside0.mk (fun (W : World) (hb : Below w.heap.size w W) => nodeRight_walk B cb ⟨lf, l⟩ W (Kd.C_below hn hb))
  have HLD := Aside0.mk (fun (W : World) (hb : Below w.heap.size w W) => leads_walk A B c cb h ⟨lf, l⟩ W (Kd.C_below hr hb) (Kd.C_below hn hb))
  have HRC := Aside0.mk (And.intro hcc hr)
  have hW1' := Aside0.mk hW1
  have n0 := (blk_cell S1.out.bn 0).trans (show _ = some (Value.bool lf) from rfl)
  have n1 := (blk_cell S1.out.bn 1).trans (show _ = some (Value.slice B l.length cb) from rfl)
  have c0 := (blk_cell S1.out.bh 0).trans (show _ = some (Value.slice A h.c.length c) from rfl)
  have c1 := (blk_cell S1.out.bh 1).trans (show _ = some (Value.int .i64 h.keep) from rfl)
  obtain ⟨u, hu⟩ : ∃ u, u = nodeRight ⟨lf, l⟩ := ⟨_, rfl⟩
  obtain ⟨v, hv⟩ : ∃ v, v = leadsB h ⟨lf, l⟩ := ⟨_, rfl⟩
  rw [← hu, ← hv] at hbad
  rw [← hu] at HNR
  rw [← hv] at HLD
  clear hr hn hcc hW1 hu hv
  cases u with
  | false =>
    clear hbad
    go_enter Try.func50, Try.ntmps50
    go_upto_region 1 with (fail)
    rw [← hW1'.out]
    go_upto_region 2 with (first | (go_at_call 80; (with_reducible refine (HNR.out _ S1.out.b0).mono ?_); rintro e w2 ⟨rfl, hb2⟩; have S2 := Aside0.mk (S1.out.step (below_step (Below.refl _ _) hb2)); clear hb2) | fail)
    have d0 := (blk_cell S2.out.bh 0).trans (show _ = some (Value.slice A h.c.length c) from rfl)
    have d1 := (blk_cell S2.out.bh 1).trans (show _ = some (Value.int .i64 h.keep) from rfl)
    have e0 := (blk_cell S2.out.br 0).trans (show _ = some (Value.slice none 0 0) from rfl)
    have e1 := (blk_cell S2.out.br 1).trans (show _ = some (Value.int .i64 0) from rfl)
    have f0 := blk_frozen S2.out.br 0
    have f1 := blk_frozen S2.out.br 1
    go_wp2
    refine bodyPost_ret (results_ctt rfl _ _ (w.heap.size + 1 + 1 + 1) 24 #[.slice A h.c.length c, .int .i64 h.keep] (0, 0) _ rfl (hb_store S2.out.br) Try.underlying24 rfl (by kernel_rfl)) rfl ?_
    have hbf : Below w.heap.size w ((w2.setCell ⟨w.heap.size + 1 + 1 + 1, 0, none⟩ (.slice A h.c.length c)).setCell ⟨w.heap.size + 1 + 1 + 1, 1, none⟩ (.int .i64 h.keep)) := below_set (below_set S2.out.b0 (by omega)) (by omega)
    exact ⟨A, c, rfl, HRC.out.1, Lv_old HR0.out.1 (below_step HR0.out.2 hbf), hbf⟩
  | true =>
    obtain rfl : v = false := by simpa using hbad
    clear hbad
    go_enter Try.func50, Try.ntmps50
    go_upto_region 1 with (fail)
    rw [← hW1'.out]
    go_upto_region 2 with (first | (go_at_call 80; (with_reducible refine (HNR.out _ S1.out.b0).mono ?_); rintro e w2 ⟨rfl, hb2⟩; have S2 := Aside0.mk (S1.out.step hb2); have d0 := bcell hb2 c0; have d1 := bcell hb2 c1; have m0 := bcell hb2 n0; have m1 := bcell hb2 n1; clear hb2) | (go_at_call 81; (with_reducible refine (HLD.out _ S2.out.b0).mono ?_); rintro e w3 ⟨rfl, hb3⟩; have S3 := Aside0.mk (S2.out.step hb3); clear hb3) | fail)
    have g0 := (blk_cell S3.out.bh 0).trans (show _ = some (Value.slice A h.c.length c) from rfl)
    have g1 := (blk_cell S3.out.bh 1).trans (show _ = some (Value.int .i64 h.keep) from rfl)
    have e0 := (blk_cell S3.out.br 0).trans (show _ = some (Value.slice none 0 0) from rfl)
    have e1 := (blk_cell S3.out.br 1).trans (show _ = some (Value.int .i64 0) from rfl)
    have f0 := blk_frozen S3.out.br 0
    have f1 := blk_frozen S3.out.br 1
    go_wp2
    refine bodyPost_ret (results_ctt rfl _ _ (w.heap.size + 1 + 1 + 1) 24 #[.slice A h.c.length c, .int .i64 h.keep] (0, 0) _ rfl (hb_store S3.out.br) Try.underlying24 rfl (by kernel_rfl)) rfl ?_
    have hbf : Below w.heap.size w ((w3.setCell ⟨w.heap.size + 1 + 1 + 1, 0, none⟩ (.slice A h.c.length c)).setCell ⟨w.heap.size + 1 + 1 + 1, 1, none⟩ (.int .i64 h.keep)) := below_set (below_set S3.out.b0 (by omega)) (by omega)
    exact ⟨A, c, rfl, HRC.out.1, Lv_old HR0.out.1 (below_step HR0.out.2 hbf), hbf⟩
end Go.Proofs.Ytopkoganfnabgaa.H
namespace Go.Proofs.Ytopkoganfnabgaa.H
open Go.RowKit Go.Proofs.YtopkoganfnabgaaW.PrintWords Go.Proofs.YtopkoganfnabgaaW.PrintLast Go.Proofs.YtopkoganfnabgaaW.PrintMore
attribute [local go_sem] max2_int min2_int max_two min_two max_three min_three max_four min_four
set_option linter.unusedVariables false
set_option linter.unusedSimpArgs false
theorem isFree_cl (x : Cl) (B : Option Addr) (cb : Nat) (W : World) : Calls Try.prog 83 #[.agg #[.int .i64 x.ref, .bool x.pin, .bool x.n.leaf, .slice B x.n.it.length cb]] W fun e W' => e = .returned (.bool (freeB x)) ∧ Below W.heap.size W W' :=
  isFree_walk B cb x.n.it.length x.ref x.pin x.n.leaf W
set_option maxHeartbeats 2000000 in
set_option maxRecDepth 100000 in
theorem allocFull_walk (A B D : Option Addr) (c cb d : Nat) (h : Hp) (n : Nd) (held : List Int) (w0 w : World) (hr0 : kCl.C w0 A h.c.length h.c) (hb0 : Below w0.heap.size w0 w) (hcc : h.c.length ≤ c) (hn : kIt.C w B n.it.length n.it) (hnr : nodeRight n = true) (hld : leadsB h n = true) (hix : idxI freeB h.c = -1) :
    Calls Try.prog 50 #[.agg #[.slice A h.c.length c, .int .i64 h.keep], .agg #[.bool n.leaf, .slice B n.it.length cb], .slice D held.length d] w fun e w' => ∃ B' cb', e = .returned (.tuple #[.agg #[.slice B' h.c.length cb', .int .i64 h.keep], .int .i64 0, .int .i64 3]) ∧ h.c.length ≤ cb' ∧ Lv w0 w w' B' h.c ∧ Below w.heap.size w w' := by
  have hr := Kd.C_below hr0 hb0
  have HR0 := Aside0.mk (And.intro hr0 hb0)
  clear hr0 hb0
  obtain ⟨lf, l⟩ := n
  show Calls Try.prog 50 #[.agg #[.slice A h.c.length c, .int .i64 h.keep], .agg #[.bool lf, .slice B l.length cb], .slice D held.length d] w _
  replace hn : kIt.C w B l.length l := hn
  obtain ⟨W1, hW1⟩ : ∃ W1, W1 = ((((w.alloc (.cells #[.slice A h.c.length c, .int .i64 h.keep] 24)).alloc (.cells #[.bool lf, .slice B l.length cb] 77)).alloc (.cells #[.slice D held.length d] 41)).alloc (.cells #[.slice none 0 0, .int .i64 0] 24)) := ⟨_, rfl⟩
  have S1 := Aside0.mk (show AlSt w W1 A B D c cb d h lf l.length held.length by rw [hW1]; exact alst _ _ _ _ _ _ _ _ _ _ _)
  have HNR := Aside0.mk (fun (W : World) (hb : Below w.heap.size w W) => by have := nodeRight_walk B cb ⟨lf, l⟩ W (Kd.C_below hn hb); rw [hnr] at this; exact this)
  have HLD := Aside0.mk (fun (W : World) (hb : Below w.heap.size w W) => by have := leads_walk A B c cb h ⟨lf, l⟩ W (Kd.C_below hr hb) (Kd.C_below hn hb); rw [hld] at this; exact this)
  have HRC := Aside0.mk (And.intro hcc hr)
  have hW1' := Aside0.mk hW1
  have n0 := (blk_cell S1.out.bn 0).trans (show _ = some (Value.bool lf) from rfl)
  have n1 := (blk_cell S1.out.bn 1).trans (show _ = some (Value.slice B l.length cb) from rfl)
  have c0 := (blk_cell S1.out.bh 0).trans (show _ = some (Value.slice A h.c.length c) from rfl)
  have c1 := (blk_cell S1.out.bh 1).trans (show _ = some (Value.int .i64 h.keep) from rfl)
  have HIX := Aside0.mk (fun (W : World) (hb : Below w.heap.size w W) => show Calls Try.prog 82 #[.slice A h.c.length c, .func (.func 83) #[] #[]] W fun e w' => e = .returned (.int .i64 (-1)) ∧ Below W.heap.size W w' by have := idxCl_walk 83 (enters_of Try.func83 (by kernel_rfl) rfl) freeB A c h.c W (Kd.C_below hr hb) isFree_cl; rw [hix] at this; exact this)
  clear hr hn hcc hW1 hnr hld hix
  go_enter Try.func50, Try.ntmps50
  go_upto_region 1 with (fail)
  rw [← hW1'.out]
  go_upto_region 5 with (first | (go_at_call 80; (with_reducible refine (HNR.out _ S1.out.b0).mono ?_); rintro e w2 ⟨rfl, hb2⟩; have S2 := Aside0.mk (S1.out.step hb2); have d0 := bcell hb2 c0; have d1 := bcell hb2 c1; have m0 := bcell hb2 n0; have m1 := bcell hb2 n1; clear hb2) | (go_at_call 81; (with_reducible refine (HLD.out _ S2.out.b0).mono ?_); rintro e w3 ⟨rfl, hb3⟩; have S3 := Aside0.mk (S2.out.step hb3); have g0 := bcell hb3 d0; have g1 := bcell hb3 d1; have p0 := bcell hb3 m0; have p1 := bcell hb3 m1; clear hb3) | (go_at_call 82; (with_reducible refine (HIX.out _ S3.out.b0).mono ?_); rintro e w4 ⟨rfl, hb4⟩; have S4 := Aside0.mk (S3.out.step hb4); have j0 := bcell hb4 g0; have j1 := bcell hb4 g1; have k0 := bcell hb4 p0; have k1 := bcell hb4 p1; clear hb4) | fail)
  have e0 := (blk_cell S4.out.br 0).trans (show _ = some (Value.slice none 0 0) from rfl)
  have e1 := (blk_cell S4.out.br 1).trans (show _ = some (Value.int .i64 0) from rfl)
  have f0 := blk_frozen S4.out.br 0
  have f1 := blk_frozen S4.out.br 1
  go_wp2
  refine bodyPost_ret (results_ctt rfl _ _ (w.heap.size + 1 + 1 + 1) 24 #[.slice A h.c.length c, .int .i64 h.keep] (0, 0) _ rfl (hb_store S4.out.br) Try.underlying24 rfl (by kernel_rfl)) rfl ?_
  have hbf : Below w.heap.size w ((w4.setCell ⟨w.heap.size + 1 + 1 + 1, 0, none⟩ (.slice A h.c.length c)).setCell ⟨w.heap.size + 1 + 1 + 1, 1, none⟩ (.int .i64 h.keep)) := below_set (below_set S4.out.b0 (by omega)) (by omega)
  exact ⟨A, c, rfl, HRC.out.1, Lv_old HR0.out.1 (below_step HR0.out.2 hbf), hbf⟩
/-- What the held cells come to. -/
theorem holdL_len (held : List Int) : ∀ (l : List It) (h : Hp), (holdL h held l).c.length = h.c.length
  | [], _ => rfl
  | x :: l, h => by
    unfold holdL
    rw [holdL_len held l]
    split
    · rfl
    · unfold moreH setH; simp
theorem own_lv {w0 w W : World} {b g cap : Nat} {h : Hp} {S : Nat → Prop} (ho : OwnS w0 w b g cap h) (hne : ¬ S g) (hS : ∀ k, S k → w0.heap.size ≤ k) (hk : Kept w W S) : kCl.C W (some ⟨g, 0, none⟩) h.c.length h.c := by
  obtain ⟨rc, h1, h2, h3, h4, h5, h6⟩ := ho
  have h7 := (Kd.R_reads' h2).2.2
  rw [show rc.length = h.c.length from h3.1] at h7
  refine cl_of_rw (rc := rc) ?_ ⟨h3.1, fun i hi => ?_⟩
  · refine Kd.C_foot_neS (S := S) (d := kRw) (fun h => h) h7 ?_ W hk
    intro ad e hn he
    cases e
    exact hne he
  · obtain ⟨e1, e2, e3, e4, e5, e6⟩ := h3.2 i hi
    exact ⟨e1, e2, e3, e4, e5, it_lv e6 h4 hS hk⟩
theorem AlSt.keep {w W1 W2 : World} {A B D : Option Addr} {c cb d g : Nat} {h : Hp} {lf : Bool} {n m : Nat} (s : AlSt w W1 A B D c cb d h lf n m) (hg : w.heap.size + 4 ≤ g) (hk : KeepBut W1 W2 g none) (hb : Below w.heap.size w W2) : AlSt w W2 A B D c cb d h lf n m := by
  have key : ∀ i o, i < w.heap.size + 4 → W1.heap[i]? = some o → W2.heap[i]? = some o := fun i o hi ho => (hk.2 i (blk_lt ho) (by omega) (by simp)).trans ho
  exact ⟨hb, key _ _ (by omega) s.bh, key _ _ (by omega) s.bn, key _ _ (by omega) s.bd, key _ _ (by omega) s.br⟩
theorem drop_succ {α : Type} (z : α) (l : List α) (k : Nat) (hk : k < l.length) : l.drop k = l.getD k z :: l.drop (k + 1) := by
  rw [List.drop_eq_getElem_cons hk, List.getD_eq_getElem?_getD, List.getElem?_eq_getElem hk]
  rfl
theorem own_put4 {w0 W : World} {b g cap i : Nat} {h : Hp} (ho : OwnS w0 W b g cap h) (hi : i < h.c.length) (r : Int) (pn lf : Bool) (B : Option Addr) (cb : Nat) (l : List It) (hl : l.length ≤ cb) (hB : kIt.C w0 B l.length l) :
    OwnS w0 ((((W.setCell ⟨g, i * 4, none⟩ (.int .i64 r)).setCell ⟨g, i * 4 + 1, none⟩ (.bool pn)).setCell ⟨g, i * 4 + 2, none⟩ (.bool lf)).setCell ⟨g, i * 4 + 2 + 1, none⟩ (.slice B l.length cb)) b g cap (setH h (i : Int) ⟨r, pn, ⟨lf, l⟩⟩) ∧
    KeepBut W ((((W.setCell ⟨g, i * 4, none⟩ (.int .i64 r)).setCell ⟨g, i * 4 + 1, none⟩ (.bool pn)).setCell ⟨g, i * 4 + 2, none⟩ (.bool lf)).setCell ⟨g, i * 4 + 2 + 1, none⟩ (.slice B l.length cb)) g none := by
  have hlen : ∀ (x : Cl), i < (setH h (i : Int) x).c.length := fun x => by unfold setH; simpa using hi
  obtain ⟨o1, k1⟩ := own_ref ho hi r
  obtain ⟨o2, k2⟩ := own_pin o1 (hlen _) pn
  rw [getD_setH h i _ hi, setH_setH] at o2
  obtain ⟨o3, k3⟩ := own_leaf o2 (hlen _) lf
  rw [getD_setH h i _ hi, setH_setH] at o3
  obtain ⟨o4, k4⟩ := own_row o3 (hlen _) B cb l hl hB
  rw [getD_setH h i _ hi, setH_setH] at o4
  exact ⟨o4, keep_trans (keep_trans (keep_trans k1 k2) k3) k4⟩
set_option maxHeartbeats 4000000 in
set_option maxRecDepth 100000 in
theorem allocOk_walk (A B D : Option Addr) (c cb d : Nat) (h : Hp) (n : Nd) (held : List Int) (w0 w : World) (hr0 : kCl.C w0 A h.c.length h.c) (hb0 : Below w0.heap.size w0 w) (hcc : h.c.length ≤ c) (hl : h.c.length ≤ 2000) (hn0 : kIt.C w0 B n.it.length n.it) (hnb : n.it.length ≤ cb) (hd : (Kd.int .i64).C w D held.length held) (hnr : nodeRight n = true) (hld : leadsB h n = true) (p : Nat) (hp : p < h.c.length) (hix : idxI freeB h.c = (p : Int)) :
    Calls Try.prog 50 #[.agg #[.slice A h.c.length c, .int .i64 h.keep], .agg #[.bool n.leaf, .slice B n.it.length cb], .slice D held.length d] w fun e w' => ∃ B' cb', e = .returned (.tuple #[.agg #[.slice B' (setH (if n.leaf then h else holdL h held n.it) (p : Int) ⟨1, false, n⟩).c.length cb', .int .i64 (setH (if n.leaf then h else holdL h held n.it) (p : Int) ⟨1, false, n⟩).keep], .int .i64 p, .int .i64 0]) ∧ (setH (if n.leaf then h else holdL h held n.it) (p : Int) ⟨1, false, n⟩).c.length ≤ cb' ∧ Lv w0 w w' B' (setH (if n.leaf then h else holdL h held n.it) (p : Int) ⟨1, false, n⟩).c ∧ Below w.heap.size w w' := by
  have hr := Kd.C_below hr0 hb0
  have hn := Kd.C_below hn0 hb0
  have HR0 := Aside0.mk (And.intro hr0 (And.intro hb0 hn0))
  clear hr0 hb0 hn0
  obtain ⟨lf, l⟩ := n
  show Calls Try.prog 50 #[.agg #[.slice A h.c.length c, .int .i64 h.keep], .agg #[.bool lf, .slice B l.length cb], .slice D held.length d] w fun e w' => ∃ B' cb', e = .returned (.tuple #[.agg #[.slice B' (setH (if lf then h else holdL h held l) (p : Int) ⟨1, false, ⟨lf, l⟩⟩).c.length cb', .int .i64 (setH (if lf then h else holdL h held l) (p : Int) ⟨1, false, ⟨lf, l⟩⟩).keep], .int .i64 p, .int .i64 0]) ∧ (setH (if lf then h else holdL h held l) (p : Int) ⟨1, false, ⟨lf, l⟩⟩).c.length ≤ cb' ∧ Lv w0 w w' B' (setH (if lf then h else holdL h held l) (p : Int) ⟨1, false, ⟨lf, l⟩⟩).c ∧ Below w.heap.size w w'
  replace hn : kIt.C w B l.length l := hn
  obtain ⟨W1, hW1⟩ : ∃ W1, W1 = ((((w.alloc (.cells #[.slice A h.c.length c, .int .i64 h.keep] 24)).alloc (.cells #[.bool lf, .slice B l.length cb] 77)).alloc (.cells #[.slice D held.length d] 41)).alloc (.cells #[.slice none 0 0, .int .i64 0] 24)) := ⟨_, rfl⟩
  have S1 := Aside0.mk (show AlSt w W1 A B D c cb d h lf l.length held.length by rw [hW1]; exact alst _ _ _ _ _ _ _ _ _ _ _)
  have HNR := Aside0.mk (fun (W : World) (hb : Below w.heap.size w W) => by have := nodeRight_walk B cb ⟨lf, l⟩ W (Kd.C_below hn hb); rw [hnr] at this; exact this)
  have HLD := Aside0.mk (fun (W : World) (hb : Below w.heap.size w W) => by have := leads_walk A B c cb h ⟨lf, l⟩ W (Kd.C_below hr hb) (Kd.C_below hn hb); rw [hld] at this; exact this)
  have HRC := Aside0.mk (And.intro hcc hr)
  have hW1' := Aside0.mk hW1
  have n0 := (blk_cell S1.out.bn 0).trans (show _ = some (Value.bool lf) from rfl)
  have n1 := (blk_cell S1.out.bn 1).trans (show _ = some (Value.slice B l.length cb) from rfl)
  have c0 := (blk_cell S1.out.bh 0).trans (show _ = some (Value.slice A h.c.length c) from rfl)
  have c1 := (blk_cell S1.out.bh 1).trans (show _ = some (Value.int .i64 h.keep) from rfl)
  have HIX := Aside0.mk (fun (W : World) (hb : Below w.heap.size w W) => show Calls Try.prog 82 #[.slice A h.c.length c, .func (.func 83) #[] #[]] W fun e w' => e = .returned (.int .i64 p) ∧ Below W.heap.size W w' by have := idxCl_walk 83 (enters_of Try.func83 (by kernel_rfl) rfl) freeB A c h.c W (Kd.C_below hr hb) isFree_cl; rw [hix] at this; exact this)
  have HN := Aside0.mk hn
  have HD := Aside0.mk hd
  have HLD2 := Aside0.mk hld
  obtain ⟨hF, hhF⟩ : ∃ hF, hF = setH (if lf = true then h else holdL h held l) (p : Int) ⟨1, false, ⟨lf, l⟩⟩ := ⟨_, rfl⟩
  rw [← hhF]
  have HHF := Aside0.mk hhF
  clear hhF
  have HL := Aside0.mk (And.intro hl (And.intro hnb hp))
  have dd0 := S1.out.bd
  have HDD := Aside0.mk dd0
  clear hr hn hcc hW1 hnr hld hix hd hnb hl dd0
  have q1 : ((p : Int) < 0) = False := eq_false (by omega)
  have q2 : decide ((p : Int) < 0) = false := decide_eq_false (by omega)
  clear hp
  go_enter Try.func50, Try.ntmps50
  go_upto_region 1 with (fail)
  rw [← hW1'.out]
  go_upto_region 7 with (first | (go_at_call 80; (with_reducible refine (HNR.out _ S1.out.b0).mono ?_); rintro e w2 ⟨rfl, hb2⟩; have S2 := Aside0.mk (S1.out.step hb2); have d0 := bcell hb2 c0; have d1 := bcell hb2 c1; have m0 := bcell hb2 n0; have m1 := bcell hb2 n1; clear hb2) | (go_at_call 81; (with_reducible refine (HLD.out _ S2.out.b0).mono ?_); rintro e w3 ⟨rfl, hb3⟩; have S3 := Aside0.mk (S2.out.step hb3); have g0 := bcell hb3 d0; have g1 := bcell hb3 d1; have p0 := bcell hb3 m0; have p1 := bcell hb3 m1; clear hb3) | (go_at_call 82; (with_reducible refine (HIX.out _ S3.out.b0).mono ?_); rintro e w4 ⟨rfl, hb4⟩; have S4 := Aside0.mk (S3.out.step hb4); have j0 := bcell hb4 g0; have j1 := bcell hb4 g1; have k0 := bcell hb4 p0; have k1 := bcell hb4 p1; clear hb4) | (go_at_call 84; (with_reducible refine (own_walk A c h w0 _ HR0.out.1 (below_step HR0.out.2.1 S4.out.b0) (by have := HL.out.2.2; omega) HL.out.1).mono ?_); rintro e w5 ⟨b, g, cap, rfl, hos, hb5, hbb, hbg⟩; have HOS := Aside0.mk hos; have S5 := Aside0.mk (S4.out.step hb5); have HGG := Aside0.mk (And.intro hbb hbg); have r0 := bcell hb5 k0; have r1 := bcell hb5 k1; clear hos hb5 hbb hbg) | fail)
  obtain ⟨W6, hW6⟩ : ∃ W6, W6 = w5.alloc (.cells #[.pointer (some ⟨b, 0, none⟩)] 122) := ⟨_, rfl⟩
  have hb6 : Below w5.heap.size w5 W6 := by rw [hW6]; exact below_alloc (Below.refl _ _) _
  have HBW := Aside0.mk (show W6.heap[w5.heap.size]? = some (.cells #[.pointer (some ⟨b, 0, none⟩)] 122) by rw [hW6]; exact blk_new _ _)
  have S6 := Aside0.mk (S5.out.step hb6)
  have HO6 := Aside0.mk (OwnS_below HOS.out hb6)
  have t0 := (blk_cell HBW.out 0).trans (show _ = some (Value.pointer (some ⟨b, 0, none⟩)) from rfl)
  have t1 := bcell hb6 r0
  have t2 := bcell hb6 r1
  have hgs : w.heap.size + 4 ≤ g ∧ g < w5.heap.size := ⟨by have := blk_lt S4.out.br; have := HGG.out.2; omega, by obtain ⟨rc, k1, k2, k3, k4, k5, k6⟩ := HOS.out; exact Kd.R_lt k2 g rfl⟩
  have HGS := Aside0.mk hgs
  have hW6' := Aside0.mk hW6
  clear hb6 hgs hW6
  rw [← hW6'.out]
  have HEA := Aside0.mk (each_walk (fun k W => ∃ hk, (lf = true → hk = h) ∧ hk.c.length = h.c.length ∧ (lf = false → holdL hk held (l.drop k) = holdL h held l) ∧ OwnS w0 W b g cap hk ∧ KeepBut W6 W g none) 86 #[] #[.pointer (some ⟨w.heap.size + 1 + 1, 0, none⟩), .pointer (some ⟨w5.heap.size, 0, none⟩)] (enters_of Try.func86 (by kernel_rfl) rfl) (.pointer (some ⟨b, 0, none⟩)) B cb lf l W6
    (by
      rintro hlf k W hk ⟨hi, z1, z2, z3, z4, z5⟩
      have hin : inB hi (itAt l k).v = true := by
        have hu := HLD2.out
        rw [hlf] at hu
        unfold leadsB at hu
        rw [Bool.false_or] at hu
        have hx := List.all_eq_true.1 hu (itAt l k) (by unfold itAt; rw [List.getD_eq_getElem?_getD, List.getElem?_eq_getElem hk]; exact List.getElem_mem hk)
        unfold usedB at hx
        rw [Bool.and_eq_true] at hx
        have hx := hx.1
        unfold inB at hx ⊢
        rw [z2]
        exact hx
      obtain ⟨rc, _, _, _, hbl0, _⟩ := id z4
      have hbl : Below w.heap.size w W := below_mix HR0.out.2.1 hbl0 S6.out.b0 z5 (by have := HGS.out.1; omega)
      refine (alloc1_walk (itAt l k).v D d held (w.heap.size + 1 + 1) w5.heap.size z4 hin (Kd.C_below HD.out hbl) ((z5.2 _ (blk_lt S6.out.bd) (by have := HGS.out.1; omega) (by simp)).trans S6.out.bd) ((z5.2 _ (blk_lt HBW.out) (by have := HGS.out.2; omega) (by simp)).trans HBW.out)).mono ?_
      rintro e W' ⟨hv, ho', hk'⟩
      refine ⟨hv, _, (fun h => by rw [hlf] at h; cases h), ?_, fun _ => ?_, ho', keep_trans z5 hk'⟩
      · split
        · exact z2
        · rw [show (moreH hi (itAt l k).v).c.length = hi.c.length by unfold moreH setH; simp]; exact z2
      · rw [← z3 hlf, drop_succ zIt l k hk]
        rfl)
    (by rintro k W ⟨hi, _, _, _, hos, _⟩; obtain ⟨rc, _, _, _, h4, _⟩ := hos; exact Kd.C_below HR0.out.2.2 h4)
    (by rintro k W o ⟨hi, h1, h2, h3, hos, hkb⟩; exact ⟨hi, h1, h2, h3, OwnS_alloc hos o, keep_al hkb o⟩)
    ⟨h, fun _ => rfl, rfl, fun _ => rfl, HO6.out, KeepBut.refl _ _ _⟩)
  go_upto_region 8 with (first | (go_at_call 85; (with_reducible refine HEA.out.mono ?_); rintro e w7 ⟨⟨v, rfl⟩, hs⟩; have HS := Aside0.mk hs; clear hs) | fail)
  obtain ⟨h2, z1, z2, z3, z4, z5⟩ := HS.out
  have hh2 : (if lf = true then h else holdL h held l) = h2 := by
    cases lf with
    | true => rw [if_pos rfl]; exact (z1 rfl).symm
    | false =>
      rw [if_neg (by decide), ← z3 rfl, if_neg (by decide), List.drop_eq_nil_of_le (Nat.le_refl _)]
      rfl
  have HH2 := Aside0.mk hh2
  have hbl : Below w.heap.size w w7 := by obtain ⟨rc, _, _, _, hb, _⟩ := z4; exact below_mix HR0.out.2.1 hb S6.out.b0 z5 (by have := HGS.out.1; omega)
  have S7 := Aside0.mk (S6.out.keep HGS.out.1 z5 hbl)
  have HO7 := Aside0.mk z4
  have hbw := (z5.2 _ (blk_lt HBW.out) (by have := HGS.out.2; omega) (by simp)).trans HBW.out
  have HBW7 := Aside0.mk hbw
  have hp2 : p < h2.c.length := by rw [z2]; exact HL.out.2.2
  have HP2 := Aside0.mk hp2
  have HZ2 := Aside0.mk z2
  have s0 := (blk_cell hbw 0).trans (show _ = some (Value.pointer (some ⟨b, 0, none⟩)) from rfl)
  have s1 := (blk_cell S7.out.bn 0).trans (show _ = some (Value.bool lf) from rfl)
  have s2 := (blk_cell S7.out.bn 1).trans (show _ = some (Value.slice B l.length cb) from rfl)
  obtain ⟨B2, cb2, y0, y1, y2, y3, _, y4, y5, y6, y7, y8, y9, _⟩ := own_cells z4 hp2
  have q3 : (p < h2.c.length) = True := eq_true hp2
  clear z1 z2 z3 z4 z5 hh2 hbl hbw hp2 c0 c1 d0 d1 g0 g1 j0 j1 k0 k1 m0 m1 n0 n1 p0 p1 r0 r1 t0 t1 t2
  go_still_tail 9, (by kernel_rfl)
  obtain ⟨W8, hW8⟩ : ∃ W8, W8 = ({ heap := w7.heap, tape := w7.tape, drawn := w7.drawn + 1, os := w7.os, output := w7.output } : World) := ⟨_, rfl⟩
  have hd8 : W8 = w7.drewN 1 := by rw [hW8]; rfl
  rw [← hW8]
  have x0 : W8.frozen? ⟨g, p * 4, none⟩ = false := by rw [hW8]; exact y4
  have x1 : W8.frozen? ⟨g, p * 4 + 1, none⟩ = false := by rw [hW8]; exact y5
  have x2 : W8.frozen? ⟨g, p * 4 + 2, none⟩ = false := by rw [hW8]; exact y6
  have x3 : W8.frozen? ⟨g, p * 4 + 2 + 1, none⟩ = false := by rw [hW8]; exact y7
  have v0 : W8.cell? ⟨g, p * 4, none⟩ = some (.int .i64 (h2.c.getD p zCl).ref) := by rw [hW8]; exact y0
  have v1 : W8.cell? ⟨g, p * 4 + 1, none⟩ = some (.bool (h2.c.getD p zCl).pin) := by rw [hW8]; exact y1
  have v2 : W8.cell? ⟨g, p * 4 + 2, none⟩ = some (.bool (h2.c.getD p zCl).n.leaf) := by rw [hW8]; exact y2
  have v3 : W8.cell? ⟨g, p * 4 + 2 + 1, none⟩ = some (.slice B2 (h2.c.getD p zCl).n.it.length cb2) := by rw [hW8]; exact y3
  have ho8 : OwnS w0 W8 b g cap h2 := by rw [hd8]; exact OwnS_drew HO7.out 1
  have hp4 := own_put4 ho8 HP2.out 1 false lf B cb l HL.out.2.1 HR0.out.2.2
  have hb78 : Below w7.heap.size w7 W8 := by rw [hd8]; exact pw_below_drewN (Below.refl _ _) 1
  have S8 := Aside0.mk (S7.out.step hb78)
  have HBW8 := Aside0.mk (blk_below HBW7.out hb78)
  obtain ⟨W9, hW9⟩ : ∃ W9, W9 = ((((W8.setCell ⟨g, p * 4, none⟩ (.int .i64 1)).setCell ⟨g, p * 4 + 1, none⟩ (.bool false)).setCell ⟨g, p * 4 + 2, none⟩ (.bool lf)).setCell ⟨g, p * 4 + 2 + 1, none⟩ (.slice B l.length cb)) := ⟨_, rfl⟩
  rw [← hW9] at hp4
  have HP4 := Aside0.mk hp4
  have hW9' := Aside0.mk hW9
  have hlen9 : (setH h2 (p : Int) ⟨1, false, ⟨lf, l⟩⟩).c.length = h2.c.length := by unfold setH; simp
  have HLEN := Aside0.mk hlen9
  clear hW8 hd8 y0 y1 y2 y3 y4 y5 y6 y7 y8 y9 s0 s1 s2 ho8 hp4 hb78 hW9 hlen9
  go_upto_region 9 with (fail)
  rw [← hW9'.out]
  have hbl9 : Below w.heap.size w W9 := by obtain ⟨rc, _, _, _, hb, _⟩ := HP4.out.1; exact below_mix HR0.out.2.1 hb S8.out.b0 HP4.out.2 (by have := HGS.out.1; omega)
  have S9 := Aside0.mk (S8.out.keep HGS.out.1 HP4.out.2 hbl9)
  have hbw9 := (HP4.out.2.2 _ (blk_lt HBW8.out) (by have := HGS.out.2; omega) (by simp)).trans HBW8.out
  have s0 := (blk_cell hbw9 0).trans (show _ = some (Value.pointer (some ⟨b, 0, none⟩)) from rfl)
  obtain ⟨k1, k2, k3⟩ := own_reads HP4.out.1
  have KK := Aside0.mk (And.intro k1 k2)
  have s1 := (blk_cell k3 0).trans (show _ = some (Value.slice (some ⟨g, 0, none⟩) (setH h2 (p : Int) ⟨1, false, ⟨lf, l⟩⟩).c.length cap) from rfl)
  have s2 := (blk_cell k3 1).trans (show _ = some (Value.int .i64 (setH h2 (p : Int) ⟨1, false, ⟨lf, l⟩⟩).keep) from rfl)
  have e0 := (blk_cell S9.out.br 0).trans (show _ = some (Value.slice none 0 0) from rfl)
  have e1 := (blk_cell S9.out.br 1).trans (show _ = some (Value.int .i64 0) from rfl)
  have f0 := blk_frozen S9.out.br 0
  have f1 := blk_frozen S9.out.br 1
  have HBL9 := Aside0.mk hbl9
  clear hbw9 k1 k2 k3 x0 x1 x2 x3 v0 v1 v2 v3 hbl9
  have hh3 : hF = setH h2 (p : Int) ⟨1, false, ⟨lf, l⟩⟩ := by rw [HHF.out, HH2.out]
  rw [← hh3] at s1 s2 KK
  have hoo := HP4.out.1
  rw [← hh3] at hoo
  have OO := Aside0.mk hoo
  clear hh3 hoo
  go_wp2
  refine bodyPost_ret (results_ctt rfl _ _ (w.heap.size + 1 + 1 + 1) 24 #[.slice (some ⟨g, 0, none⟩) hF.c.length cap, .int .i64 hF.keep] (0, 0) _ rfl (hb_store S9.out.br) Try.underlying24 rfl (by kernel_rfl)) rfl ?_
  exact ⟨some ⟨g, 0, none⟩, cap, rfl, KK.out.2, (fun W' hk => own_lv (own_set (own_set OO.out S9.out.br (by have := HR0.out.2.1.size; omega) 0 _) (blk_put S9.out.br 0 _ rfl) (by have := HR0.out.2.1.size; omega) 1 _) (fun hy => by have h1 := HGS.out.1; have h2 := hy.2; omega) (fun _ hy => hy.1) hk), below_set (below_set HBL9.out (by omega)) (by omega)⟩
end Go.Proofs.Ytopkoganfnabgaa.H
namespace Go.Proofs.Ytopkoganfnabgaa.H
open Go.RowKit Go.Proofs.YtopkoganfnabgaaW.PrintWords Go.Proofs.YtopkoganfnabgaaW.PrintLast Go.Proofs.YtopkoganfnabgaaW.PrintMore
attribute [local go_sem] max2_int min2_int max_two min_two max_three min_three max_four min_four
set_option linter.unusedVariables false
set_option linter.unusedSimpArgs false
theorem tw_any {α : Type} (p : α → Bool) : ∀ (l : List α), (l.any p = true ∧ (l.takeWhile fun x => !p x).length < l.length) ∨ (l.any p = false ∧ (l.takeWhile fun x => !p x).length = l.length)
  | [] => Or.inr ⟨rfl, rfl⟩
  | a :: l => by
    cases h : p a with
    | true => left; simp [h, List.takeWhile_cons]
    | false =>
      rcases tw_any p l with ⟨h1, h2⟩ | ⟨h1, h2⟩
      · left; refine ⟨by simp [h1], ?_⟩; rw [List.takeWhile_cons, h]; simp only [Bool.not_false, if_true, List.length_cons]; omega
      · right; refine ⟨?_, ?_⟩
        · rw [List.any_cons, h, h1]; rfl
        · rw [List.takeWhile_cons, h]; simp only [Bool.not_false, if_true, List.length_cons]; omega
/-- heap.Alloc. -/
theorem heapAlloc_walk (A B D : Option Addr) (c cb d : Nat) (h h' : Hp) (n : Nd) (held : List Int) (p er : Int) (w0 w : World) (hr0 : kCl.C w0 A h.c.length h.c) (hb0 : Below w0.heap.size w0 w) (hcc : h.c.length ≤ c) (hn0 : kIt.C w0 B n.it.length n.it) (hnb : n.it.length ≤ cb) (hd : (Kd.int .i64).C w D held.length held) (e : allocO h n held = some (h', p, er)) :
    Calls Try.prog 50 #[.agg #[.slice A h.c.length c, .int .i64 h.keep], .agg #[.bool n.leaf, .slice B n.it.length cb], .slice D held.length d] w fun e w' => ∃ B' cb', e = .returned (.tuple #[.agg #[.slice B' h'.c.length cb', .int .i64 h'.keep], .int .i64 p, .int .i64 er]) ∧ h'.c.length ≤ cb' ∧ Lv w0 w w' B' h'.c ∧ Below w.heap.size w w' := by
  unfold allocO at e
  split at e
  · rename_i hl
    split at e
    · rename_i hg
      rw [Bool.and_eq_true] at hg
      split at e
      · rcases tw_any freeB h.c with ⟨h1, h2⟩ | ⟨h1, h2⟩
        · have hf : firstH h < h.c.length := h2
          rw [if_pos hf] at e
          simp only [Option.some.injEq, Prod.mk.injEq] at e
          obtain ⟨e1, e2, e3⟩ := e
          subst e1 e2 e3
          exact allocOk_walk A B D c cb d h n held w0 w hr0 hb0 hcc hl hn0 hnb hd hg.1 hg.2 (firstH h) hf (by unfold idxI; rw [if_pos h1]; rfl)
        · have hf : ¬ firstH h < h.c.length := by have : firstH h = h.c.length := h2; omega
          rw [if_neg hf] at e
          simp only [Option.some.injEq, Prod.mk.injEq] at e
          obtain ⟨e1, e2, e3⟩ := e
          subst e1 e2 e3
          exact allocFull_walk A B D c cb d h n held w0 w hr0 hb0 hcc (Kd.C_below hn0 hb0) hg.1 hg.2 (by unfold idxI; rw [h1]; rfl)
      · cases e
    · rename_i hg
      simp only [Option.some.injEq, Prod.mk.injEq] at e
      obtain ⟨e1, e2, e3⟩ := e
      subst e1 e2 e3
      exact allocArg_walk A B D c cb d h n held w0 w hr0 hb0 hcc (Kd.C_below hn0 hb0) (by simpa using hg)
  · cases e
end Go.Proofs.Ytopkoganfnabgaa.H
namespace Go.Proofs.Ytopkoganfnabgaa.H
open Go.RowKit Go.Proofs.YtopkoganfnabgaaW.PrintWords Go.Proofs.YtopkoganfnabgaaW.PrintLast Go.Proofs.YtopkoganfnabgaaW.PrintMore
attribute [local go_sem] max2_int min2_int max_two min_two max_three min_three max_four min_four
set_option linter.unusedVariables false
set_option linter.unusedSimpArgs false
theorem rw_put4 {W : World} {base g n cap : Nat} {rc : List Rw} (h : kRw.R 79 W base (fun _ => True) (.slice (some ⟨g, 0, none⟩) n cap) rc) (i : Nat) (hi : i < n) (x : Rw) :
    kRw.R 79 ((((W.setCell ⟨g, i * 4, none⟩ (.int .i64 x.ref)).setCell ⟨g, i * 4 + 1, none⟩ (.bool x.pin)).setCell ⟨g, i * 4 + 2, none⟩ (.bool x.leaf)).setCell ⟨g, i * 4 + 2 + 1, none⟩ (trV x.tr)) base (fun _ => True) (.slice (some ⟨g, 0, none⟩) n cap) (rc.set i x) := by
  have hrl : i < rc.length := by have := (Kd.R_reads' h).1; omega
  have hg : ∀ (y : Rw) (l : List Rw), l.length = rc.length → (l.set i y).getD i zRw = y := fun y l hl => by
    rw [List.getD_eq_getElem?_getD, List.getElem?_set_self (by omega)]; rfl
  obtain ⟨x0, hx0⟩ : ∃ x0, x0 = rc.getD i zRw := ⟨_, rfl⟩
  have p1 := (rw_put h i hi 0 (by decide) (.int .i64 x.ref) ⟨x.ref, x0.pin, x0.leaf, x0.tr⟩ (by rw [← hx0]; rfl)).1
  have p2 := (rw_put p1 i hi 1 (by decide) (.bool x.pin) ⟨x.ref, x.pin, x0.leaf, x0.tr⟩ (by rw [hg _ _ rfl]; rfl)).1
  rw [List.set_set] at p2
  have p3 := (rw_put p2 i hi 2 (by decide) (.bool x.leaf) ⟨x.ref, x.pin, x.leaf, x0.tr⟩ (by rw [hg _ _ rfl]; rfl)).1
  rw [List.set_set] at p3
  have p4 := (rw_put p3 i hi 3 (by decide) (trV x.tr) ⟨x.ref, x.pin, x.leaf, x.tr⟩ (by rw [hg _ _ rfl]; rfl)).1
  rw [List.set_set] at p4
  exact p4
theorem rw_empty (W : World) : kRw.R 79 (W.alloc (.cells #[] 79)) W.heap.size (fun _ => True) (.slice (some ⟨W.heap.size, 0, none⟩) 0 0) [] :=
  ⟨fun _ _ => trivial, [], ⟨rfl, .inr ⟨W.heap.size, 0, #[], rfl, Nat.le_refl _, blk_new _ _, Nat.le_refl _, by unfold maxLen; decide, rfl, rfl⟩⟩, Reps.none _ _⟩
/-- A heap's cells whose nodes lie in w0 and whose row lives through what is written to the blocks of a that w0 has not. -/
def Ls (w0 a w : World) (A : Option Addr) (l : List Cl) : Prop := ∃ rc, (∀ W', Kept w W' (Yg w0 a) → kRw.C W' A l.length rc) ∧ CellsC w0 rc l ∧ Below w0.heap.size w0 w
theorem Ls_old {w0 a w : World} {A : Option Addr} {l : List Cl} (h : kCl.C w0 A l.length l) (hb : Below w0.heap.size w0 w) : Ls w0 a w A l := by
  obtain ⟨rc, h1, h2⟩ := rw_of_cl h
  exact ⟨rc, fun W' hk => rw_lv h1 hb (fun _ hs => hs.1) hk, h2, hb⟩
theorem Ls.lv {w0 a w : World} {A : Option Addr} {l : List Cl} (h : Ls w0 a w A l) : Lv w0 a w A l := by
  obtain ⟨rc, h1, h2, h3⟩ := h
  intro W' hk
  refine cl_of_rw (h1 W' hk) ⟨h2.1, fun i hi => ?_⟩
  obtain ⟨e1, e2, e3, e4, e5, e6⟩ := h2.2 i hi
  exact ⟨e1, e2, e3, e4, e5, it_lv e6 h3 (fun _ hs => hs.1) hk⟩
theorem Ls.now {w0 a w : World} {A : Option Addr} {l : List Cl} (h : Ls w0 a w A l) : kCl.C w A l.length l := h.lv.now
theorem Ls.below {w0 a w W : World} {A : Option Addr} {l : List Cl} (h : Ls w0 a w A l) (hb : Below w.heap.size w W) : Ls w0 a W A l := by
  obtain ⟨rc, h1, h2, h3⟩ := h
  exact ⟨rc, fun W' hk => h1 W' ((Kept.of_below hb _).then_ hk (fun _ hy => Or.inl hy)), h2, below_step h3 hb⟩
theorem rw_keep {w W : World} {g n : Nat} {A : Option Addr} {l : List Rw} (h1 : kRw.C w A n l) (hb : Hb w g) (hk : KeepBut w W g none) : kRw.C W A n l := by
  refine Kd.C_foot_ne (g := g) (d := kRw) (fun h => h) h1 ?_ W hk
  intro ad e hn he
  obtain ⟨ad', e1, c0, c1, _⟩ := at_rw h1 0 hn
  cases e.symm.trans e1
  exact Hb_cell hb (ad.add (0 * 4)) _ _ he c0 c1
theorem Ls.hb {w0 a w W : World} {A : Option Addr} {l : List Cl} {g : Nat} (h : Ls w0 a w A l) (hH : Hb w g) (hk : KeepBut w W g none) (hbl : Below w0.heap.size w0 W) : Ls w0 a W A l := by
  obtain ⟨rc, h1, h2, h3⟩ := h
  refine ⟨rc, fun W' hk' => ?_, h2, hbl⟩
  by_cases hy : Yg w0 a g
  · refine h1 W' ⟨Nat.le_trans hk.1 hk'.1, fun i hi hn => ?_⟩
    exact (hk'.2 i (Nat.lt_of_lt_of_le hi hk.1) hn).trans (hk.2 i hi (fun e => hn (e ▸ hy)) (by simp))
  · obtain ⟨X, p, q, k, t, ho⟩ := hH
    have hg2 := blk_lt ho
    have hgW : g < W'.heap.size := Nat.lt_of_lt_of_le hg2 (Nat.le_trans hk.1 hk'.1)
    have hV : ({ W' with heap := W'.heap.setIfInBounds g (.cells #[.slice X p q, .int .i64 k] t (0, 0)) } : World).heap[g]? = some (.cells #[.slice X p q, .int .i64 k] t (0, 0)) := by
      simp [hgW]
    have hO : ∀ i, i ≠ g → ({ W' with heap := W'.heap.setIfInBounds g (.cells #[.slice X p q, .int .i64 k] t (0, 0)) } : World).heap[i]? = W'.heap[i]? := by
      intro i hi
      simp [Array.getElem?_setIfInBounds, Ne.symm hi]
    have hsz : ({ W' with heap := W'.heap.setIfInBounds g (.cells #[.slice X p q, .int .i64 k] t (0, 0)) } : World).heap.size = W'.heap.size := by simp
    generalize ({ W' with heap := W'.heap.setIfInBounds g (.cells #[.slice X p q, .int .i64 k] t (0, 0)) } : World) = V at hV hO hsz
    have hC := h1 V ⟨by rw [hsz]; exact Nat.le_trans hk.1 hk'.1, fun i hi hn => by
      by_cases e : i = g
      · rw [e, hV, ho]
      · rw [hO i e, hk'.2 i (Nat.lt_of_lt_of_le hi hk.1) hn, hk.2 i hi e (by simp)]⟩
    exact rw_keep hC ⟨X, p, q, k, t, hV⟩ ⟨by rw [hsz]; exact Nat.le_refl _, fun i hi hn _ => (hO i hn).symm⟩
/-- A heap is stored in a younger block. -/
theorem Ls.store {w0 a w : World} {g m c : Nat} {A X Y : Option Addr} {p b : Nat} {k q : Int} {t : TypeId} {l : List Cl} (h : Ls w0 a w A l) (hb : w.heap[g]? = some (.cells #[.slice X p b, .int .i64 k] t (0, 0))) (hg : w0.heap.size ≤ g) :
    Ls w0 a ((w.setCell ⟨g, 0, none⟩ (.slice Y m c)).setCell ⟨g, 1, none⟩ (.int .i64 q)) A l := by
  have hbl := h.choose_spec.2.2
  exact h.hb (Hb_of hb) (((KeepBut.refl w g none).set_ 0 _).set_ 1 _) (below_set (below_set hbl hg) hg)
set_option maxHeartbeats 4000000 in
set_option maxRecDepth 100000 in
/-- The reference's set. -/
theorem refSet_walk (A B : Option Addr) (c cb : Nat) (h : Hp) (p : Nat) (x : Cl) (w0 a w : World) (hL : Ls w0 a w A h.c) (ha : a.heap.size ≤ w.heap.size) (hn : kIt.C w0 B x.n.it.length x.n.it) (hcb : x.n.it.length ≤ cb) (hp : p < h.c.length) (hl : h.c.length ≤ 1000000) :
    Calls Try.prog 75 #[.agg #[.slice A h.c.length c, .int .i64 h.keep], .int .i64 (p : Int), .agg #[.int .i64 x.ref, .bool x.pin, .bool x.n.leaf, .slice B x.n.it.length cb]] w fun e w' => ∃ B' cb', e = .returned (.agg #[.slice B' (setH h (p : Int) x).c.length cb', .int .i64 (setH h (p : Int) x).keep]) ∧ (setH h (p : Int) x).c.length ≤ cb' ∧ Ls w0 a w' B' (setH h (p : Int) x).c ∧ Below w.heap.size w w' := by
  have hlen : (setH h (p : Int) x).c.length = h.c.length := by unfold setH; simp
  have hset : (setH h (p : Int) x).c = h.c.set p x := by unfold setH; rw [Int.toNat_natCast]
  rw [hlen, show (setH h (p : Int) x).keep = h.keep from rfl]
  obtain ⟨rc, hrow, hcc, hb0⟩ := hL
  have hrc := hrow w (Kept.refl _ _)
  obtain ⟨W1, hW1⟩ : ∃ W1, W1 = ((w.alloc (.cells #[.slice A h.c.length c, .int .i64 h.keep] 24)).alloc (.cells #[.int .i64 x.ref, .bool x.pin, .bool x.n.leaf, .slice B x.n.it.length cb] 79)).alloc (.cells #[.slice none 0 0, .int .i64 0] 24) := ⟨_, rfl⟩
  have HB0 := Aside0.mk (show Below w.heap.size w W1 by rw [hW1]; exact below_alloc (below_alloc (below_alloc (Below.refl _ _) _) _) _)
  have HH1 := Aside0.mk (show W1.heap[w.heap.size]? = some (.cells #[.slice A h.c.length c, .int .i64 h.keep] 24) by rw [hW1]; exact blk_alloc (blk_alloc (blk_new w _) _) _)
  have HX1 := Aside0.mk (show W1.heap[w.heap.size + 1]? = some (.cells #[.int .i64 x.ref, .bool x.pin, .bool x.n.leaf, .slice B x.n.it.length cb] 79) by rw [hW1]; exact blk_alloc (blk2 w _ _) _)
  have HR1 := Aside0.mk (show W1.heap[w.heap.size + 1 + 1]? = some (.cells #[.slice none 0 0, .int .i64 0] 24) by rw [hW1]; exact blk3 w _ _ _)
  have HRC := Aside0.mk (Kd.C_below hrc HB0.out)
  have HA := Aside0.mk ha
  have HB00 := Aside0.mk hb0
  have HCC := Aside0.mk (And.intro hcc (And.intro hn hcb))
  have HL := Aside0.mk (And.intro hp hl)
  have HSET := Aside0.mk hset
  have HRL := Aside0.mk hcc.1
  have c0 := (blk_cell HH1.out 0).trans (show _ = some (Value.slice A h.c.length c) from rfl)
  have c1 := (blk_cell HH1.out 1).trans (show _ = some (Value.int .i64 h.keep) from rfl)
  have hW1' := Aside0.mk hW1
  clear hrow ha hb0 hn hcb hp hl hrc hcc hW1 hlen hset
  go_enter Try.func75, Try.ntmps75
  go_upto_region 1 with (fail)
  rw [← hW1'.out]
  have c2 := al1 (o := .cells #[] 79) c0
  go_upto_region 2 with (first | ((with_reducible refine gate_builtin (b := .append) (xs := #[.tmp 8, .tmp 10]) rfl ?_); at_builtin; refine Kd.R_append_rows kRw (w0 := W1) W1.heap.size rfl (.tmp 8) (.tmp 10) 22 79 (.agg #[.int .i64 0, .bool false, .bool false, .slice none 0 0]) 48 rfl Try.underlying22 info_cl rfl (by decide) (by omega) _ [] rc _ h.c.length _ (fun _ => True) (fun _ => False) rfl rfl (rw_empty W1) (Kd.C_alloc HRC.out _) (fun _ _ h => h) (fun _ h => h.elim) (fun _ _ => trivial) (below_alloc (Below.refl _ _) _) (below_alloc (Below.refl _ _) _).size (by have := HL.out.2; simp; omega) ?_; intro v1 w5 ho hb hg hat; have HO5 := Aside0.mk (show kRw.R 79 w5 W1.heap.size (fun _ => True) v1 rc from ho); have HB5 := Aside0.mk hb; clear ho hb hg hat) | fail)
  clear c0 c2
  have ho5 := HO5.out
  obtain ⟨g, cap, rfl, hg, hglt, _⟩ := Kd.R_form ho5 (by have := HRL.out; have := HL.out.1; omega)
  rw [HRL.out] at ho5 ⊢
  have HO := Aside0.mk ho5
  have HG := Aside0.mk (And.intro hg hglt)
  have HBw := Aside0.mk (below_step HB0.out HB5.out)
  obtain ⟨hcell, hfro⟩ := rw_cell ho5 p HL.out.1
  obtain ⟨x0, hx0⟩ : ∃ x0, x0 = rc.getD p zRw := ⟨_, rfl⟩
  rw [← hx0] at hcell
  have y0 : w5.cell? ⟨g, p * 4, none⟩ = some (.int .i64 x0.ref) := hcell 0 _ rfl
  have y1 : w5.cell? ⟨g, p * 4 + 1, none⟩ = some (.bool x0.pin) := hcell 1 _ rfl
  have y2 : w5.cell? ⟨g, p * 4 + 2, none⟩ = some (.bool x0.leaf) := hcell 2 _ rfl
  have y3 : w5.cell? ⟨g, p * 4 + 2 + 1, none⟩ = some (trV x0.tr) := hcell 3 _ rfl
  have y4 : w5.frozen? ⟨g, p * 4, none⟩ = false := hfro 0
  have y5 : w5.frozen? ⟨g, p * 4 + 1, none⟩ = false := hfro 1
  have y6 : w5.frozen? ⟨g, p * 4 + 2, none⟩ = false := hfro 2
  have y7 : w5.frozen? ⟨g, p * 4 + 2 + 1, none⟩ = false := hfro 3
  have z0 := (blk_cell (blk_below HX1.out HB5.out) 0).trans (show _ = some (Value.int .i64 x.ref) from rfl)
  have z1 := (blk_cell (blk_below HX1.out HB5.out) 1).trans (show _ = some (Value.bool x.pin) from rfl)
  have z2 := (blk_cell (blk_below HX1.out HB5.out) 2).trans (show _ = some (Value.bool x.n.leaf) from rfl)
  have z3 := (blk_cell (blk_below HX1.out HB5.out) 3).trans (show _ = some (Value.slice B x.n.it.length cb) from rfl)
  have q1 : (p < h.c.length) = True := eq_true HL.out.1
  have HP := Aside0.mk (rw_put4 ho5 p HL.out.1 ⟨x.ref, x.pin, x.n.leaf, (B, x.n.it.length, cb)⟩)
  obtain ⟨W6, hW6⟩ : ∃ W6, W6 = ((((w5.setCell ⟨g, p * 4, none⟩ (.int .i64 x.ref)).setCell ⟨g, p * 4 + 1, none⟩ (.bool x.pin)).setCell ⟨g, p * 4 + 2, none⟩ (.bool x.n.leaf)).setCell ⟨g, p * 4 + 2 + 1, none⟩ (.slice B x.n.it.length cb)) := ⟨_, rfl⟩
  have HP6 := Aside0.mk (show kRw.R 79 W6 W1.heap.size (fun _ => True) (.slice (some ⟨g, 0, none⟩) h.c.length cap) (rc.set p ⟨x.ref, x.pin, x.n.leaf, (B, x.n.it.length, cb)⟩) by rw [hW6]; exact HP.out)
  have hb6 : Below w.heap.size w W6 := by
    have hgw : w.heap.size ≤ g := by have := HB0.out.size; omega
    rw [hW6]; exact below_set (below_set (below_set (below_set HBw.out hgw) hgw) hgw) hgw
  have hfar : ∀ (i : Nat) (t : Nat) (cs : Array Value), i < W1.heap.size → w5.heap[i]? = some (.cells cs t (0, 0)) → W6.heap[i]? = some (.cells cs t (0, 0)) := fun i t cs hi hh => by
    have hne : i ≠ g := by omega
    rw [hW6]; exact blk_far (blk_far (blk_far (blk_far hh hne _) hne _) hne _) hne _
  have HH6 := Aside0.mk (hfar _ _ _ (blk_lt HH1.out) (blk_below HH1.out HB5.out))
  have HR6 := Aside0.mk (hfar _ _ _ (blk_lt HR1.out) (blk_below HR1.out HB5.out))
  have HB6 := Aside0.mk hb6
  have hW6' := Aside0.mk hW6
  clear hfar hb6 hW6 ho5 hg hglt hcell hfro hx0 c1
  go_upto_region 3 with (fail)
  rw [← hW6'.out]
  clear y0 y1 y2 y3 y4 y5 y6 y7 z0 z1 z2 z3
  have c1 := (blk_cell HH6.out 1).trans (show _ = some (Value.int .i64 h.keep) from rfl)
  have e0 := (blk_cell HR6.out 0).trans (show _ = some (Value.slice none 0 0) from rfl)
  have e1 := (blk_cell HR6.out 1).trans (show _ = some (Value.int .i64 0) from rfl)
  have f0 := blk_frozen HR6.out 0
  have f1 := blk_frozen HR6.out 1
  go_wp2
  refine bodyPost_ret (results_single rfl (.cell (w.heap.size + 1 + 1) 24 #[.slice (some ⟨g, 0, none⟩) h.c.length cap, .int .i64 h.keep] (0, 0) _ rfl (hb_store HR6.out) Try.underlying24 rfl (by kernel_rfl) .nil)) rfl ?_
  have hbf : Below w.heap.size w ((W6.setCell ⟨w.heap.size + 1 + 1, 0, none⟩ (.slice (some ⟨g, 0, none⟩) h.c.length cap)).setCell ⟨w.heap.size + 1 + 1, 1, none⟩ (.int .i64 h.keep)) := below_set (below_set HB6.out (by omega)) (by omega)
  have hR := Kd.R_set (Kd.R_set HP6.out HR6.out (by decide) 0 (.slice (some ⟨g, 0, none⟩) h.c.length cap)) (blk_put HR6.out 0 _ rfl) (by decide) 1 (.int .i64 h.keep)
  have hb0w := HB00.out.size
  refine ⟨some ⟨g, 0, none⟩, cap, rfl, (Kd.R_reads' HO.out).2.1, ?_, hbf⟩
  rw [HSET.out]
  refine ⟨_, fun W' hk => ?_, CellsC_set HCC.out.1 p (x := ⟨x.ref, x.pin, x.n.leaf, (B, x.n.it.length, cb)⟩) (c := x) ⟨rfl, rfl, rfl, rfl, HCC.out.2.2, HCC.out.2.1⟩, below_step HB00.out hbf⟩
  rw [List.length_set]
  have h7 := (Kd.R_reads' hR).2.2
  rw [← (Kd.R_reads' hR).1] at h7
  refine Kd.C_foot_neS (S := Yg w0 a) (d := kRw) (fun h => h) h7 ?_ W' hk
  intro ad e hn he
  cases e
  have h1 := HG.out.1
  have h2 := HB0.out.size
  have h3 : g < a.heap.size := he.2
  have h4 := HA.out
  omega
end Go.Proofs.Ytopkoganfnabgaa.H
namespace Go.Proofs.Ytopkoganfnabgaa.H
open Go.RowKit Go.Proofs.YtopkoganfnabgaaW.PrintWords Go.Proofs.YtopkoganfnabgaaW.PrintLast Go.Proofs.YtopkoganfnabgaaW.PrintMore
attribute [local go_sem] max2_int min2_int max_two min_two max_three min_three max_four min_four
set_option linter.unusedVariables false
set_option linter.unusedSimpArgs false
set_option maxHeartbeats 4000000 in
set_option maxRecDepth 100000 in
/-- The reference's more. -/
theorem refMore_walk (A : Option Addr) (c : Nat) (h : Hp) (p : Nat) (w0 a w : World) (hL : Ls w0 a w A h.c) (ha : a.heap.size ≤ w.heap.size) (hp : p < h.c.length) (hl : h.c.length ≤ 1000000) :
    Calls Try.prog 74 #[.agg #[.slice A h.c.length c, .int .i64 h.keep], .int .i64 (p : Int)] w fun e w' => ∃ B' cb', e = .returned (.agg #[.slice B' (moreH h (p : Int)).c.length cb', .int .i64 (moreH h (p : Int)).keep]) ∧ (moreH h (p : Int)).c.length ≤ cb' ∧ Ls w0 a w' B' (moreH h (p : Int)).c ∧ Below w.heap.size w w' := by
  obtain ⟨rc, hrow, hcc, hb0⟩ := id hL
  obtain ⟨ad, rfl, x0, x1, x2, x3⟩ := at_rw (hrow w (Kept.refl _ _)) p hp
  obtain ⟨E1, E2, E3, E4, hcb, hB0⟩ := hcc.2 p hp
  rw [E1] at x0
  rw [E2] at x1
  rw [E3] at x2
  rw [E4] at x3
  obtain ⟨B, cb, hB, hcbb⟩ : ∃ B cb, B = (rc.getD p zRw).tr.1 ∧ cb = (rc.getD p zRw).tr.2.2 := ⟨_, _, rfl, rfl⟩
  rw [← hB] at x3 hB0
  rw [← hcbb] at x3 hcb
  clear E1 E2 E3 E4 hB hcbb hcc hrow
  have hmore : moreH h (p : Int) = setH h (p : Int) ⟨w64 ((h.c.getD p zCl).ref + 1), (h.c.getD p zCl).pin, (h.c.getD p zCl).n⟩ := by unfold moreH clAt; rw [Int.toNat_natCast]
  rw [hmore]
  obtain ⟨x, hx⟩ : ∃ x, x = h.c.getD p zCl := ⟨_, rfl⟩
  rw [← hx] at x0 x1 x2 x3 hcb hB0 ⊢
  have hw : wrap64 (x.ref + 1) = w64 (x.ref + 1) := (w64_eq _).symm
  obtain ⟨r, hr⟩ : ∃ r, r = w64 (x.ref + 1) := ⟨_, rfl⟩
  rw [← hr] at hw ⊢
  have HST := Aside0.mk (fun (W : World) (hb : Below w.heap.size w W) => refSet_walk (some ad) B c cb h p ⟨r, x.pin, x.n⟩ w0 a W (hL.below hb) (Nat.le_trans ha hb.size) hB0 hcb hp hl)
  obtain ⟨hq, hhq⟩ : ∃ hq, hq = setH h (p : Int) ⟨r, x.pin, x.n⟩ := ⟨_, rfl⟩
  rw [← hhq] at HST ⊢
  have q1 : (p < h.c.length) = True := eq_true hp
  have HB00 := Aside0.mk hb0
  obtain ⟨W1, hW1⟩ : ∃ W1, W1 = (w.alloc (.cells #[.slice (some ad) h.c.length c, .int .i64 h.keep] 24)).alloc (.cells #[.slice none 0 0, .int .i64 0] 24) := ⟨_, rfl⟩
  have HB0 := Aside0.mk (show Below w.heap.size w W1 by rw [hW1]; exact below_alloc (below_alloc (Below.refl _ _) _) _)
  have HH1 := Aside0.mk (show W1.heap[w.heap.size]? = some (.cells #[.slice (some ad) h.c.length c, .int .i64 h.keep] 24) by rw [hW1]; exact blk_alloc (blk_new w _) _)
  have HR1 := Aside0.mk (show W1.heap[w.heap.size + 1]? = some (.cells #[.slice none 0 0, .int .i64 0] 24) by rw [hW1]; exact blk2 w _ _)
  have c0 := (blk_cell HH1.out 0).trans (show _ = some (Value.slice (some ad) h.c.length c) from rfl)
  have c1 := (blk_cell HH1.out 1).trans (show _ = some (Value.int .i64 h.keep) from rfl)
  have y0 := bcell HB0.out x0
  have y1 := bcell HB0.out x1
  have y2 := bcell HB0.out x2
  have y3 := bcell HB0.out x3
  have hW1' := Aside0.mk hW1
  clear x0 x1 x2 x3 hL ha hb0 hp hl hcb hB0 hx hr hhq hmore hW1
  go_enter Try.func74, Try.ntmps74
  go_upto_region 1 with (fail)
  rw [← hW1'.out]
  have d0 := al1 (o := .cells #[.int .i64 x.ref, .bool x.pin, .bool x.n.leaf, .slice B x.n.it.length cb] 79) c0
  have d1 := al1 (o := .cells #[.int .i64 x.ref, .bool x.pin, .bool x.n.leaf, .slice B x.n.it.length cb] 79) c1
  go_upto_region 2 with (fail)
  go_wp2_with (first | (go_at_call 75; (with_reducible refine (HST.out _ (below_step HB0.out (by repeat (first | (with_reducible exact Below.refl _ _) | (with_reducible refine below_alloc ?_ _) | (with_reducible refine below_drew1 ?_) | (with_reducible refine pw_below_drewN ?_ _) | fail)))).mono ?_); rintro e w3 ⟨B', cb', rfl, hcb', hlv, hb3⟩; have HB3 := Aside0.mk (show Below W1.heap.size W1 w3 from below_step (by repeat (first | (with_reducible exact Below.refl _ _) | (with_reducible refine below_alloc ?_ _) | (with_reducible refine below_drew1 ?_) | (with_reducible refine pw_below_drewN ?_ _) | fail)) hb3); have HLV := Aside0.mk (And.intro hcb' hlv); have HBR := Aside0.mk (blk_below HR1.out HB3.out); have e0 := (blk_cell HBR.out 0).trans (show _ = some (Value.slice none 0 0) from rfl); have e1 := (blk_cell HBR.out 1).trans (show _ = some (Value.int .i64 0) from rfl); have f0 := blk_frozen HBR.out 0; have f1 := blk_frozen HBR.out 1; clear hcb' hlv hb3) | fail)
  refine bodyPost_ret (results_single rfl (.cell (w.heap.size + 1) 24 #[.slice B' hq.c.length cb', .int .i64 hq.keep] (0, 0) _ rfl (hb_store HBR.out) Try.underlying24 rfl (by kernel_rfl) .nil)) rfl ?_
  exact ⟨B', cb', rfl, HLV.out.1, HLV.out.2.store HBR.out (by have := HB00.out.size; omega), below_set (below_set (below_step HB0.out HB3.out) (by omega)) (by omega)⟩
set_option maxHeartbeats 2000000 in
/-- The reference's In. -/
theorem refIn_walk (A : Option Addr) (c : Nat) (l : List Int) (q : Int) (w : World) (hr : (Kd.int .i64).C w A l.length l) :
    Calls Try.prog 73 #[.slice A l.length c, .int .i64 q] w fun e w' => e = .returned (.bool (inL l q)) ∧ w' = w := by
  have hm := Kd.C_max hr
  have HR := Aside0.mk hr
  clear hr
  go_enter Try.func73, Try.ntmps73
  go_wp2
  go_loopg [5] l.length (fun g s5 wr => ∃ k : Nat, s5 = .int .i64 k ∧ k + g = l.length ∧ Aside0 (∀ i, i < k → decide (l.getD i 0 = q) = false) ∧ Aside0 (w = wr))
  case atStart => exact ⟨0, rfl, by omega, ⟨fun i h => by omega⟩, ⟨rfl⟩⟩
  case round =>
    obtain ⟨k, rfl, hk, HO, HE⟩ := hrel
    have he := HE.out
    subst he
    by_cases hlt : k < l.length
    · obtain ⟨g1, rfl⟩ : ∃ g1, gk = g1 + 1 := ⟨gk - 1, by omega⟩
      have r1 : decide (k < l.length) = true := decide_eq_true hlt
      have r2 : (k < l.length) = True := eq_true hlt
      obtain ⟨ad, rfl, hx⟩ := Kd.at_int HR.out (k : Int) (by omega) (by omega)
      rw [Int.toNat_natCast] at hx
      obtain ⟨x, hxx⟩ : ∃ x, x = rd l (k : Int) := ⟨_, rfl⟩
      rw [← hxx] at hx
      have HX := Aside0.mk (show l.getD k 0 = x by rw [hxx]; unfold rd; rw [Int.toNat_natCast])
      have HK := Aside0.mk (And.intro hlt hk)
      have HW := Aside0.mk (show wrap64 ((k : Int) + 1) = ((k + 1 : Nat) : Int) by unfold wrap64; omega)
      by_cases e1 : x = q
      · have q1 : (x == q) = true := beq_iff_eq.mpr e1
        have HQ := Aside0.mk e1
        clear hxx hlt hk e1
        go_wp2
        go_ret
        obtain ⟨_, e2⟩ := tw_len (fun y => decide (y = q)) 0 l k HK.out.1 HO.out (by simp only [decide_eq_true_eq]; rw [HX.out]; exact HQ.out)
        exact ⟨ret_b (show true = inL l q by unfold inL; rw [e2]), rfl⟩
      · have q1 : (x == q) = false := beq_eq_false_iff_ne.mpr e1
        have HN := Aside0.mk (show decide (l.getD k 0 = q) = false by rw [HX.out]; exact decide_eq_false e1)
        clear hxx hlt hk e1
        go_wp2
        go_roundg g1
        case measure => omega
        case rel => exact ⟨k + 1, by rw [HW.out], by have := HK.out; omega, ⟨fun i hi => by rcases Nat.lt_or_ge i k with h | h; exact HO.out i h; obtain rfl : i = k := (by omega); exact HN.out⟩, ⟨rfl⟩⟩
    · have r1 : decide (k < l.length) = false := decide_eq_false hlt
      have r2 : (k < l.length) = False := eq_false hlt
      have HN := Aside0.mk (show ∀ i, i < l.length → decide (l.getD i 0 = q) = false from fun i hi => HO.out i (by omega))
      clear hlt hk
      go_wp2
      go_ret
      obtain ⟨_, e2⟩ := tw_all (fun y => decide (y = q)) 0 l HN.out
      exact ⟨ret_b (show false = inL l q by unfold inL; rw [e2]), rfl⟩
end Go.Proofs.Ytopkoganfnabgaa.H
namespace Go.Proofs.Ytopkoganfnabgaa.H
open Go.RowKit Go.Proofs.YtopkoganfnabgaaW.PrintWords Go.Proofs.YtopkoganfnabgaaW.PrintLast Go.Proofs.YtopkoganfnabgaaW.PrintMore
attribute [local go_sem] max2_int min2_int max_two min_two max_three min_three max_four min_four
set_option linter.unusedVariables false
set_option linter.unusedSimpArgs false
set_option maxHeartbeats 2000000 in
set_option maxRecDepth 100000 in
theorem refLeads_walk (A B : Option Addr) (c cb : Nat) (h : Hp) (n : Nd) (w : World) (hc : kCl.C w A h.c.length h.c) (hr : kIt.C w B n.it.length n.it) :
    Calls Try.prog 72 #[.agg #[.slice A h.c.length c, .int .i64 h.keep], .agg #[.bool n.leaf, .slice B n.it.length cb]] w fun e w' => e = .returned (.bool (leadsB h n)) ∧ Below w.heap.size w w' := by
  obtain ⟨lf, l⟩ := n
  show Calls Try.prog 72 #[.agg #[.slice A h.c.length c, .int .i64 h.keep], .agg #[.bool lf, .slice B l.length cb]] w _
  replace hr : kIt.C w B l.length l := hr
  have hn := Kd.C_max hr
  cases lf with
  | true =>
    have HF := Aside0.mk (show leadsB h ⟨true, l⟩ = true from rfl)
    by_cases h0 : 0 < l.length
    · have r1 : decide (0 < l.length) = true := decide_eq_true h0
      have r2 : (0 < l.length) = True := eq_true h0
      have r3 : decide ((0 : Int) < (l.length : Int)) = true := decide_eq_true (by omega)
      clear h0 hr hc
      go_enter Try.func72, Try.ntmps72
      go_wp2
      refine wp_loop_rounds 1 ?_
      rw [rounds_succ]; go_wp2
      go_ret
      exact ⟨ret_b HF.out.symm, by repeat (first | (with_reducible exact Below.refl _ _) | (with_reducible refine below_alloc ?_ _) | (with_reducible refine below_drew1 ?_) | (with_reducible refine pw_below_drewN ?_ _) | fail)⟩
    · have r1 : decide (0 < l.length) = false := decide_eq_false h0
      have r2 : (0 < l.length) = False := eq_false h0
      have r3 : decide ((0 : Int) < (l.length : Int)) = false := decide_eq_false (by omega)
      clear h0 hr hc
      go_enter Try.func72, Try.ntmps72
      go_wp2
      refine wp_loop_rounds 1 ?_
      rw [rounds_succ]; go_wp2
      go_ret
      exact ⟨ret_b HF.out.symm, by repeat (first | (with_reducible exact Below.refl _ _) | (with_reducible refine below_alloc ?_ _) | (with_reducible refine below_drew1 ?_) | (with_reducible refine pw_below_drewN ?_ _) | fail)⟩
  | false =>
    have HR := Aside0.mk (Kd.C_alloc (Kd.C_alloc hr (.cells #[.slice A h.c.length c, .int .i64 h.keep] 24)) (.cells #[.bool false, .slice B l.length cb] 77))
    have HBH := Aside0.mk (blk_alloc (blk_new w (.cells #[.slice A h.c.length c, .int .i64 h.keep] 24)) (.cells #[.bool false, .slice B l.length cb] 77))
    have HBN := Aside0.mk (blk2 w (.cells #[.slice A h.c.length c, .int .i64 h.keep] 24) (.cells #[.bool false, .slice B l.length cb] 77))
    have hB0 : Below w.heap.size w ((w.alloc (.cells #[.slice A h.c.length c, .int .i64 h.keep] 24)).alloc (.cells #[.bool false, .slice B l.length cb] 77)) := below_alloc (below_alloc (Below.refl _ _) _) _
    have HU0 := Aside0.mk (fun (W : World) (hb : Below w.heap.size w W) (v : Int) => refUsed_walk A c h v W (Kd.C_below hc hb))
    clear hr hc
    go_enter Try.func72, Try.ntmps72
    go_wp2
    generalize (w.alloc (.cells #[.slice A h.c.length c, .int .i64 h.keep] 24)).alloc (.cells #[.bool false, .slice B l.length cb] 77) = W1 at HR HBH HBN hB0 ⊢
    have HB0 := Aside0.mk hB0
    clear hB0
    go_loopg [5] l.length (fun g s5 wr => ∃ k : Nat, s5 = .int .i64 k ∧ k + g = l.length ∧ Aside0 (∀ i, i < k → usedB h (itAt l i).v = true) ∧ Aside0 (Below W1.heap.size W1 wr))
    case atStart => exact ⟨0, rfl, by omega, ⟨fun i h => by omega⟩, ⟨Below.refl _ _⟩⟩
    case round =>
      obtain ⟨k, rfl, hk, HO, HB⟩ := hrel
      have b0 := (blk_cell (blk_below HBH.out HB.out) 0).trans (show _ = some (Value.slice A h.c.length c) from rfl)
      have n0 := (blk_cell (blk_below HBN.out HB.out) 0).trans (show _ = some (Value.bool false) from rfl)
      have n1 := (blk_cell (blk_below HBN.out HB.out) 1).trans (show _ = some (Value.slice B l.length cb) from rfl)
      have HBW := Aside0.mk (below_step HB0.out HB.out)
      by_cases hlt : k < l.length
      · have r1 : decide (k < l.length) = true := decide_eq_true hlt
        have r2 : (k < l.length) = True := eq_true hlt
        obtain ⟨g1, rfl⟩ : ∃ g1, gk = g1 + 1 := ⟨gk - 1, by omega⟩
        obtain ⟨ad, rfl, _, x1⟩ := at_it (Kd.C_below HR.out HB.out) k hlt
        obtain ⟨x, hx⟩ : ∃ x, x = itAt l k := ⟨_, rfl⟩
        rw [← hx] at x1
        have HX := Aside0.mk hx
        have HK := Aside0.mk (And.intro hlt hk)
        have HW := Aside0.mk (show wrap64 ((k : Int) + 1) = ((k + 1 : Nat) : Int) by unfold wrap64; omega)
        clear hx hlt hk
        have hu := fun (W : World) (hb : Below wr.heap.size wr W) => HU0.out W (below_step (below_step HB0.out HB.out) hb) x.v
        obtain ⟨u, huu⟩ : ∃ u, u = usedB h x.v := ⟨_, rfl⟩
        rw [← huu] at hu
        have HU := Aside0.mk hu
        have HUU := Aside0.mk huu
        have b1 := (blk_cell (blk_below HBH.out HB.out) 1).trans (show _ = some (Value.int .i64 h.keep) from rfl)
        clear hu huu
        cases u with
        | false =>
          have HF := Aside0.mk (show leadsB h ⟨false, l⟩ = false by unfold leadsB; rw [lall_false zIt HK.out.1 (by show usedB h (itAt l k).v = false; rw [← HX.out]; exact HUU.out.symm)]; rfl)
          go_wp2
          go_still_tail 7, (by kernel_rfl)
          go_wp2_with (first | (go_at_call 67; (with_reducible refine (HU.out _ (by repeat (first | (with_reducible exact Below.refl _ _) | (with_reducible refine below_alloc ?_ _) | (with_reducible refine below_drew1 ?_) | (with_reducible refine pw_below_drewN ?_ _) | fail))).mono ?_); rintro e w3 ⟨rfl, hb3⟩; have HB3 := Aside0.mk (show Below wr.heap.size wr w3 from below_step (by repeat (first | (with_reducible exact Below.refl _ _) | (with_reducible refine below_alloc ?_ _) | (with_reducible refine below_drew1 ?_) | (with_reducible refine pw_below_drewN ?_ _) | fail)) hb3); clear hb3) | fail)
          go_ret
          exact ⟨ret_b HF.out.symm, below_step HBW.out HB3.out⟩
        | true =>
          have HN := Aside0.mk (show usedB h (itAt l k).v = true by rw [← HX.out]; exact HUU.out.symm)
          go_wp2
          go_still_tail 7, (by kernel_rfl)
          go_wp2_with (first | (go_at_call 67; (with_reducible refine (HU.out _ (by repeat (first | (with_reducible exact Below.refl _ _) | (with_reducible refine below_alloc ?_ _) | (with_reducible refine below_drew1 ?_) | (with_reducible refine pw_below_drewN ?_ _) | fail))).mono ?_); rintro e w3 ⟨rfl, hb3⟩; have HB3 := Aside0.mk (show Below wr.heap.size wr w3 from below_step (by repeat (first | (with_reducible exact Below.refl _ _) | (with_reducible refine below_alloc ?_ _) | (with_reducible refine below_drew1 ?_) | (with_reducible refine pw_below_drewN ?_ _) | fail)) hb3); clear hb3) | fail)
          go_roundg g1
          case measure => omega
          case rel => exact ⟨k + 1, by rw [HW.out], by have := HK.out; omega, ⟨fun i hi => by rcases Nat.lt_or_ge i k with h | h; exact HO.out i h; obtain rfl : i = k := (by omega); exact HN.out⟩, ⟨below_step HB.out HB3.out⟩⟩
      · have r1 : decide (k < l.length) = false := decide_eq_false hlt
        have r2 : (k < l.length) = False := eq_false hlt
        have HF := Aside0.mk (show leadsB h ⟨false, l⟩ = true by unfold leadsB; rw [lall_true zIt (fun i hi => HO.out i (by have h9 : i < l.length := hi; omega))]; simp)
        clear hlt hk
        go_wp2
        go_ret
        exact ⟨ret_b HF.out.symm, HBW.out⟩
end Go.Proofs.Ytopkoganfnabgaa.H
