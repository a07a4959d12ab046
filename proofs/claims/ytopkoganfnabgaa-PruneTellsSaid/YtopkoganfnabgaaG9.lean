import Derived.Test.YtopkoganfnabgaaG6
import Derived.Test.YtopkoganfnabgaaG7
import Derived.Test.YtopkoganfnabgaaG8
import Derived.WalkMore
import Derived.ScopeJumps
import Derived.Laws.EntriesVeiled
import Derived.RangeFuncNested
import Derived.RangeFuncFrom
import Derived.RangeFuncBox
import Derived.Maps.AppendAt
import Derived.OneCell
import Derived.RangeFuncBound
import Derived.RangeFuncCalls
import Derived.RangeFuncLeaves
import Derived.Shelf.RegionOpen
import Derived.OwnWalkIn
import Derived.TacticsInMore
import Derived.LoopNIn
import Derived.LoopIn
namespace Go.Proofs.Ytopkoganfnabgaa.H
open Go.RowKit Go.Proofs.YtopkoganfnabgaaW.PrintWords Go.Proofs.YtopkoganfnabgaaW.PrintLast Go.Proofs.YtopkoganfnabgaaW.PrintMore
attribute [local go_sem] max2_int min2_int max_two min_two max_three min_three max_four min_four
set_option linter.unusedVariables false
set_option linter.unusedSimpArgs false
theorem least {p : Nat → Prop} (h : ∃ n, p n) : ∃ n, p n ∧ ∀ m, p m → n ≤ m := by
  obtain ⟨n, hn⟩ := h
  induction n using Nat.strongRecOn with
  | _ n ih =>
    by_cases h : ∃ m, m < n ∧ p m
    · obtain ⟨m, hm, hp⟩ := h; exact ih m hm hp
    · exact ⟨n, hn, fun m hp => Nat.le_of_not_lt fun hlt => h ⟨m, hlt, hp⟩⟩
/-- Jumps back to one label: a number of one's own falls at each. -/
theorem wp_jumpsg {P : Program} {a : Act} {w : World} {Q : Exit → Act → World → Prop} {c rest X : Code} (l : Nat) (J : Nat → Act → World → Prop) (g0 : Nat) (hf : findLabel c l = some rest)
    (toR : ∀ Q' a w, X.wp P Q' a w → rest.wp P Q' a w) (toC : ∀ Q', X.wp P Q' a w → c.wp P Q' a w) (start : J g0 a w)
    (pass : ∀ g a w, J g a w → X.wp P (Exit.jump l (fun a' w' => ∃ g', g' < g ∧ J g' a' w') Q) a w) : (Code.scope c).wp P Q a w := by
  have hmu : ∃ μ : Act → World → Nat, ∀ a w, (∃ g, J g a w) → J (μ a w) a w ∧ ∀ m, J m a w → μ a w ≤ m :=
    ⟨fun a w => Classical.epsilon fun n => J n a w ∧ ∀ m, J m a w → n ≤ m, fun a w h => Classical.epsilon_spec (p := fun n => J n a w ∧ ∀ m, J m a w → n ≤ m) (least h)⟩
  obtain ⟨μ, hμ⟩ := hmu
  refine wp_scope_jumps l (fun a w => ∃ g, J g a w) μ hf ?_ ?_
  · refine toC _ (wp_mono (pass g0 a w start) fun e a' w' q => ?_)
    cases e with
    | goto l' => obtain ⟨h1, g', _, h2⟩ := q; exact ⟨h1, g', h2⟩
    | _ => exact q
  · intro a1 w1 h1
    obtain ⟨m1, m2⟩ := hμ a1 w1 h1
    refine toR _ _ _ <| wp_mono (pass _ a1 w1 m1) fun e a' w' q => ?_
    cases e with
    | goto l' =>
      obtain ⟨h2, g', h3, h4⟩ := q
      exact ⟨h2, ⟨g', h4⟩, Nat.lt_of_le_of_lt ((hμ a' w' ⟨g', h4⟩).2 g' h4) h3⟩
    | _ => exact q
theorem looseH_len {f : Nat} {h g : Hp} {p e : Int} (q : looseH f h p = some (g, e)) : g.c.length = h.c.length := by
  unfold looseH at q
  split at q
  · cases hq : looseO f h p with
    | none => rw [hq] at q; cases q
    | some g' =>
      rw [hq] at q
      simp only [Option.map_some, Option.some.injEq, Prod.mk.injEq] at q
      rw [← q.1]; exact looseO_len f h g' p hq
  · simp only [Option.some.injEq, Prod.mk.injEq] at q; rw [← q.1]
theorem holdH_len (h : Hp) (p : Int) : (holdH h p).1.c.length = h.c.length := by
  unfold holdH
  split
  · exact len_setH
  · rfl
theorem lowO_len : ∀ (f : Nat) (h g : Hp) (p q : Int), lowO f h p = some (g, q) → g.c.length = h.c.length
  | 0, _, _, _, _, e => by simp [lowO] at e
  | f + 1, h, g, p, q, e => by
    unfold lowO at e
    split at e
    · simp only [Option.some.injEq, Prod.mk.injEq] at e; rw [← e.1]
    · split at e
      · split at e
        · simp only [Option.some.injEq, Prod.mk.injEq] at e; rw [← e.1]
        · split at e
          · cases e
          · rename_i x _
            cases hq : looseH 25 (holdH h x.v).1 p with
            | none => rw [hq] at e; cases e
            | some t =>
              obtain ⟨g1, e1⟩ := t
              rw [hq] at e
              exact (lowO_len f g1 g x.v q e).trans ((looseH_len hq).trans (holdH_len h x.v))
          · simp only [Option.some.injEq, Prod.mk.injEq] at e; rw [← e.1]
      · cases e
/-- One step down. -/
theorem lowO_inv {f : Nat} {h g : Hp} {p q : Int} (e : lowO (f + 1) h p = some (g, q)) :
    (p < 0 ∧ g = h ∧ q = p) ∨ (¬ p < 0 ∧ inB h p = true ∧ (clAt h p).n.leaf = true ∧ g = h ∧ q = p) ∨ (¬ p < 0 ∧ inB h p = true ∧ (clAt h p).n.leaf = false ∧ 1 < (clAt h p).n.it.length ∧ g = h ∧ q = p) ∨
      (¬ p < 0 ∧ inB h p = true ∧ (clAt h p).n.leaf = false ∧ ∃ x g1 e1, (clAt h p).n.it = [x] ∧ looseH 25 (holdH h x.v).1 p = some (g1, e1) ∧ lowO f g1 x.v = some (g, q)) := by
  unfold lowO at e
  split at e
  · rename_i h0
    simp only [Option.some.injEq, Prod.mk.injEq] at e; exact .inl ⟨h0, e.1.symm, e.2.symm⟩
  · rename_i h0
    split at e
    · rename_i hin
      split at e
      · rename_i hl
        simp only [Option.some.injEq, Prod.mk.injEq] at e; exact .inr (.inl ⟨h0, hin, hl, e.1.symm, e.2.symm⟩)
      · rename_i hl
        have hl' : (clAt h p).n.leaf = false := by simpa using hl
        split at e
        · cases e
        · rename_i x hi
          cases hq : looseH 25 (holdH h x.v).1 p with
          | none => rw [hq] at e; cases e
          | some t =>
            obtain ⟨g1, e1⟩ := t
            rw [hq] at e
            exact .inr (.inr (.inr ⟨h0, hin, hl', x, g1, e1, hi, hq, e⟩))
        · rename_i hi
          simp only [Option.some.injEq, Prod.mk.injEq] at e; exact .inr (.inr (.inl ⟨h0, hin, hl', by rw [hi]; simp, e.1.symm, e.2.symm⟩))
    · cases e
set_option maxHeartbeats 8000000 in
set_option maxRecDepth 100000 in
/-- prune.Low. -/
theorem low_walk (A : Option Addr) (c : Nat) (h h' : Hp) (root p : Int) (f : Nat) (w : World) (hr : kCl.C w A h.c.length h.c) (hl : h.c.length ≤ 2000) (hcc : h.c.length ≤ c) (e : lowO f h root = some (h', p)) :
    Calls Try.prog 30 #[.agg #[.slice A h.c.length c, .int .i64 h.keep], .int .i64 root] w fun e w' => ∃ B cb, e = .returned (.tuple #[.agg #[.slice B h'.c.length cb, .int .i64 h'.keep], .int .i64 p]) ∧ h'.c.length ≤ cb ∧ kCl.C w' B h'.c.length h'.c ∧ Below w.heap.size w w' := by
  obtain ⟨W1, hW1⟩ : ∃ W1, W1 = (w.alloc (.cells #[.slice A h.c.length c, .int .i64 h.keep] 24)).alloc (.cells #[.slice none 0 0, .int .i64 0] 24) := ⟨_, rfl⟩
  have S1 := Aside0.mk (show PuSt w W1 A c h by rw [hW1]; exact pust w A c h hr hcc)
  have hW1' := Aside0.mk hW1
  have HE := Aside0.mk e
  have HL0 := Aside0.mk hl
  clear hW1 hr hcc e hl
  go_enter Try.func30, Try.ntmps30
  go_wp2
  rw [← hW1'.out]
  refine wp_jumpsg 0 (fun g a' wr => ∃ (hk : Hp) (rk : Int) (A' : Option Addr) (c' : Nat) (u6 u7 u8 u9 u10 u11 u12 u13 u14 u15 u16 u17 u18 u19 u20 u21 u22 u23 u24 u25 u26 u27 u28 u29 u30 u31 u32 u33 u34 u35 u36 u37 u38 u39 u40 u41 u42 u43 u44 u45 u46 u47 u48 u49 u50 u51 u52 u53 : Value), a' = { tmps := #[.agg #[.slice A h.c.length c, .int .i64 h.keep], .int .i64 rk, .pointer (some ⟨w.heap.size, 0, none⟩), undef, .pointer (some ⟨w.heap.size + 1, 0, none⟩), .int .i64 0, u6, u7, u8, u9, u10, u11, u12, u13, u14, u15, u16, u17, u18, u19, u20, u21, u22, u23, u24, u25, u26, u27, u28, u29, u30, u31, u32, u33, u34, u35, u36, u37, u38, u39, u40, u41, u42, u43, u44, u45, u46, u47, u48, u49, u50, u51, u52, u53], defers := [] } ∧ Aside0 (lowO g hk rk = some (h', p) ∧ hk.c.length ≤ 2000) ∧ Aside0 (wr.heap[w.heap.size]? = some (.cells #[.slice A' hk.c.length c', .int .i64 hk.keep] 24 (0, 0))) ∧ Aside0 (hk.c.length ≤ c' ∧ kCl.C wr A' hk.c.length hk.c) ∧ Aside0 (wr.heap[w.heap.size + 1]? = some (.cells #[.slice none 0 0, .int .i64 0] 24 (0, 0))) ∧ Aside0 (Below w.heap.size w wr)) f rfl (fun _ _ _ hx => wp_seq (wp_skip hx)) (fun _ hx => wp_seq (wp_label hx)) ?_ ?_
  · exact ⟨h, root, A, c, undef, undef, undef, undef, undef, undef, undef, undef, undef, undef, undef, undef, undef, undef, undef, undef, undef, undef, undef, undef, undef, undef, undef, undef, undef, undef, undef, undef, undef, undef, undef, undef, undef, undef, undef, undef, undef, undef, undef, undef, undef, undef, undef, undef, undef, undef, undef, undef, rfl, ⟨HE.out, HL0.out⟩, ⟨S1.out.hh⟩, ⟨S1.out.cl.2, S1.out.cl.1⟩, ⟨S1.out.hr⟩, ⟨S1.out.b0⟩⟩
  · rintro g a' wr ⟨hk, rk, A', c', u6, u7, u8, u9, u10, u11, u12, u13, u14, u15, u16, u17, u18, u19, u20, u21, u22, u23, u24, u25, u26, u27, u28, u29, u30, u31, u32, u33, u34, u35, u36, u37, u38, u39, u40, u41, u42, u43, u44, u45, u46, u47, u48, u49, u50, u51, u52, u53, rfl, HQ, HH, HC, HZ, HB⟩
    have b0 := (blk_cell HH.out 0).trans (show _ = some (Value.slice A' hk.c.length c') from rfl)
    have b1 := (blk_cell HH.out 1).trans (show _ = some (Value.int .i64 hk.keep) from rfl)
    have f0 := blk_frozen HZ.out 0
    have f1 := blk_frozen HZ.out 1
    have z0 := (blk_cell HZ.out 0).trans (show _ = some (Value.slice none 0 0) from rfl)
    have z1 := (blk_cell HZ.out 1).trans (show _ = some (Value.int .i64 0) from rfl)
    cases g with
    | zero => have := HQ.out.1; simp [lowO] at this
    | succ g1 =>
    rcases lowO_inv HQ.out.1 with ⟨h0, rfl, rfl⟩ | ⟨h0, hin, hlf, rfl, rfl⟩ | ⟨h0, hin, hlf, hi1, rfl, rfl⟩ | ⟨h0, hin, hlf, x, g2, e2, hi, hlo, hnext⟩
    · have q1 : decide (p < 0) = true := decide_eq_true h0
      clear h0 HQ
      (go_wp2; simp only [Exit.jump]; refine bodyPost_ret (results_ct rfl _ _ (w.heap.size + 1) 24 #[.slice (A') h'.c.length c', .int .i64 h'.keep] (0, 0) _ rfl (hb_store HZ.out) Try.underlying24 rfl (by kernel_rfl)) rfl ?_; exact ⟨A', c', rfl, HC.out.1, cl_store HC.out.2 HZ.out, below_set (below_set HB.out (by omega)) (by omega)⟩)
    · have q1 : decide (p < 0) = false := decide_eq_false h0
      obtain ⟨i, rfl, hi⟩ := inB_nat hin
      rw [clAt_nat] at hlf
      obtain ⟨ad, B, cb, rfl, -, -, x2, -, -, -⟩ := at_cl HC.out.2 i hi
      rw [hlf] at x2
      have q2 : (i < h'.c.length) = True := eq_true hi
      clear h0 HQ hin hi hlf
      (go_wp2; simp only [Exit.jump]; refine bodyPost_ret (results_ct rfl _ _ (w.heap.size + 1) 24 #[.slice (some ad) h'.c.length c', .int .i64 h'.keep] (0, 0) _ rfl (hb_store HZ.out) Try.underlying24 rfl (by kernel_rfl)) rfl ?_; exact ⟨some ad, c', rfl, HC.out.1, cl_store HC.out.2 HZ.out, below_set (below_set HB.out (by omega)) (by omega)⟩)
    · have q1 : decide (p < 0) = false := decide_eq_false h0
      obtain ⟨i, rfl, hi⟩ := inB_nat hin
      rw [clAt_nat] at hlf hi1
      obtain ⟨ad, B, cb, rfl, -, -, x2, x3, -, -⟩ := at_cl HC.out.2 i hi
      obtain ⟨N, hN⟩ : ∃ N, N = (h'.c.getD i zCl).n.it.length := ⟨_, rfl⟩
      rw [hlf] at x2
      rw [← hN] at x3 hi1
      have q2 : (i < h'.c.length) = True := eq_true hi
      have q3 : decide ((1 : Int) < (N : Int)) = true := decide_eq_true (by omega)
      have q4 : decide (1 < N) = true := decide_eq_true hi1
      clear h0 HQ hin hi hlf hi1 hN
      (go_wp2; simp only [Exit.jump]; refine bodyPost_ret (results_ct rfl _ _ (w.heap.size + 1) 24 #[.slice (some ad) h'.c.length c', .int .i64 h'.keep] (0, 0) _ rfl (hb_store HZ.out) Try.underlying24 rfl (by kernel_rfl)) rfl ?_; exact ⟨some ad, c', rfl, HC.out.1, cl_store HC.out.2 HZ.out, below_set (below_set HB.out (by omega)) (by omega)⟩)
    · have q1 : decide (rk < 0) = false := decide_eq_false h0
      obtain ⟨i, rfl, hii⟩ := inB_nat hin
      rw [clAt_nat] at hlf hi
      obtain ⟨ad, B, cb, rfl, -, -, x2, x3, -, hB⟩ := at_cl HC.out.2 i hii
      rw [hlf] at x2
      rw [hi, show [x].length = 1 from rfl] at x3
      rw [hi, show [x].length = 1 from rfl] at hB
      obtain ⟨ad2, rfl, -, v0⟩ := at_it0 hB (by decide)
      rw [show itAt [x] 0 = x from rfl] at v0
      have q2 : (i < hk.c.length) = True := eq_true hii
      have HHO := Aside0.mk (heapHold_walk (some ad) c' hk x.v wr HC.out.2 HQ.out.2 HC.out.1)
      obtain ⟨h1, hh1⟩ : ∃ h1, h1 = (holdH hk x.v).1 := ⟨_, rfl⟩
      obtain ⟨r1, hr1⟩ : ∃ r1, r1 = (holdH hk x.v).2 := ⟨_, rfl⟩
      have hl1 : h1.c.length ≤ 2000 := by rw [hh1, holdH_len]; exact HQ.out.2
      rw [← hh1, ← hr1] at HHO
      rw [← hh1] at hlo
      have hl2 : g2.c.length ≤ 2000 := by rw [looseH_len hlo]; exact hl1
      have HLO := Aside0.mk (fun (B : Option Addr) (cb : Nat) (W : World) (h1' : kCl.C W B h1.c.length h1.c) (h2' : h1.c.length ≤ cb) => heapLoose_walk 25 B cb h1 g2 i e2 W h1' hl1 h2' hlo)
      have HNX := Aside0.mk (And.intro hnext hl2)
      clear h0 HQ hin hii hlf hi hB hh1 hr1 hl1 hl2 hlo hnext
      go_upto_region 4 with (fail)
      go_upto_region 5 with (first | (go_at_call 62; (with_reducible refine HHO.out.mono ?_); rintro e w3 ⟨B3, c3, rfl, hc3, hr3, hb3⟩; have HR3 := Aside0.mk (And.intro hc3 hr3); have HB3 := Aside0.mk hb3; have d0 := (blk_cell (blk_below HH.out hb3) 0).trans (show _ = some (Value.slice (some ad) hk.c.length c') from rfl); have d1 := (blk_cell (blk_below HH.out hb3) 1).trans (show _ = some (Value.int .i64 hk.keep) from rfl); have g0 := blk_frozen (blk_below HH.out hb3) 0; have g3 := blk_frozen (blk_below HH.out hb3) 1; clear hc3 hr3 hb3) | fail)
      obtain ⟨W4, hW4⟩ : ∃ W4, W4 = ((w3.setCell ⟨w.heap.size, 0, none⟩ (.slice B3 h1.c.length c3)).setCell ⟨w.heap.size, 1, none⟩ (.int .i64 h1.keep)) := ⟨_, rfl⟩
      have hq3 := blk_below HH.out HB3.out
      have hz3 := blk_below HZ.out HB3.out
      have HH4 := Aside0.mk (show W4.heap[w.heap.size]? = some (.cells #[.slice B3 h1.c.length c3, .int .i64 h1.keep] 24 (0, 0)) by rw [hW4]; exact hb_store hq3)
      have HC4 := Aside0.mk (show kCl.C W4 B3 h1.c.length h1.c by rw [hW4]; exact cl_store HR3.out.2 hq3)
      have HZ4 := Aside0.mk (show W4.heap[w.heap.size + 1]? = some (.cells #[.slice none 0 0, .int .i64 0] 24 (0, 0)) by rw [hW4]; exact blk_far (blk_far hz3 (by show w.heap.size + 1 ≠ w.heap.size; omega) _) (by show w.heap.size + 1 ≠ w.heap.size; omega) _)
      have HB4 := Aside0.mk (show Below w.heap.size w W4 by rw [hW4]; exact below_set (below_set (below_step HB.out HB3.out) (Nat.le_refl _)) (Nat.le_refl _))
      rw [← hW4]
      clear hW4 hq3 hz3 d0 d1 g0 g3 b0 b1 f0 f1 z0 z1 x2 x3 v0
      have d0 := (blk_cell HH4.out 0).trans (show _ = some (Value.slice B3 h1.c.length c3) from rfl)
      have d1 := (blk_cell HH4.out 1).trans (show _ = some (Value.int .i64 h1.keep) from rfl)
      go_upto_region 6 with (first | (go_at_call 60; (with_reducible refine (HLO.out _ _ _ HC4.out HR3.out.1).mono ?_); rintro e w5 ⟨B5, c5, rfl, hc5, hr5, hb5⟩; have HR5 := Aside0.mk (And.intro hc5 hr5); have HB5 := Aside0.mk hb5; have k0 := (blk_cell (blk_below HH4.out hb5) 0).trans (show _ = some (Value.slice B3 h1.c.length c3) from rfl); have k1 := (blk_cell (blk_below HH4.out hb5) 1).trans (show _ = some (Value.int .i64 h1.keep) from rfl); have g0 := blk_frozen (blk_below HH4.out hb5) 0; have g3 := blk_frozen (blk_below HH4.out hb5) 1; clear hc5 hr5 hb5) | fail)
      obtain ⟨W6, hW6⟩ : ∃ W6, W6 = ((w5.setCell ⟨w.heap.size, 0, none⟩ (.slice B5 g2.c.length c5)).setCell ⟨w.heap.size, 1, none⟩ (.int .i64 g2.keep)) := ⟨_, rfl⟩
      have hq5 := blk_below HH4.out HB5.out
      have hz5 := blk_below HZ4.out HB5.out
      have HH6 := Aside0.mk (show W6.heap[w.heap.size]? = some (.cells #[.slice B5 g2.c.length c5, .int .i64 g2.keep] 24 (0, 0)) by rw [hW6]; exact hb_store hq5)
      have HC6 := Aside0.mk (show kCl.C W6 B5 g2.c.length g2.c by rw [hW6]; exact cl_store HR5.out.2 hq5)
      have HZ6 := Aside0.mk (show W6.heap[w.heap.size + 1]? = some (.cells #[.slice none 0 0, .int .i64 0] 24 (0, 0)) by rw [hW6]; exact blk_far (blk_far hz5 (by show w.heap.size + 1 ≠ w.heap.size; omega) _) (by show w.heap.size + 1 ≠ w.heap.size; omega) _)
      have HB6 := Aside0.mk (show Below w.heap.size w W6 by rw [hW6]; exact below_set (below_set (below_step HB4.out HB5.out) (Nat.le_refl _)) (Nat.le_refl _))
      rw [← hW6]
      clear hW6 hq5 hz5 d0 d1 k0 k1 g0 g3
      go_wp2
      go_step3
      exact ⟨rfl, g1, Nat.lt_succ_self _, g2, x.v, B5, c5, _, _, _, _, _, _, _, _, _, _, _, _, _, _, _, _, _, _, _, _, _, _, _, _, _, _, _, _, _, _, _, _, _, _, _, _, _, _, _, _, _, _, _, _, _, _, _, _, rfl, HNX, HH6, ⟨HR5.out.1, HC6.out⟩, HZ6, HB6⟩
end Go.Proofs.Ytopkoganfnabgaa.H
namespace Go.Proofs.Ytopkoganfnabgaa.H
open Go.RowKit Go.Proofs.YtopkoganfnabgaaW.PrintWords Go.Proofs.YtopkoganfnabgaaW.PrintLast Go.Proofs.YtopkoganfnabgaaW.PrintMore
attribute [local go_sem] max2_int min2_int max_two min_two max_three min_three max_four min_four
set_option linter.unusedVariables false
set_option linter.unusedSimpArgs false
theorem tgetO_inv {f : Nat} {h : Hp} {p key v e : Int} (q : tgetO (f + 1) h p key = some (v, e)) :
    (p < 0 ∧ v = 0 ∧ e = 4) ∨ (¬ p < 0 ∧ inB h p = true ∧ ∃ i is, atO (clAt h p).n.leaf (clAt h p).n.it key = some (i, is) ∧
      (((clAt h p).n.leaf = true ∧ is = true ∧ v = (itAt (clAt h p).n.it i).v ∧ e = 0) ∨ ((clAt h p).n.leaf = true ∧ is = false ∧ v = 0 ∧ e = 4) ∨
       ((clAt h p).n.leaf = false ∧ i < (clAt h p).n.it.length ∧ tgetO f h (itAt (clAt h p).n.it i).v key = some (v, e)))) := by
  unfold tgetO at q
  split at q
  · rename_i h0
    simp only [Option.some.injEq, Prod.mk.injEq] at q
    exact .inl ⟨h0, q.1.symm, q.2.symm⟩
  · rename_i h0
    split at q
    · rename_i hin
      cases ha : atO (clAt h p).n.leaf (clAt h p).n.it key with
      | none => rw [ha] at q; cases q
      | some t =>
        obtain ⟨i, is⟩ := t
        rw [ha] at q
        simp only [Option.bind_some] at q
        refine .inr ⟨h0, hin, i, is, rfl, ?_⟩
        cases hl : (clAt h p).n.leaf with
        | true =>
          rw [hl, if_pos rfl] at q
          cases is with
          | true => rw [if_pos rfl] at q; simp only [Option.some.injEq, Prod.mk.injEq] at q; exact .inl ⟨rfl, rfl, q.1.symm, q.2.symm⟩
          | false => rw [if_neg (by simp)] at q; simp only [Option.some.injEq, Prod.mk.injEq] at q; exact .inr (.inl ⟨rfl, rfl, q.1.symm, q.2.symm⟩)
        | false =>
          rw [hl, if_neg (by simp)] at q
          split at q
          · rename_i hi; exact .inr (.inr ⟨rfl, hi, q⟩)
          · cases q
    · cases q
theorem atO_lt {l : List It} {key : Int} {i : Nat} (e : atO true l key = some (i, true)) : i < l.length := by
  unfold atO at e
  split at e
  · simp only [Bool.not_true, Bool.false_and, Bool.false_eq_true, if_false, Option.some.injEq, Prod.mk.injEq] at e
    have h2 := e.2
    unfold isAt at h2
    simp only [Bool.and_eq_true, decide_eq_true_eq] at h2
    omega
  · cases e
set_option maxHeartbeats 4000000 in
set_option maxRecDepth 100000 in
/-- tree.Get. -/
theorem tget_walk (f : Nat) (A : Option Addr) (c : Nat) (h : Hp) (p key v er : Int) (w : World) (hr : kCl.C w A h.c.length h.c) (e : tgetO f h p key = some (v, er)) :
    Calls Try.prog 56 #[.agg #[.slice A h.c.length c, .int .i64 h.keep], .int .i64 p, .int .i64 key] w fun e w' => e = .returned (.tuple #[.int .i64 v, .int .i64 er]) ∧ Below w.heap.size w w' := by
  have hm := Kd.C_max hr
  obtain ⟨W1, hW1⟩ : ∃ W1, W1 = w.alloc (.cells #[.slice A h.c.length c, .int .i64 h.keep] 24) := ⟨_, rfl⟩
  have HB0 := Aside0.mk (show Below w.heap.size w W1 by rw [hW1]; exact below_alloc (Below.refl _ _) _)
  have HBH := Aside0.mk (show W1.heap[w.heap.size]? = some (.cells #[.slice A h.c.length c, .int .i64 h.keep] 24) by rw [hW1]; exact blk_new w _)
  have HR1 := Aside0.mk (Kd.C_below hr HB0.out)
  have hW1' := Aside0.mk hW1
  have HE := Aside0.mk e
  clear hr hW1 e
  go_enter Try.func56, Try.ntmps56
  go_wp2
  rw [← hW1'.out]
  go_loopg [8, 9, 10, 11] f (fun g s8 s9 s10 s11 wr => ∃ (q : Int), s8 = .int .i64 q ∧ Aside0 (tgetO g h q key = some (v, er)) ∧ Aside0 (Below W1.heap.size W1 wr))
  case atStart => exact ⟨p, rfl, HE, ⟨Below.refl _ _⟩⟩
  case round =>
    obtain ⟨q, rfl, HQ, HB⟩ := hrel
    have b0 := (blk_cell (blk_below HBH.out HB.out) 0).trans (show _ = some (Value.slice A h.c.length c) from rfl)
    have HBW := Aside0.mk (below_step HB0.out HB.out)
    cases gk with
    | zero => have := HQ.out; simp [tgetO] at this
    | succ g1 =>
    rcases tgetO_inv HQ.out with ⟨h0, rfl, rfl⟩ | ⟨h0, hin, k, is, hat, hcase⟩
    · have q1 : decide (0 ≤ q) = false := decide_eq_false (by omega)
      clear h0
      go_wp2
      go_ret2
      exact ⟨rfl, HBW.out⟩
    have q1 : decide (0 ≤ q) = true := decide_eq_true (by omega)
    obtain ⟨i, rfl, hi⟩ := inB_nat hin
    rw [clAt_nat] at hat hcase
    obtain ⟨ad, B, cb, rfl, -, -, x2, x3, _, hB⟩ := at_cl (Kd.C_below HR1.out HB.out) i hi
    obtain ⟨x, hx⟩ : ∃ x, x = h.c.getD i zCl := ⟨_, rfl⟩
    rw [← hx] at x2 x3 hB hat hcase
    have q2 : (i < h.c.length) = True := eq_true hi
    obtain ⟨lf, hlf⟩ : ∃ lf, lf = x.n.leaf := ⟨_, rfl⟩
    rw [← hlf] at x2 hat hcase
    have HAT := Aside0.mk (fun (W : World) (hb : Below wr.heap.size wr W) => nodeAt_walk lf B cb x.n.it key k is W (Kd.C_below hB hb) hat)
    rcases hcase with ⟨hle, rfl, rfl, rfl⟩ | ⟨hle, rfl, rfl, rfl⟩ | ⟨hle, hk, hnext⟩
    · rw [hle] at hat x2 HAT
      have hk := atO_lt hat
      obtain ⟨ad2, rfl, -, z1⟩ := at_it hB k hk
      have r1 : (k < x.n.it.length) = True := eq_true hk
      clear h0 hin hi hx hlf hat hB HQ hk hle
      go_wp2_with (first | (go_at_call 58; (with_reducible refine (HAT.out _ (by repeat (first | (with_reducible exact Below.refl _ _) | (with_reducible refine below_alloc ?_ _) | (with_reducible refine below_drew1 ?_) | (with_reducible refine pw_below_drewN ?_ _) | fail))).mono ?_); rintro e w2 ⟨rfl, hb2⟩; have HB2 := Aside0.mk (show Below wr.heap.size wr w2 from below_step (by repeat (first | (with_reducible exact Below.refl _ _) | (with_reducible refine below_alloc ?_ _) | (with_reducible refine below_drew1 ?_) | (with_reducible refine pw_below_drewN ?_ _) | fail)) hb2); have hn2 := blk_below (blk_new wr (.cells #[.bool true, .slice _ x.n.it.length cb] 77)) hb2; have n0 := (blk_cell hn2 0).trans (show _ = some (Value.bool true) from rfl); have n1 := (blk_cell hn2 1).trans (show _ = some (Value.slice _ x.n.it.length cb) from rfl); have z2 := bcell HB2.out z1; clear hn2 hb2) | fail)
      go_ret2
      exact ⟨rfl, below_step HBW.out HB2.out⟩
    · rw [hle] at hat x2 HAT
      have z1 := x2
      clear h0 hin hi hx hlf hat hB HQ hle
      go_wp2_with (first | (go_at_call 58; (with_reducible refine (HAT.out _ (by repeat (first | (with_reducible exact Below.refl _ _) | (with_reducible refine below_alloc ?_ _) | (with_reducible refine below_drew1 ?_) | (with_reducible refine pw_below_drewN ?_ _) | fail))).mono ?_); rintro e w2 ⟨rfl, hb2⟩; have HB2 := Aside0.mk (show Below wr.heap.size wr w2 from below_step (by repeat (first | (with_reducible exact Below.refl _ _) | (with_reducible refine below_alloc ?_ _) | (with_reducible refine below_drew1 ?_) | (with_reducible refine pw_below_drewN ?_ _) | fail)) hb2); have hn2 := blk_below (blk_new wr (.cells #[.bool true, .slice _ x.n.it.length cb] 77)) hb2; have n0 := (blk_cell hn2 0).trans (show _ = some (Value.bool true) from rfl); have n1 := (blk_cell hn2 1).trans (show _ = some (Value.slice _ x.n.it.length cb) from rfl); have z2 := bcell HB2.out z1; clear hn2 hb2) | fail)
      go_ret2
      exact ⟨rfl, below_step HBW.out HB2.out⟩
    · rw [hle] at hat x2 HAT
      obtain ⟨ad2, rfl, -, z1⟩ := at_it hB k hk
      have r1 : (k < x.n.it.length) = True := eq_true hk
      have HNX := Aside0.mk hnext
      clear h0 hin hi hx hlf hat hB HQ hk hle hnext
      go_wp2_with (first | (go_at_call 58; (with_reducible refine (HAT.out _ (by repeat (first | (with_reducible exact Below.refl _ _) | (with_reducible refine below_alloc ?_ _) | (with_reducible refine below_drew1 ?_) | (with_reducible refine pw_below_drewN ?_ _) | fail))).mono ?_); rintro e w2 ⟨rfl, hb2⟩; have HB2 := Aside0.mk (show Below wr.heap.size wr w2 from below_step (by repeat (first | (with_reducible exact Below.refl _ _) | (with_reducible refine below_alloc ?_ _) | (with_reducible refine below_drew1 ?_) | (with_reducible refine pw_below_drewN ?_ _) | fail)) hb2); have hn2 := blk_below (blk_new wr (.cells #[.bool false, .slice _ x.n.it.length cb] 77)) hb2; have n0 := (blk_cell hn2 0).trans (show _ = some (Value.bool false) from rfl); have n1 := (blk_cell hn2 1).trans (show _ = some (Value.slice _ x.n.it.length cb) from rfl); have z2 := bcell HB2.out z1; clear hn2 hb2) | fail)
      go_roundg g1
      case measure => omega
      case rel => exact ⟨(itAt x.n.it k).v, rfl, HNX, ⟨below_step HB.out HB2.out⟩⟩
end Go.Proofs.Ytopkoganfnabgaa.H
namespace Go.Proofs.Ytopkoganfnabgaa.H
open Go.RowKit Go.Proofs.YtopkoganfnabgaaW.PrintWords Go.Proofs.YtopkoganfnabgaaW.PrintLast Go.Proofs.YtopkoganfnabgaaW.PrintMore
attribute [local go_sem] max2_int min2_int max_two min_two max_three min_three max_four min_four
set_option linter.unusedVariables false
set_option linter.unusedSimpArgs false
theorem xnewO_inv {f : Nat} {h h' : Hp} {p key : Int} {made : List It} (e : xnewO (f + 1) h p key = some (h', made)) :
    inB h p = true ∧ ∃ (i : Nat) (is : Bool) (h1 : Hp) (more l1 : List It), atO (clAt h p).n.leaf (clAt h p).n.it key = some (i, is) ∧
      ((clAt h p).n.leaf = true → h1 = h ∧ more = []) ∧ ((clAt h p).n.leaf = false → i < (clAt h p).n.it.length ∧ xnewO f h (itAt (clAt h p).n.it i).v key = some (h1, more)) ∧
      withO (clAt h p).n.it i 1 more = some l1 ∧ (l1 = [] → h' = h1 ∧ made = []) ∧ (∀ x s, l1 = x :: s → ∃ q er, allocO h1 ⟨(clAt h p).n.leaf, x :: s⟩ (vL more) = some (h', q, er) ∧ made = [⟨x.k, q⟩]) := by
  unfold xnewO at e
  split at e
  · rename_i hin
    refine ⟨hin, ?_⟩
    cases ha : atO (clAt h p).n.leaf (clAt h p).n.it key with
    | none => rw [ha] at e; cases e
    | some t =>
      obtain ⟨i, is⟩ := t
      rw [ha] at e
      simp only [Option.bind_some] at e
      have key2 : ∃ h1 more, (if (clAt h p).n.leaf = true then some (h, []) else if i < (clAt h p).n.it.length then xnewO f h (itAt (clAt h p).n.it i).v key else none) = some (h1, more) := by
        generalize (if (clAt h p).n.leaf = true then some (h, []) else if i < (clAt h p).n.it.length then xnewO f h (itAt (clAt h p).n.it i).v key else none) = o at e
        cases o with
        | none => cases e
        | some r => exact ⟨r.1, r.2, rfl⟩
      obtain ⟨h1, more, hr⟩ := key2
      rw [hr] at e
      simp only [Option.bind_some] at e
      cases hw : withO (clAt h p).n.it i 1 more with
      | none => rw [hw] at e; cases e
      | some l1 =>
        rw [hw] at e
        simp only [Option.bind_some] at e
        refine ⟨i, is, h1, more, l1, rfl, fun hl => ?_, fun hl => ?_, hw, fun hz => ?_, fun x s hx => ?_⟩
        · rw [hl, if_pos rfl] at hr
          simp only [Option.some.injEq, Prod.mk.injEq] at hr
          exact ⟨hr.1.symm, hr.2.symm⟩
        · rw [hl, if_neg (by simp)] at hr
          split at hr
          · rename_i hi; exact ⟨hi, hr⟩
          · cases hr
        · rw [if_pos hz] at e
          simp only [Option.some.injEq, Prod.mk.injEq] at e
          exact ⟨e.1.symm, e.2.symm⟩
        · rw [if_neg (by rw [hx]; simp), hx] at e
          obtain ⟨g1, q, er, l2, h1', h2, h3⟩ := layO_inv e
          unfold layO at h2
          simp only [Option.some.injEq, Prod.mk.injEq] at h2
          obtain ⟨rfl, rfl⟩ := h2
          exact ⟨q, er, h1', h3⟩
  · cases e
theorem xnewO_len : ∀ {f : Nat} {h g : Hp} {p key : Int} {made : List It}, xnewO f h p key = some (g, made) → made.length ≤ 1 ∧ g.c.length = h.c.length
  | 0, _, _, _, _, _, e => by simp [xnewO] at e
  | f + 1, h, g, p, key, made, e => by
    obtain ⟨_, i, is, h1, more, l1, _, hT, hF, _, h4, h5⟩ := xnewO_inv e
    have hl : h1.c.length = h.c.length := by
      cases hlf : (clAt h p).n.leaf with
      | true => rw [(hT hlf).1]
      | false => exact (xnewO_len (hF hlf).2).2
    cases l1 with
    | nil => obtain ⟨rfl, rfl⟩ := h4 rfl; exact ⟨by simp, hl⟩
    | cons x s => obtain ⟨q, er, ha, rfl⟩ := h5 x s rfl; exact ⟨by simp, (allocO_len ha).1.trans hl⟩
/-- The blocks that Del's inner function holds. -/
structure Cap (W : World) (b kb nb : Nat) (A : Option Addr) (c : Nat) (h : Hp) (key : Int) : Prop where
  hb : W.heap[b]? = some (.cells #[.slice A h.c.length c, .int .i64 h.keep] 24 (0, 0))
  hk : W.heap[kb]? = some (.cells #[.int .i64 key] 3 (0, 0))
  hn : W.heap[nb]? = some (.cells #[.func (.func 57) #[] #[.pointer (some ⟨b, 0, none⟩), .pointer (some ⟨kb, 0, none⟩), .pointer (some ⟨nb, 0, none⟩)]] 101 (0, 0))
  n1 : kb ≠ b
  n2 : nb ≠ b
theorem Cap.keep {W W' : World} {b kb nb : Nat} {A A' : Option Addr} {c c' : Nat} {h h' : Hp} {key : Int} (s : Cap W b kb nb A c h key) (hk : KeepBut W W' b none) (hb : W'.heap[b]? = some (.cells #[.slice A' h'.c.length c', .int .i64 h'.keep] 24 (0, 0))) : Cap W' b kb nb A' c' h' key :=
  ⟨hb, (hk.2 _ (blk_lt s.hk) s.n1 (by simp)).trans s.hk, (hk.2 _ (blk_lt s.hn) s.n2 (by simp)).trans s.hn, s.n1, s.n2⟩
theorem Cap.below {W W' : World} {b kb nb : Nat} {A : Option Addr} {c : Nat} {h : Hp} {key : Int} (s : Cap W b kb nb A c h key) (hb : Below W.heap.size W W') : Cap W' b kb nb A c h key := ⟨blk_below s.hb hb, blk_below s.hk hb, blk_below s.hn hb, s.n1, s.n2⟩
set_option maxHeartbeats 8000000 in
set_option maxRecDepth 100000 in
/-- Del's inner function. -/
theorem delIn_walk : ∀ (f : Nat) (A : Option Addr) (c b kb nb : Nat) (h h' : Hp) (p key : Int) (made : List It) (w : World), Cap w b kb nb A c h key → kCl.C w A h.c.length h.c → h.c.length ≤ c → xnewO f h p key = some (h', made) →
    Calls Try.prog 57 #[.int .i64 p, .pointer (some ⟨b, 0, none⟩), .pointer (some ⟨kb, 0, none⟩), .pointer (some ⟨nb, 0, none⟩)] w fun e w' => (∃ M cm, e = .returned (.slice M made.length cm) ∧ made.length ≤ cm ∧ kIt.C w' M made.length made) ∧ (∃ A' c', w'.heap[b]? = some (.cells #[.slice A' h'.c.length c', .int .i64 h'.keep] 24 (0, 0)) ∧ h'.c.length ≤ c' ∧ kCl.C w' A' h'.c.length h'.c) ∧ KeepBut w w' b none ∧ S3 w w' := by
  intro f
  induction f with
  | zero => intro A c b kb nb h h' p key made w _ _ _ e; simp [xnewO] at e
  | succ f ih =>
    intro A c b kb nb h h' p key made w cap hr hcc e
    obtain ⟨hin, i, is, h1, more, l1, hat, hT, hF, hwith, hz, hx⟩ := xnewO_inv e
    obtain ⟨q, rfl, hq⟩ := inB_nat hin
    have hcl : clAt h (q : Int) = h.c.getD q zCl := by unfold clAt; rw [Int.toNat_natCast]
    rw [hcl] at hat hT hF hwith hx
    obtain ⟨ad, B, cb, rfl, _, _, x2, x3, hcb, hB⟩ := at_cl hr q hq
    obtain ⟨n, hn⟩ : ∃ n, n = (h.c.getD q zCl).n := ⟨_, rfl⟩
    rw [← hn] at hat hT hF hwith hx x2 x3 hcb hB
    obtain ⟨lf, hlf⟩ : ∃ lf, lf = n.leaf := ⟨_, rfl⟩
    rw [← hlf] at hat hT hF hx x2
    obtain ⟨W1, hW1⟩ : ∃ W1, W1 = w.alloc (.cells #[.bool lf, .slice B n.it.length cb] 77) := ⟨_, rfl⟩
    have HB0 := Aside0.mk (show Below w.heap.size w W1 by rw [hW1]; exact below_alloc (Below.refl _ _) _)
    have HN1 := Aside0.mk (show W1.heap[w.heap.size]? = some (.cells #[.bool lf, .slice B n.it.length cb] 77) by rw [hW1]; exact blk_new w _)
    have CP := Aside0.mk (cap.below HB0.out)
    have HROW := Aside0.mk (Kd.C_below hB HB0.out)
    have HBL := Aside0.mk (And.intro (blk_lt cap.hb) (And.intro (blk_lt cap.hk) (blk_lt cap.hn)))
    have HAT := Aside0.mk (fun (W : World) (hb : Below W1.heap.size W1 W) => nodeAt_walk lf B cb n.it key i is W (Kd.C_below HROW.out hb) hat)
    have HR := Aside0.mk (Kd.C_below hr HB0.out)
    have HCC := Aside0.mk (And.intro hcc hcb)
    have HT := Aside0.mk hT
    have HF := Aside0.mk hF
    have HWL := Aside0.mk (And.intro hwith (And.intro hz hx))
    have HIH := Aside0.mk ih
    have y0 := (blk_cell cap.hb 0).trans (show _ = some (Value.slice (some ad) h.c.length c) from rfl)
    have c1 := (blk_cell HN1.out 0).trans (show _ = some (Value.bool lf) from rfl)
    have c2 := (blk_cell HN1.out 1).trans (show _ = some (Value.slice B n.it.length cb) from rfl)
    have c3 := (blk_cell CP.out.hk 0).trans (show _ = some (Value.int .i64 key) from rfl)
    have r1 : (q < h.c.length) = True := eq_true hq
    have hW1' := Aside0.mk hW1
    clear hin hcl hB hn hlf hat hT hF hwith hz hx hW1 hr hcc e ih hcb hq cap
    go_enter Try.func57, Try.ntmps57
    go_upto_region 2 with (fail)
    rw [← hW1'.out]
    clear y0 x2 x3
    go_upto_region 3 with (first | (go_at_call 58; (with_reducible refine (HAT.out _ (by repeat (first | (with_reducible exact Below.refl _ _) | (with_reducible refine below_alloc ?_ _) | (with_reducible refine below_drew1 ?_) | (with_reducible refine pw_below_drewN ?_ _) | (with_reducible exact Below.refl _ _)))).mono ?_); rintro e w2 ⟨rfl, hb2⟩; have HB2 := Aside0.mk (show Below W1.heap.size W1 w2 from below_step (by repeat (first | (with_reducible exact Below.refl _ _) | (with_reducible refine below_alloc ?_ _) | (with_reducible refine below_drew1 ?_) | (with_reducible refine pw_below_drewN ?_ _) | (with_reducible exact Below.refl _ _))) hb2); clear hb2) | fail)
    have e1 := (blk_cell (blk_below HN1.out HB2.out) 0).trans (show _ = some (Value.bool lf) from rfl)
    have e2 := (blk_cell (blk_below HN1.out HB2.out) 1).trans (show _ = some (Value.slice B n.it.length cb) from rfl)
    have e3 := (blk_cell (blk_below CP.out.hn HB2.out) 0).trans (show _ = some (Value.func (.func 57) #[] #[.pointer (some ⟨b, 0, none⟩), .pointer (some ⟨kb, 0, none⟩), .pointer (some ⟨nb, 0, none⟩)]) from rfl)
    clear c1 c2 c3
    go_upto_if 29 with (fail)
    go_cut [9, 10] from 27 to 46 (fun v9 v10 wc => ∃ (h1 : Hp) (A1 : Option Addr) (c1 : Nat) (more : List It) (M : Option Addr) (cm : Nat) (D : Option Addr) (d : Nat) (l1 : List It), v9 = .slice M more.length cm ∧ v10 = .slice D (vL more).length d ∧ Aside0 (withO n.it i 1 more = some l1 ∧ (l1 = [] → h' = h1 ∧ made = []) ∧ (∀ x s, l1 = x :: s → ∃ q er, allocO h1 ⟨lf, x :: s⟩ (vL more) = some (h', q, er) ∧ made = [⟨x.k, q⟩])) ∧ Aside0 (Cap wc b kb nb A1 c1 h1 key) ∧ Aside0 (h1.c.length ≤ c1 ∧ kCl.C wc A1 h1.c.length h1.c) ∧ Aside0 (kIt.C wc M more.length more) ∧ Aside0 ((Kd.int .i64).C wc D (vL more).length (vL more)) ∧ Aside0 (KeepBut W1 wc b none ∧ S3 W1 wc))
    case first =>
      cases lf with
      | true =>
        obtain ⟨t1, t2⟩ := HT.out rfl
        rw [t1, t2] at HWL
        clear t1 t2
        go_wp2
        go_meet
        case rel => exact ⟨h, some ad, c, [], none, 0, none, 0, l1, rfl, rfl, HWL, ⟨CP.out.below HB2.out⟩, ⟨HCC.out.1, Kd.C_below HR.out HB2.out⟩, ⟨Kd.C_nil _ _⟩, ⟨Kd.C_nil _ _⟩, ⟨KeepBut.of_below HB2.out b none, S3.below HB2.out⟩⟩
      | false =>
        obtain ⟨t1, t2⟩ := HF.out rfl
        obtain ⟨ad2, rfl, _, z1⟩ := at_it (Kd.C_below HROW.out HB2.out) i t1
        have q1 : (i < n.it.length) = True := eq_true t1
        obtain ⟨v, hv⟩ : ∃ v, v = (itAt n.it i).v := ⟨_, rfl⟩
        rw [← hv] at t2 z1
        have hlm := (xnewO_len t2).1
        have HCALL := Aside0.mk (fun (W : World) (hb : Below w2.heap.size w2 W) => HIH.out (some ad) c b kb nb h h1 v key more W (CP.out.below (below_step HB2.out hb)) (Kd.C_below HR.out (below_step HB2.out hb)) HCC.out.1 t2)
        have HLM := Aside0.mk hlm
        clear t1 t2 hv hlm
        go_upto_region 6 with (fail)
        go_still_tail 7, (by kernel_rfl)
        go_upto_region 7 with (first | (go_at_call 57; (with_reducible refine (HCALL.out _ (by repeat (first | (with_reducible exact Below.refl _ _) | (with_reducible refine below_alloc ?_ _) | (with_reducible refine below_drew1 ?_) | (with_reducible refine pw_below_drewN ?_ _) | (with_reducible exact Below.refl _ _)))).mono ?_); rintro e w4 ⟨⟨M, cm, rfl, hcm, hM⟩, ⟨A1, c1', hb1, hc1', hr1⟩, hk, hs⟩; have HM := Aside0.mk (And.intro hcm hM); have HH1 := Aside0.mk (And.intro hb1 (And.intro hc1' hr1)); have HK4 := Aside0.mk (show KeepBut W1 w4 b none from keep_trans (KeepBut.of_below HB2.out b none) (keep_trans (KeepBut.of_below (by repeat (first | (with_reducible exact Below.refl _ _) | (with_reducible refine below_alloc ?_ _) | (with_reducible refine below_drew1 ?_) | (with_reducible refine pw_below_drewN ?_ _) | (with_reducible exact Below.refl _ _))) b none) hk)); have HS4 := Aside0.mk (show S3 W1 w4 from S3.trans (S3.below HB2.out) (S3.trans (S3.below (show Below w2.heap.size w2 _ by repeat (first | (with_reducible exact Below.refl _ _) | (with_reducible refine below_alloc ?_ _) | (with_reducible refine below_drew1 ?_) | (with_reducible refine pw_below_drewN ?_ _) | (with_reducible exact Below.refl _ _)))) hs)); clear hs hcm hM hb1 hc1' hr1 hk) | fail)
        rcases more with _ | ⟨y, r⟩
        · go_wp2
          go_meet
          case rel => exact ⟨h1, A1, c1', [], M, cm, none, 0, l1, rfl, rfl, HWL, ⟨CP.out.keep HK4.out HH1.out.1⟩, ⟨HH1.out.2⟩, ⟨HM.out.2⟩, ⟨Kd.C_nil _ _⟩, ⟨HK4.out, HS4.out⟩⟩
        · have hr0 : r = [] := List.length_eq_zero_iff.mp (by have := HLM.out; simp only [List.length_cons] at this; omega)
          subst hr0
          obtain ⟨ad4, rfl, _, v4⟩ := at_it0 HM.out.2 (by simp)
          rw [show itAt [y] 0 = y from rfl] at v4
          go_wp2
          go_meet
          case rel => exact ⟨h1, A1, c1', [y], some ad4, cm, some ⟨w4.heap.size, 0, none⟩, 1, l1, rfl, rfl, HWL, ⟨(CP.out.keep HK4.out HH1.out.1).below (below_alloc (Below.refl _ _) _)⟩, ⟨HH1.out.2.1, Kd.C_alloc HH1.out.2.2 _⟩, ⟨Kd.C_alloc HM.out.2 _⟩, ⟨one_int w4 y.v⟩, ⟨keep_trans HK4.out (KeepBut.of_below (below_alloc (Below.refl _ _) _) b none), S3.trans HS4.out (S3.below (below_alloc (Below.refl w4.heap.size _) _))⟩⟩
    case rest =>
      clear HWL HT HF HIH e1 e2 e3 HAT r1
      obtain ⟨h2, A1, c1, more2, M, cm, D, d, l2, rfl, rfl, HWL, CPc, HHc, HMc, HDc, HKc0⟩ := hcut
      have HKc := Aside0.mk HKc0.out.1
      have hrowB := it_keep HROW.out (Hb_of CP.out.hb) HKc.out
      have HNc := Aside0.mk (show wc.heap[w.heap.size]? = some (.cells #[.bool lf, .slice B n.it.length cb] 77) from (HKc.out.2 _ (blk_lt HN1.out) (by have := HBL.out.1; omega) (by simp)).trans HN1.out)
      have n0 := (blk_cell HNc.out 0).trans (show _ = some (Value.bool lf) from rfl)
      have n1 := (blk_cell HNc.out 1).trans (show _ = some (Value.slice B n.it.length cb) from rfl)
      have HWI := Aside0.mk (nodeWith_walk B M cb cm i 1 n.it more2 l2 wc hrowB HCC.out.2 HMc.out HWL.out.1)
      rw [show (((1 : Nat)) : Int) = 1 from rfl] at HWI
      clear hrowB
      go_upto_region 10 with (first | (go_at_call 59; (with_reducible refine HWI.out.mono ?_); rintro e w4 ⟨Bw, cbw, rfl, hcw, hrw, hb4⟩; have HB4 := Aside0.mk hb4; have HRW := Aside0.mk (And.intro hcw hrw); clear hcw hrw hb4) | fail)
      have CP4 := Aside0.mk (CPc.out.below HB4.out)
      have HH4 := Aside0.mk (Kd.C_below HHc.out.2 HB4.out)
      have HN4 := Aside0.mk (blk_below HNc.out HB4.out)
      have HD4 := Aside0.mk (Kd.C_below HDc.out HB4.out)
      have HK4 := Aside0.mk (show KeepBut w w4 b none ∧ S3 w w4 from ⟨keep_trans (KeepBut.of_below HB0.out b none) (keep_trans HKc.out (KeepBut.of_below HB4.out b none)), S3.trans (S3.below HB0.out) (S3.trans HKc0.out.2 (S3.below HB4.out))⟩)
      have hrest := HWL.out.2
      clear n0 n1 HWI HWL
      rcases l2 with _ | ⟨x, s⟩
      · obtain ⟨rfl, rfl⟩ := hrest.1 rfl
        clear hrest
        go_wp2
        go_ret
        exact ⟨⟨none, 0, rfl, Nat.le_refl _, Kd.C_nil _ _⟩, ⟨A1, c1, CP4.out.hb, HHc.out.1, HH4.out⟩, HK4.out.1, HK4.out.2⟩
      · obtain ⟨qq, er, hal, rfl⟩ := hrest.2 x s rfl
        clear hrest
        obtain ⟨ll, hll⟩ : ∃ ll, ll = x :: s := ⟨_, rfl⟩
        rw [← hll] at hal
        have HRW2 := Aside0.mk HRW.out
        rw [← hll] at HRW2
        obtain ⟨ad3, rfl, v0, _⟩ := at_it0 HRW2.out.2 (by rw [hll]; simp)
        rw [show itAt ll 0 = x by rw [hll]; rfl] at v0
        have HAL := Aside0.mk (show Calls Try.prog 50 #[.agg #[.slice A1 h2.c.length c1, .int .i64 h2.keep], .agg #[.bool lf, .slice (some ad3) ll.length cbw], .slice D (vL more2).length d] w4 (fun e w' => ∃ B' cb', e = .returned (.tuple #[.agg #[.slice B' h'.c.length cb', .int .i64 h'.keep], .int .i64 qq, .int .i64 er]) ∧ h'.c.length ≤ cb' ∧ Lv w4 w4 w' B' h'.c ∧ Below w4.heap.size w4 w') from heapAlloc_walk A1 (some ad3) D c1 cbw d h2 h' ⟨lf, ll⟩ (vL more2) qq er w4 w4 HH4.out (Below.refl _ _) HHc.out.1 HRW2.out.2 HRW2.out.1 HD4.out hal)
        have p1 : ((ll.length : Int) == 0) = false := beq_eq_false_iff_ne.mpr (by rw [hll]; simp; omega)
        have p2 : (ll.length == 0) = false := beq_eq_false_iff_ne.mpr (by rw [hll]; simp)
        have hl0 : 0 < ll.length := by rw [hll]; simp
        have p3 : (0 < ll.length) = True := eq_true hl0
        have HL0 := Aside0.mk (And.intro hl0 (show itAt ll 0 = x by rw [hll]; rfl))
        have n0 := (blk_cell HN4.out 0).trans (show _ = some (Value.bool lf) from rfl)
        have d0 := (blk_cell CP4.out.hb 0).trans (show _ = some (Value.slice A1 h2.c.length c1) from rfl)
        have d1 := (blk_cell CP4.out.hb 1).trans (show _ = some (Value.int .i64 h2.keep) from rfl)
        rw [← hll]
        have HV0 := Aside0.mk v0
        clear hll hal v0 hl0
        go_upto_region 13 with (first | (go_at_call 50; (with_reducible refine HAL.out.mono ?_); rintro e w6 ⟨A3, c3, rfl, hc3, hs3, hb6⟩; have HR6 := Aside0.mk (And.intro hc3 hs3.now); have HB6 := Aside0.mk hb6; clear hc3 hs3 hb6) | fail)
        obtain ⟨W7, hW7⟩ : ∃ W7, W7 = w6.alloc (.cells #[.slice A3 h'.c.length c3, .int .i64 h'.keep] 24) := ⟨_, rfl⟩
        have HB7 := Aside0.mk (show Below w4.heap.size w4 W7 by rw [hW7]; exact below_alloc HB6.out _)
        have HV7 := Aside0.mk (show W7.heap[w6.heap.size]? = some (.cells #[.slice A3 h'.c.length c3, .int .i64 h'.keep] 24) by rw [hW7]; exact blk_new w6 _)
        have HR7 := Aside0.mk (show kCl.C W7 A3 h'.c.length h'.c by rw [hW7]; exact Kd.C_alloc HR6.out.2 _)
        rw [← hW7]
        clear hW7 n0 d0 d1 p1 p2
        have hq7 := blk_below CP4.out.hb HB7.out
        have f0 := blk_frozen hq7 0
        have f1 := blk_frozen hq7 1
        have g0 := (blk_cell hq7 0).trans (show _ = some (Value.slice A1 h2.c.length c1) from rfl)
        have g1 := (blk_cell hq7 1).trans (show _ = some (Value.int .i64 h2.keep) from rfl)
        have d0 := (blk_cell HV7.out 0).trans (show _ = some (Value.slice A3 h'.c.length c3) from rfl)
        have d1 := (blk_cell HV7.out 1).trans (show _ = some (Value.int .i64 h'.keep) from rfl)
        obtain ⟨W8, hW8⟩ : ∃ W8, W8 = ((W7.setCell ⟨b, 0, none⟩ (.slice A3 h'.c.length c3)).setCell ⟨b, 1, none⟩ (.int .i64 h'.keep)) := ⟨_, rfl⟩
        have HQ7 := Aside0.mk hq7
        have hk8 : KeepBut W7 W8 b none := by rw [hW8]; exact ((KeepBut.refl W7 b none).set_ 0 _).set_ 1 _
        have HK8 := Aside0.mk (show KeepBut w W8 b none ∧ S3 w W8 from ⟨keep_trans HK4.out.1 (keep_trans (KeepBut.of_below HB7.out b none) hk8), S3.trans HK4.out.2 (S3.trans (S3.below HB7.out) (by rw [hW8]; exact S3.set (S3.set (S3.refl _) _ _) _ _))⟩)
        have HBB8 := Aside0.mk (show W8.heap[b]? = some (.cells #[.slice A3 h'.c.length c3, .int .i64 h'.keep] 24 (0, 0)) by rw [hW8]; exact hb_store hq7)
        have HR8 := Aside0.mk (show kCl.C W8 A3 h'.c.length h'.c by rw [hW8]; exact cl_store HR7.out hq7)
        have hrow8 := it_keep (Kd.C_below HRW2.out.2 HB7.out) (Hb_of hq7) hk8
        have hW8' := Aside0.mk hW8
        clear hW8 hk8 hq7
        obtain ⟨ad5, e5, v5, _⟩ := at_it0 hrow8 HL0.out.1
        cases e5
        rw [HL0.out.2] at v5
        clear hrow8
        go_upto_region 14 with (fail)
        rw [← hW8'.out]
        clear f0 f1 g0 g1 d0 d1
        go_wp2
        go_ret
        exact ⟨⟨_, 1, rfl, Nat.le_refl _, one_it W8 ⟨x.k, qq⟩⟩, ⟨A3, c3, blk_alloc HBB8.out _, HR6.out.1, Kd.C_alloc HR8.out _⟩, keep_trans HK8.out.1 (KeepBut.of_below (below_alloc (Below.refl _ _) _) b none), S3.trans HK8.out.2 (S3.below (below_alloc (Below.refl W8.heap.size _) _))⟩
end Go.Proofs.Ytopkoganfnabgaa.H
namespace Go.Proofs.Ytopkoganfnabgaa.H
open Go.RowKit Go.Proofs.YtopkoganfnabgaaW.PrintWords Go.Proofs.YtopkoganfnabgaaW.PrintLast Go.Proofs.YtopkoganfnabgaaW.PrintMore
attribute [local go_sem] max2_int min2_int max_two min_two max_three min_three max_four min_four
set_option linter.unusedVariables false
set_option linter.unusedSimpArgs false
theorem delO_inv {h h' : Hp} {root key p er : Int} (e : delO h root key = some (h', p, er)) :
    ∃ v e1, tgetO 21 h root key = some (v, e1) ∧ ((e1 ≠ 0 ∧ h' = h ∧ p = root ∧ er = e1) ∨ (e1 = 0 ∧ ∃ d : Nat, highO 21 h root = some d ∧
      ((fitsH h (d : Int) true = false ∧ h' = h ∧ p = root ∧ er = 3) ∨ (fitsH h (d : Int) true = true ∧ ∃ g made g2 e2, xnewO 20 h root key = some (g, made) ∧ downO g made = some (g2, p) ∧ looseH 25 g2 root = some (h', e2) ∧ er = 0)))) := by
  unfold delO at e
  cases ht : tgetO 21 h root key with
  | none => rw [ht] at e; cases e
  | some t =>
    obtain ⟨v, e1⟩ := t
    rw [ht] at e
    simp only [Option.bind_some] at e
    refine ⟨v, e1, rfl, ?_⟩
    by_cases h0 : e1 ≠ 0
    · rw [if_pos h0] at e
      simp only [Option.some.injEq, Prod.mk.injEq] at e
      exact .inl ⟨h0, e.1.symm, e.2.1.symm, e.2.2.symm⟩
    · rw [if_neg h0] at e
      refine .inr ⟨by simpa using h0, ?_⟩
      cases hd : highO 21 h root with
      | none => rw [hd] at e; cases e
      | some d =>
        rw [hd] at e
        simp only [Option.bind_some] at e
        refine ⟨d, rfl, ?_⟩
        by_cases hf : fitsH h (d : Int) true = false
        · rw [if_pos hf] at e
          simp only [Option.some.injEq, Prod.mk.injEq] at e
          exact .inl ⟨hf, e.1.symm, e.2.1.symm, e.2.2.symm⟩
        · rw [if_neg hf] at e
          refine .inr ⟨by simpa using hf, ?_⟩
          cases hx : xnewO 20 h root key with
          | none => rw [hx] at e; cases e
          | some r =>
            obtain ⟨g, made⟩ := r
            rw [hx] at e
            simp only [Option.bind_some] at e
            cases hw : downO g made with
            | none => rw [hw] at e; cases e
            | some q =>
              obtain ⟨g2, p2⟩ := q
              rw [hw] at e
              simp only [Option.bind_some] at e
              cases hlo : looseH 25 g2 root with
              | none => rw [hlo] at e; cases e
              | some z =>
                obtain ⟨g3, e2⟩ := z
                rw [hlo] at e
                simp only [Option.map_some, Option.some.injEq, Prod.mk.injEq] at e
                obtain ⟨rfl, rfl, rfl⟩ := e
                exact ⟨g, made, g2, e2, rfl, hw, hlo, rfl⟩
structure DeSt (w W : World) (A : Option Addr) (c : Nat) (h : Hp) (key : Int) : Prop where
  b0 : Below w.heap.size w W
  hh : W.heap[w.heap.size]? = some (.cells #[.slice A h.c.length c, .int .i64 h.keep] 24 (0, 0))
  hk : W.heap[w.heap.size + 1]? = some (.cells #[.int .i64 key] 3 (0, 0))
  hr : W.heap[w.heap.size + 1 + 1]? = some (.cells #[.slice none 0 0, .int .i64 0] 24 (0, 0))
  cl : kCl.C W A h.c.length h.c ∧ h.c.length ≤ c
theorem DeSt.step {w W W' : World} {A : Option Addr} {c : Nat} {h : Hp} {key : Int} (s : DeSt w W A c h key) (hb : Below W.heap.size W W') : DeSt w W' A c h key := ⟨below_step s.b0 hb, blk_below s.hh hb, blk_below s.hk hb, blk_below s.hr hb, Kd.C_below s.cl.1 hb, s.cl.2⟩
theorem DeSt.c0 {w W : World} {A : Option Addr} {c : Nat} {h : Hp} {key : Int} (s : DeSt w W A c h key) : W.cell? ⟨w.heap.size, 0, none⟩ = some (.slice A h.c.length c) := (blk_cell s.hh 0).trans rfl
theorem DeSt.c1 {w W : World} {A : Option Addr} {c : Nat} {h : Hp} {key : Int} (s : DeSt w W A c h key) : W.cell? ⟨w.heap.size, 1, none⟩ = some (.int .i64 h.keep) := (blk_cell s.hh 1).trans rfl
theorem DeSt.k0 {w W : World} {A : Option Addr} {c : Nat} {h : Hp} {key : Int} (s : DeSt w W A c h key) : W.cell? ⟨w.heap.size + 1, 0, none⟩ = some (.int .i64 key) := (blk_cell s.hk 0).trans rfl
theorem DeSt.r0 {w W : World} {A : Option Addr} {c : Nat} {h : Hp} {key : Int} (s : DeSt w W A c h key) : W.cell? ⟨w.heap.size + 1 + 1, 0, none⟩ = some (.slice none 0 0) := (blk_cell s.hr 0).trans rfl
theorem DeSt.r1 {w W : World} {A : Option Addr} {c : Nat} {h : Hp} {key : Int} (s : DeSt w W A c h key) : W.cell? ⟨w.heap.size + 1 + 1, 1, none⟩ = some (.int .i64 0) := (blk_cell s.hr 1).trans rfl
set_option maxHeartbeats 8000000 in
set_option maxRecDepth 100000 in
/-- prune.Del. -/
theorem pdel_walk (A : Option Addr) (c : Nat) (h h' : Hp) (root key p er : Int) (w : World) (hr : kCl.C w A h.c.length h.c) (hl : h.c.length ≤ 2000) (hcc : h.c.length ≤ c) (e : delO h root key = some (h', p, er)) :
    Calls Try.prog 28 #[.agg #[.slice A h.c.length c, .int .i64 h.keep], .int .i64 root, .int .i64 key] w fun e w' => ∃ B cb, e = .returned (.tuple #[.agg #[.slice B h'.c.length cb, .int .i64 h'.keep], .int .i64 p, .int .i64 er]) ∧ h'.c.length ≤ cb ∧ kCl.C w' B h'.c.length h'.c ∧ Below w.heap.size w w' := by
  obtain ⟨W1, hW1⟩ : ∃ W1, W1 = ((w.alloc (.cells #[.slice A h.c.length c, .int .i64 h.keep] 24)).alloc (.cells #[.int .i64 key] 3)).alloc (.cells #[.slice none 0 0, .int .i64 0] 24) := ⟨_, rfl⟩
  have S1 := Aside0.mk (show DeSt w W1 A c h key by
    rw [hW1]
    exact ⟨below_alloc (below_alloc (below_alloc (Below.refl _ _) _) _) _, blk_alloc (blk_alloc (blk_new w _) _) _, blk_alloc (blk2 w _ _) _, blk3 w _ _ _, Kd.C_alloc (Kd.C_alloc (Kd.C_alloc hr _) _) _, hcc⟩)
  have hW1' := Aside0.mk hW1
  obtain ⟨v, e1, htg, hcase⟩ := delO_inv e
  have HGE := Aside0.mk (fun (W : World) (hb : Below W1.heap.size W1 W) => tget_walk 21 A c h root key v e1 W (Kd.C_below S1.out.cl.1 hb) htg)
  have c0 := S1.out.c0
  have c1 := S1.out.c1
  have c2 := S1.out.k0
  clear hW1 hr hcc e htg
  rcases hcase with ⟨h0, rfl, rfl, rfl⟩ | ⟨rfl, d, hhi, hcase⟩
  · have q1 := bne_t h0
    clear h0
    (go_enter Try.func28, Try.ntmps28; go_upto_region 1 with (fail); rw [← hW1'.out]; go_upto_region 2 with (first | (go_at_call 56; (with_reducible refine (HGE.out _ (by repeat (first | (with_reducible exact Below.refl _ _) | (with_reducible refine below_alloc ?_ _) | (with_reducible refine below_drew1 ?_) | (with_reducible refine pw_below_drewN ?_ _) | (with_reducible exact Below.refl _ _)))).mono ?_); rintro e w2 ⟨rfl, hb2⟩; have S2 := Aside0.mk (S1.out.step (below_step (by repeat (first | (with_reducible exact Below.refl _ _) | (with_reducible refine below_alloc ?_ _) | (with_reducible refine below_drew1 ?_) | (with_reducible refine pw_below_drewN ?_ _) | (with_reducible exact Below.refl _ _))) hb2)); have d0 := S2.out.c0; have d1 := S2.out.c1; clear hb2) | fail); clear c0 c1 c2)
    (have f0 := blk_frozen S2.out.hr 0; have f1 := blk_frozen S2.out.hr 1; have z0 := S2.out.r0; have z1 := S2.out.r1)
    go_wp2
    (refine bodyPost_ret (results_ctt rfl _ _ (w.heap.size + 1 + 1) 24 #[.slice A h'.c.length c, .int .i64 h'.keep] (0, 0) _ rfl (hb_store S2.out.hr) Try.underlying24 rfl (by kernel_rfl)) rfl ?_; exact ⟨A, c, rfl, S2.out.cl.2, cl_store S2.out.cl.1 S2.out.hr, below_set (below_set S2.out.b0 (by omega)) (by omega)⟩)
  · have HHI := Aside0.mk (fun (W2 : World) (s : DeSt w W2 A c h key) (W : World) (hb : Below W2.heap.size W2 W) => high_walk 21 A c h root d W (by decide) (Kd.C_below s.cl.1 hb) hhi)
    obtain ⟨fv, hfv⟩ : ∃ fv, fv = fitsH h (d : Int) true := ⟨_, rfl⟩
    have HFT := Aside0.mk (fun (W2 : World) (s : DeSt w W2 A c h key) (W : World) (hb : Below W2.heap.size W2 W) => fits_walk A c h (d : Int) true W (Kd.C_below s.cl.1 hb))
    rw [← hfv] at HFT hcase
    have HCA := Aside0.mk hcase
    have HLL := Aside0.mk hl
    clear hhi hfv hcase hl
    (go_enter Try.func28, Try.ntmps28; go_upto_region 1 with (fail); rw [← hW1'.out]; go_upto_region 2 with (first | (go_at_call 56; (with_reducible refine (HGE.out _ (by repeat (first | (with_reducible exact Below.refl _ _) | (with_reducible refine below_alloc ?_ _) | (with_reducible refine below_drew1 ?_) | (with_reducible refine pw_below_drewN ?_ _) | (with_reducible exact Below.refl _ _)))).mono ?_); rintro e w2 ⟨rfl, hb2⟩; have S2 := Aside0.mk (S1.out.step (below_step (by repeat (first | (with_reducible exact Below.refl _ _) | (with_reducible refine below_alloc ?_ _) | (with_reducible refine below_drew1 ?_) | (with_reducible refine pw_below_drewN ?_ _) | (with_reducible exact Below.refl _ _))) hb2)); have d0 := S2.out.c0; have d1 := S2.out.c1; clear hb2) | fail); clear c0 c1 c2)
    go_upto_region 4 with (fail)
    go_cut [32] from 27 to 32 (fun v32 wc => v32 = .bool (!fv) ∧ Aside0 (Below w2.heap.size w2 wc))
    case first =>
      go_region_held3 (fun w' => w'.cell? ⟨w.heap.size, 0, none⟩ = some (.slice A h.c.length c) ∧ w'.cell? ⟨w.heap.size, 1, none⟩ = some (.int .i64 h.keep)) (first | exact ⟨d0, d1⟩ | exact (fun (H : Below w2.heap.size w2 _) => ⟨(S2.out.step H).c0, (S2.out.step H).c1⟩) (by repeat (first | (with_reducible exact Below.refl _ _) | (with_reducible refine below_alloc ?_ _) | (with_reducible refine below_drew1 ?_) | (with_reducible refine pw_below_drewN ?_ _) | (with_reducible exact HB4.out) | (with_reducible exact HB3.out)))) (first | (go_at_call 38; (with_reducible refine (HHI.out _ S2.out _ (by repeat (first | (with_reducible exact Below.refl _ _) | (with_reducible refine below_alloc ?_ _) | (with_reducible refine below_drew1 ?_) | (with_reducible refine pw_below_drewN ?_ _) | (with_reducible exact Below.refl _ _)))).mono ?_); rintro e w3 ⟨rfl, hb3⟩; have HB3 := Aside0.mk (below_step (show Below w2.heap.size w2 _ from (by repeat (first | (with_reducible exact Below.refl _ _) | (with_reducible refine below_alloc ?_ _) | (with_reducible refine below_drew1 ?_) | (with_reducible refine pw_below_drewN ?_ _) | (with_reducible exact Below.refl _ _)))) hb3); clear hb3) | (go_at_call 40; (with_reducible refine (HFT.out _ S2.out _ (by repeat (first | (with_reducible exact Below.refl _ _) | (with_reducible refine below_alloc ?_ _) | (with_reducible refine below_drew1 ?_) | (with_reducible refine pw_below_drewN ?_ _) | (with_reducible exact HB3.out)))).mono ?_); rintro e w4 ⟨rfl, hb4⟩; have HB4 := Aside0.mk (below_step (show Below w2.heap.size w2 _ from (by repeat (first | (with_reducible exact Below.refl _ _) | (with_reducible refine below_alloc ?_ _) | (with_reducible refine below_drew1 ?_) | (with_reducible refine pw_below_drewN ?_ _) | (with_reducible exact HB3.out)))) hb4); clear hb4) | fail)
      all_goals (go_wp2; go_meet; case rel => exact ⟨rfl, HB4⟩)
    case rest =>
      obtain ⟨rfl, HBc⟩ := hcut
      obtain ⟨wq, rfl⟩ : ∃ wq, wq = wc := ⟨_, rfl⟩
      have S4 := Aside0.mk (S2.out.step HBc.out)
      clear d0 d1
      have d0 := S4.out.c0
      have d1 := S4.out.c1
      rcases HCA.out with ⟨rfl, rfl, rfl, rfl⟩ | ⟨rfl, g, made, g2, e2, hx, hdn, hlo, rfl⟩
      · (have f0 := blk_frozen S4.out.hr 0; have f1 := blk_frozen S4.out.hr 1; have z0 := S4.out.r0; have z1 := S4.out.r1)
        go_wp2
        (refine bodyPost_ret (results_ctt rfl _ _ (w.heap.size + 1 + 1) 24 #[.slice A h'.c.length c, .int .i64 h'.keep] (0, 0) _ rfl (hb_store S4.out.hr) Try.underlying24 rfl (by kernel_rfl)) rfl ?_; exact ⟨A, c, rfl, S4.out.cl.2, cl_store S4.out.cl.1 S4.out.hr, below_set (below_set S4.out.b0 (by omega)) (by omega)⟩)
      · go_upto_region 8 with (fail)
        obtain ⟨W5, hW5⟩ : ∃ W5, W5 = (wq.alloc (.cells #[.slice A h.c.length c, .int .i64 h.keep] 24)).alloc (.cells #[.nilFunc] 101) := ⟨_, rfl⟩
        have hb5 : Below wq.heap.size wq W5 := by rw [hW5]; exact below_alloc (below_alloc (Below.refl _ _) _) _
        have S5 := Aside0.mk (S4.out.step hb5)
        have HO5 := Aside0.mk (show W5.heap[wq.heap.size]? = some (.cells #[.slice A h.c.length c, .int .i64 h.keep] 24 (0, 0)) by rw [hW5]; exact blk_alloc (blk_new wq _) _)
        have HN5 := Aside0.mk (show W5.heap[wq.heap.size + 1]? = some (.cells #[.nilFunc] 101 (0, 0)) by rw [hW5]; exact blk2 wq _ _)
        rw [← hW5]
        have HB5 := Aside0.mk hb5
        clear hW5 hb5 d0 d1
        have n0 := (blk_cell HN5.out 0).trans (show _ = some Value.nilFunc from rfl)
        have nf := blk_frozen HN5.out 0
        go_upto_region 10 with (fail)
        obtain ⟨W6, hW6⟩ : ∃ W6, W6 = W5.setCell ⟨wq.heap.size + 1, 0, none⟩ (.func (.func 57) #[] #[.pointer (some ⟨wq.heap.size, 0, none⟩), .pointer (some ⟨w.heap.size + 1, 0, none⟩), .pointer (some ⟨wq.heap.size + 1, 0, none⟩)]) := ⟨_, rfl⟩
        have HB6 := Aside0.mk (show Below wq.heap.size wq W6 by rw [hW6]; exact below_set HB5.out (by show wq.heap.size ≤ wq.heap.size + 1; omega))
        have S6 := Aside0.mk (S4.out.step HB6.out)
        have CP := Aside0.mk (show Cap W6 wq.heap.size (w.heap.size + 1) (wq.heap.size + 1) A c h key from ⟨by rw [hW6]; exact blk_far HO5.out (by show wq.heap.size ≠ wq.heap.size + 1; omega) _, S6.out.hk, by rw [hW6]; exact blk_put HN5.out 0 _ rfl, by have := blk_lt S4.out.hk; omega, by omega⟩)
        have HD := Aside0.mk (delIn_walk 20 A c wq.heap.size (w.heap.size + 1) (wq.heap.size + 1) h g root key made W6 CP.out S6.out.cl.1 S6.out.cl.2 hx)
        have hgl := (xnewO_len hx)
        have HGL := Aside0.mk (show g.c.length ≤ 2000 by rw [hgl.2]; exact HLL.out)
        have HDN := Aside0.mk (And.intro hdn hlo)
        have HM1 := Aside0.mk hgl.1
        have HWC := Aside0.mk (show w.heap.size + 1 + 1 < wq.heap.size from blk_lt S4.out.hr)
        have hbw := S6.out.b0
        have n0 := (blk_cell CP.out.hn 0).trans (show _ = some (Value.func (.func 57) #[] #[.pointer (some ⟨wq.heap.size, 0, none⟩), .pointer (some ⟨w.heap.size + 1, 0, none⟩), .pointer (some ⟨wq.heap.size + 1, 0, none⟩)]) from rfl)
        have HBW6 := Aside0.mk hbw
        rw [← hW6]
        clear hW6 hx hdn hlo hgl hbw nf
        go_upto_region 11 with (first | (go_at_call 57; (with_reducible refine HD.out.mono ?_); rintro e w7 ⟨⟨M, cm, rfl, hcm, hM⟩, ⟨A7, c7, hb7, hc7, hr7⟩, hk7, hs7⟩; have HM := Aside0.mk (And.intro hcm hM); have HO7 := Aside0.mk hb7; have HR7 := Aside0.mk (And.intro hc7 hr7); have HB7 := Aside0.mk (keep_below HBW6.out hk7 hs7 (by have := HWC.out; omega)); have HZ7 := Aside0.mk ((hk7.2 _ (blk_lt S6.out.hr) (by have := HWC.out; omega) (by simp)).trans S6.out.hr); clear hcm hM hb7 hc7 hr7 hk7 hs7) | fail)
        rcases made with _ | ⟨y, r⟩
        · obtain ⟨rfl, rfl⟩ : g2 = g ∧ p = -1 := by
            have := HDN.out.1
            simp only [downO, Option.some.injEq, Prod.mk.injEq] at this
            exact ⟨this.1.symm, this.2.symm⟩
          have HLO := Aside0.mk (fun (B : Option Addr) (cb : Nat) (W : World) (h1' : kCl.C W B g2.c.length g2.c) (h2' : g2.c.length ≤ cb) => heapLoose_walk 25 B cb g2 h' root e2 W h1' HGL.out h2' HDN.out.2)
          have HOX := HO7
          have HRX := HR7
          have HBX := HB7
          have HZX := HZ7
          (have d0 := (blk_cell HOX.out 0).trans (show _ = some (Value.slice A7 g2.c.length c7) from rfl); have d1 := (blk_cell HOX.out 1).trans (show _ = some (Value.int .i64 g2.keep) from rfl); go_upto_region 14 with (first | (go_at_call 60; (with_reducible refine (HLO.out _ _ _ HRX.out.2 HRX.out.1).mono ?_); rintro e w9 ⟨B9, c9, rfl, hc9, hr9, hb9⟩; have HR9 := Aside0.mk (And.intro hc9 hr9); have HB9 := Aside0.mk hb9; have HO9 := Aside0.mk (blk_below HOX.out hb9); have HZ9 := Aside0.mk (blk_below HZX.out hb9); have e0 := (blk_cell HO9.out 0).trans (show _ = some (Value.slice A7 g2.c.length c7) from rfl); have e1 := (blk_cell HO9.out 1).trans (show _ = some (Value.int .i64 g2.keep) from rfl); have g0 := blk_frozen HO9.out 0; have g3 := blk_frozen HO9.out 1; clear hc9 hr9 hb9) | fail); obtain ⟨WA, hWA⟩ : ∃ WA, WA = ((w9.setCell ⟨wq.heap.size, 0, none⟩ (.slice B9 h'.c.length c9)).setCell ⟨wq.heap.size, 1, none⟩ (.int .i64 h'.keep)) := ⟨_, rfl⟩; have HOA := Aside0.mk (show WA.heap[wq.heap.size]? = some (.cells #[.slice B9 h'.c.length c9, .int .i64 h'.keep] 24 (0, 0)) by rw [hWA]; exact hb_store HO9.out); have HRA := Aside0.mk (show kCl.C WA B9 h'.c.length h'.c by rw [hWA]; exact cl_store HR9.out.2 HO9.out); have HZA := Aside0.mk (show WA.heap[w.heap.size + 1 + 1]? = some (.cells #[.slice none 0 0, .int .i64 0] 24 (0, 0)) by rw [hWA]; exact blk_far (blk_far HZ9.out (by have := HWC.out; show w.heap.size + 1 + 1 ≠ wq.heap.size; omega) _) (by have := HWC.out; show w.heap.size + 1 + 1 ≠ wq.heap.size; omega) _); have HBA := Aside0.mk (show Below w.heap.size w WA by rw [hWA]; exact below_set (below_set (below_step HBX.out HB9.out) (by have := HWC.out; show w.heap.size ≤ wq.heap.size; omega)) (by have := HWC.out; show w.heap.size ≤ wq.heap.size; omega)); rw [← hWA]; clear hWA d0 d1 e0 e1 g0 g3; have e0 := (blk_cell HOA.out 0).trans (show _ = some (Value.slice B9 h'.c.length c9) from rfl); have e1 := (blk_cell HOA.out 1).trans (show _ = some (Value.int .i64 h'.keep) from rfl); have f0 := blk_frozen HZA.out 0; have f1 := blk_frozen HZA.out 1; have z0 := (blk_cell HZA.out 0).trans (show _ = some (Value.slice none 0 0) from rfl); have z1 := (blk_cell HZA.out 1).trans (show _ = some (Value.int .i64 0) from rfl); go_wp2; refine bodyPost_ret (results_ctt rfl _ _ (w.heap.size + 1 + 1) 24 #[.slice B9 h'.c.length c9, .int .i64 h'.keep] (0, 0) _ rfl (hb_store HZA.out) Try.underlying24 rfl (by kernel_rfl)) rfl ?_; exact ⟨B9, c9, rfl, HR9.out.1, cl_store HRA.out HZA.out, below_set (below_set HBA.out (by omega)) (by omega)⟩)
        · have hr0 : r = [] := List.length_eq_zero_iff.mp (by have := HM1.out; simp only [List.length_cons] at this; omega)
          subst hr0
          have hlow : lowO 21 g y.v = some (g2, p) := HDN.out.1
          have hl2 : g2.c.length ≤ 2000 := by rw [lowO_len 21 g g2 y.v p hlow]; exact HGL.out
          have HLO := Aside0.mk (fun (B : Option Addr) (cb : Nat) (W : World) (h1' : kCl.C W B g2.c.length g2.c) (h2' : g2.c.length ≤ cb) => heapLoose_walk 25 B cb g2 h' root e2 W h1' hl2 h2' HDN.out.2)
          have HLW := Aside0.mk (fun (W : World) (hb : Below w7.heap.size w7 W) => low_walk A7 c7 g g2 y.v p 21 W (Kd.C_below HR7.out.2 hb) HGL.out HR7.out.1 hlow)
          obtain ⟨ad, rfl, _, v0⟩ := at_it0 HM.out.2 (by simp)
          rw [show itAt [y] 0 = y from rfl] at v0
          have d0 := (blk_cell HO7.out 0).trans (show _ = some (Value.slice A7 g.c.length c7) from rfl)
          have d1 := (blk_cell HO7.out 1).trans (show _ = some (Value.int .i64 g.keep) from rfl)
          clear hlow hl2
          go_upto_region 12 with (fail)
          go_cut [13] from 43 to 52 (fun v13 wd => ∃ (B8 : Option Addr) (c8 : Nat), v13 = .int .i64 p ∧ Aside0 (wd.heap[wq.heap.size]? = some (.cells #[.slice B8 g2.c.length c8, .int .i64 g2.keep] 24 (0, 0))) ∧ Aside0 (g2.c.length ≤ c8 ∧ kCl.C wd B8 g2.c.length g2.c) ∧ Aside0 (wd.heap[w.heap.size + 1 + 1]? = some (.cells #[.slice none 0 0, .int .i64 0] 24 (0, 0))) ∧ Aside0 (Below w.heap.size w wd))
          case first =>
            go_region_with (first | (go_at_call 30; (with_reducible refine (HLW.out _ (by repeat (first | (with_reducible exact Below.refl _ _) | (with_reducible refine below_alloc ?_ _) | (with_reducible refine below_drew1 ?_) | (with_reducible refine pw_below_drewN ?_ _) | (with_reducible exact Below.refl _ _)))).mono ?_); rintro e w8 ⟨B8, c8, rfl, hc8, hr8, hb8⟩; have HR8 := Aside0.mk (And.intro hc8 hr8); have HB8 := Aside0.mk (below_step (show Below w7.heap.size w7 _ from (by repeat (first | (with_reducible exact Below.refl _ _) | (with_reducible refine below_alloc ?_ _) | (with_reducible refine below_drew1 ?_) | (with_reducible refine pw_below_drewN ?_ _) | (with_reducible exact Below.refl _ _)))) hb8); have HO8 := Aside0.mk (blk_below HO7.out HB8.out); have HZ8 := Aside0.mk (blk_below HZ7.out HB8.out); have e0 := (blk_cell HO8.out 0).trans (show _ = some (Value.slice A7 g.c.length c7) from rfl); have e1 := (blk_cell HO8.out 1).trans (show _ = some (Value.int .i64 g.keep) from rfl); have g0 := blk_frozen HO8.out 0; have g3 := blk_frozen HO8.out 1; clear hc8 hr8 hb8) | fail)
            all_goals
              go_wp2
              go_meet
              case rel => exact ⟨B8, c8, rfl, ⟨hb_store HO8.out⟩, ⟨HR8.out.1, cl_store HR8.out.2 HO8.out⟩, ⟨blk_far (blk_far HZ8.out (by have := HWC.out; show w.heap.size + 1 + 1 ≠ wq.heap.size; omega) _) (by have := HWC.out; show w.heap.size + 1 + 1 ≠ wq.heap.size; omega) _⟩, ⟨below_set (below_set (below_step HB7.out HB8.out) (by have := HWC.out; show w.heap.size ≤ wq.heap.size; omega)) (by have := HWC.out; show w.heap.size ≤ wq.heap.size; omega)⟩⟩
          case rest =>
            obtain ⟨WX, rfl⟩ : ∃ WX, WX = wc := ⟨_, rfl⟩
            obtain ⟨B8, c8, rfl, HOX, HRX, HZX, HBX⟩ := hcut
            clear d0 d1 v0
            (have d0 := (blk_cell HOX.out 0).trans (show _ = some (Value.slice B8 g2.c.length c8) from rfl); have d1 := (blk_cell HOX.out 1).trans (show _ = some (Value.int .i64 g2.keep) from rfl); go_upto_region 14 with (first | (go_at_call 60; (with_reducible refine (HLO.out _ _ _ HRX.out.2 HRX.out.1).mono ?_); rintro e w9 ⟨B9, c9, rfl, hc9, hr9, hb9⟩; have HR9 := Aside0.mk (And.intro hc9 hr9); have HB9 := Aside0.mk hb9; have HO9 := Aside0.mk (blk_below HOX.out hb9); have HZ9 := Aside0.mk (blk_below HZX.out hb9); have e0 := (blk_cell HO9.out 0).trans (show _ = some (Value.slice B8 g2.c.length c8) from rfl); have e1 := (blk_cell HO9.out 1).trans (show _ = some (Value.int .i64 g2.keep) from rfl); have g0 := blk_frozen HO9.out 0; have g3 := blk_frozen HO9.out 1; clear hc9 hr9 hb9) | fail); obtain ⟨WA, hWA⟩ : ∃ WA, WA = ((w9.setCell ⟨wq.heap.size, 0, none⟩ (.slice B9 h'.c.length c9)).setCell ⟨wq.heap.size, 1, none⟩ (.int .i64 h'.keep)) := ⟨_, rfl⟩; have HOA := Aside0.mk (show WA.heap[wq.heap.size]? = some (.cells #[.slice B9 h'.c.length c9, .int .i64 h'.keep] 24 (0, 0)) by rw [hWA]; exact hb_store HO9.out); have HRA := Aside0.mk (show kCl.C WA B9 h'.c.length h'.c by rw [hWA]; exact cl_store HR9.out.2 HO9.out); have HZA := Aside0.mk (show WA.heap[w.heap.size + 1 + 1]? = some (.cells #[.slice none 0 0, .int .i64 0] 24 (0, 0)) by rw [hWA]; exact blk_far (blk_far HZ9.out (by have := HWC.out; show w.heap.size + 1 + 1 ≠ wq.heap.size; omega) _) (by have := HWC.out; show w.heap.size + 1 + 1 ≠ wq.heap.size; omega) _); have HBA := Aside0.mk (show Below w.heap.size w WA by rw [hWA]; exact below_set (below_set (below_step HBX.out HB9.out) (by have := HWC.out; show w.heap.size ≤ wq.heap.size; omega)) (by have := HWC.out; show w.heap.size ≤ wq.heap.size; omega)); rw [← hWA]; clear hWA d0 d1 e0 e1 g0 g3; have e0 := (blk_cell HOA.out 0).trans (show _ = some (Value.slice B9 h'.c.length c9) from rfl); have e1 := (blk_cell HOA.out 1).trans (show _ = some (Value.int .i64 h'.keep) from rfl); have f0 := blk_frozen HZA.out 0; have f1 := blk_frozen HZA.out 1; have z0 := (blk_cell HZA.out 0).trans (show _ = some (Value.slice none 0 0) from rfl); have z1 := (blk_cell HZA.out 1).trans (show _ = some (Value.int .i64 0) from rfl); go_wp2; refine bodyPost_ret (results_ctt rfl _ _ (w.heap.size + 1 + 1) 24 #[.slice B9 h'.c.length c9, .int .i64 h'.keep] (0, 0) _ rfl (hb_store HZA.out) Try.underlying24 rfl (by kernel_rfl)) rfl ?_; exact ⟨B9, c9, rfl, HR9.out.1, cl_store HRA.out HZA.out, below_set (below_set HBA.out (by omega)) (by omega)⟩)
end Go.Proofs.Ytopkoganfnabgaa.H
namespace Go.Proofs.Ytopkoganfnabgaa.H
theorem fill_spec : ∀ (L : List It) {h : Hp} {root : Int} {d : Nat} {l : List It}, FP h root d l → ∃ g p e d' l', fillO 25 h root L = some (g, p, e) ∧ g.c.length = h.c.length ∧ FP g p d' l' ∧ (e = 0 ∨ e = 1 ∨ e = 3) ∧ (e = 0 → l' = L.foldl ins l ∧ (L ≠ [] → 0 ≤ p) ∧ (L = [] → p = root))
  | [], h, root, d, l, f => ⟨h, root, 0, d, l, rfl, rfl, f, .inl rfl, fun _ => ⟨rfl, fun h => absurd rfl h, fun _ => rfl⟩⟩
  | x :: L, h, root, d, l, f => by
    obtain ⟨g, p, e, h1, h2⟩ := f.put x.k x.v false
    unfold fillO
    rw [h1]
    simp only [Option.bind_eq_bind, Option.bind_some]
    rcases h2 with ⟨rfl, _, _, _⟩ | ⟨rfl, _, _, _⟩ | ⟨rfl, _, _, hp, hl, _, _, _, d', _, f'⟩
    · exact ⟨h, root, 1, d, l, rfl, rfl, f, .inr (.inl rfl), fun h => by cases h⟩
    · exact ⟨h, root, 3, d, l, rfl, rfl, f, .inr (.inr rfl), fun h => by cases h⟩
    · obtain ⟨g2, p2, e2, d2, l2, a1, a2, a3, a4, a5⟩ := fill_spec L f'
      rw [if_pos rfl]
      refine ⟨g2, p2, e2, d2, l2, a1, a2.trans hl, a3, a4, fun h0 => ?_⟩
      obtain ⟨b1, b2, b3⟩ := a5 h0
      refine ⟨by rw [b1]; rfl, fun _ => ?_, fun h => by cases h⟩
      by_cases hL : L = []
      · rw [b3 hL]; exact hp
      · exact b2 hL
theorem new_fp (n : Nat) (h1 : 1 ≤ n) (h2 : n ≤ 2000) : FP ⟨List.replicate n zCl, 0⟩ (-1) 0 [] := by
  have hl : (List.replicate n zCl).length = n := List.length_replicate
  have hc : ∀ q, clAt ⟨List.replicate n zCl, 0⟩ q = zCl := by
    intro q
    unfold clAt
    rw [List.getD_eq_getElem?_getD, List.getElem?_replicate]
    split <;> rfl
  have hu : ∀ q, usedB ⟨List.replicate n zCl, 0⟩ q = false := fun q => by
    rw [← Bool.not_eq_true, used_iff, hc]; exact fun h => absurd h.2 (by decide)
  have o : Ok ⟨List.replicate n zCl, 0⟩ 8001 := by
    refine ⟨by rw [hl]; exact h1, by rw [hl]; exact h2, Int.le_refl _, by rw [hl]; exact Int.natCast_nonneg _, fun q _ => ?_, fun q _ => ?_, fun q _ _ => ?_, fun q h => ?_, fun q h => ?_, fun q h => ?_⟩
    · rw [hc]; decide
    · rw [hc]; decide
    · rw [hc]; rfl
    · rw [hu] at h; cases h
    · rw [hu] at h; cases h
    · rw [hu] at h; cases h
  refine ⟨o, fun q hq => ?_, fun q h => ?_, .inl ⟨rfl, rfl, rfl⟩⟩
  · have h3 : tot ⟨List.replicate n zCl, 0⟩ q = 0 := by
      rw [tot_tl o]
      exact sumN_zero fun i _ => by rw [hc]; rfl
    have h4 : one (-1) q = 0 := by unfold one; rw [if_neg (by have := (inB_iff.mp hq).1; omega)]
    rw [hc, h3, h4]; rfl
  · rw [hu] at h; cases h
end Go.Proofs.Ytopkoganfnabgaa.H
namespace Go.Proofs.Ytopkoganfnabgaa.H
theorem FP.del {h : Hp} {root : Int} {d : Nat} {l : List It} (f : FP h root d l) (key : Int) :
    ∃ g p e, delO h root key = some (g, p, e) ∧
      ((e = 4 ∧ g = h ∧ p = root ∧ (∀ y ∈ l, y.k ≠ key)) ∨
       (e = 3 ∧ g = h ∧ p = root ∧ (∃ y ∈ l, y.k = key) ∧ ¬ d ≤ freeN h) ∨
       (e = 0 ∧ (∃ y ∈ l, y.k = key) ∧ d ≤ freeN h ∧ g.c.length = h.c.length ∧ freeN h ≤ freeN g + d ∧ ∃ d', d' ≤ d ∧ FP g p d' (H.del l key))) := by
  obtain ⟨g, p, e, h1, h2⟩ := del_spec key f.ok (by decide) (by decide) f.tr
  refine ⟨g, p, e, h1, ?_⟩
  rcases h2 with h2 | h2 | ⟨a, b, c, k⟩
  · exact .inl h2
  · exact .inr (.inl h2)
  · obtain ⟨x, y, d', z1, z2⟩ := k.fine f.ct f.ht
    exact .inr (.inr ⟨a, b, c, k.len, k.lo, d', z1, ⟨k.ok.cut fun q hq => ct_small k.ok x hq, x, y, z2⟩⟩)
def delL (l : List It) (r : List It) : List It := r.foldl (fun w x => del w x.k) l
theorem cut_spec (lo hi : Int) : ∀ (m : Nat) {h : Hp} {root : Int} {d : Nat} {l : List It}, FP h root d l → ∃ g p n e d', cutO lo hi m h root = some (g, p, n, e) ∧ g.c.length = h.c.length ∧ (e = 0 ∨ e = 3) ∧ n ≤ m ∧ n ≤ (scanL lo hi l).length ∧ (e = 0 → n = min m (scanL lo hi l).length) ∧ FP g p d' (delL l ((scanL lo hi l).take n))
  | 0, h, root, d, l, f => ⟨h, root, 0, 0, d, rfl, rfl, .inl rfl, Nat.le_refl _, Nat.zero_le _, fun _ => (Nat.zero_min _).symm, f⟩
  | m + 1, h, root, d, l, f => by
    unfold cutO
    rw [f.tr.list]
    simp only [Option.bind_some]
    cases hs : scanL lo hi l with
    | nil => exact ⟨h, root, 0, 0, d, rfl, rfl, .inl rfl, Nat.zero_le _, Nat.le_refl _, fun _ => by simp, f⟩
    | cons x r =>
      simp only
      have hx : ∃ y ∈ l, y.k = x.k := ⟨x, scanL_sub x (by rw [hs]; exact List.mem_cons_self), rfl⟩
      obtain ⟨g, p, e, h1, h2⟩ := f.del x.k
      rw [h1]
      simp only [Option.bind_some]
      rcases h2 with ⟨_, _, _, h2⟩ | ⟨rfl, _, _, _, _⟩ | ⟨rfl, _, _, hl, _, d', _, f'⟩
      · obtain ⟨y, hy, ey⟩ := hx; exact absurd ey (h2 y hy)
      · rw [if_pos (by decide)]
        exact ⟨h, root, 0, 3, d, rfl, rfl, .inr rfl, Nat.zero_le _, Nat.zero_le _, fun h => (by cases h), f⟩
      · rw [if_neg (by simp)]
        obtain ⟨g2, p2, n, e2, d2, b1, b2, b3, b4, b5, b6, b7⟩ := cut_spec lo hi m f'
        rw [b1]
        have hsc := scanL_cons f.tr.up hs
        rw [hsc] at b5 b6 b7
        refine ⟨g2, p2, n + 1, e2, d2, rfl, b2.trans hl, b3, by omega, by simp only [List.length_cons]; omega, fun h0 => ?_, ?_⟩
        · have := b6 h0; simp only [List.length_cons]; omega
        · rw [List.take_succ_cons]; exact b7
end Go.Proofs.Ytopkoganfnabgaa.H
namespace Go.Proofs.Ytopkoganfnabgaa.H
open Go.RowKit Go.Proofs.YtopkoganfnabgaaW.PrintWords Go.Proofs.YtopkoganfnabgaaW.PrintLast Go.Proofs.YtopkoganfnabgaaW.PrintMore
attribute [local go_sem] max2_int min2_int max_two min_two max_three min_three max_four min_four
set_option linter.unusedVariables false
set_option linter.unusedSimpArgs false
theorem results_cttt {P : Program} {fn : Func} {p u v x : Tmp} {ty : TypeId} (h : fn.results = #[.cell p ty, .tmp u, .tmp v, .tmp x]) (tmps : Array Value) (w : World) (g : Nat) (t : TypeId) (cs : Array Value) (fr : Nat × Nat) (d : TypeDesc)
    (hp : tmps.getD p undef = .pointer (some ⟨g, 0, none⟩)) (hg : w.heap[g]? = some (.cells cs t fr))
    (hu : P.underlying ty = some d) (hd : (match d with | .struct _ | .array _ _ => true | _ => false) = true) (hi : (P.info? ty).map (·.size) = some cs.size) :
    (results fn tmps).run P w = .ok (.tuple #[.agg cs, tmps.getD u undef, tmps.getD v undef, tmps.getD x undef]) w := by
  have hp' : tmps[p]?.getD undef = .pointer (some ⟨g, 0, none⟩) := by simpa using hp
  simp [results, h, hp', asAddr, run_loadVar_row w g t ty cs fr d hg hu hd hi]
/-- What Scan comes to in a sound heap. -/
abbrev ScanC : Prop := ∀ (A : Option Addr) (c : Nat) (h : Hp) (root : Int) (d : Nat) (l : List It) (lo hi : Int) (W : World), FP h root d l → kCl.C W A h.c.length h.c → Calls Try.prog 64 #[.agg #[.slice A h.c.length c, .int .i64 h.keep], .int .i64 root, .int .i64 lo, .int .i64 hi] W fun e w' => ∃ B cb, e = .returned (.slice B (scanL lo hi l).length cb) ∧ (scanL lo hi l).length ≤ cb ∧ kIt.C w' B (scanL lo hi l).length (scanL lo hi l) ∧ Below W.heap.size W w'
theorem cutO_inv {lo hi : Int} {m : Nat} {h g : Hp} {root p e : Int} {n : Nat} {l : List It} (hl : listO 21 h root = some l) (q : cutO lo hi (m + 1) h root = some (g, p, n, e)) :
    (scanL lo hi l = [] ∧ g = h ∧ p = root ∧ n = 0 ∧ e = 0) ∨ (∃ x r g1 p1 e1, scanL lo hi l = x :: r ∧ delO h root x.k = some (g1, p1, e1) ∧
      ((e1 ≠ 0 ∧ g = h ∧ p = root ∧ n = 0 ∧ e = e1) ∨ (e1 = 0 ∧ ∃ n1, cutO lo hi m g1 p1 = some (g, p, n1, e) ∧ n = n1 + 1))) := by
  unfold cutO at q
  rw [hl] at q
  simp only [Option.bind_some] at q
  cases hs : scanL lo hi l with
  | nil =>
    rw [hs] at q
    simp only [Option.some.injEq, Prod.mk.injEq] at q
    exact .inl ⟨rfl, q.1.symm, q.2.1.symm, q.2.2.1.symm, q.2.2.2.symm⟩
  | cons x r =>
    rw [hs] at q
    simp only at q
    cases hd : delO h root x.k with
    | none => rw [hd] at q; cases q
    | some t =>
      obtain ⟨g1, p1, e1⟩ := t
      rw [hd] at q
      simp only [Option.bind_some] at q
      refine .inr ⟨x, r, g1, p1, e1, rfl, hd, ?_⟩
      by_cases h0 : e1 ≠ 0
      · rw [if_pos h0] at q
        simp only [Option.some.injEq, Prod.mk.injEq] at q
        exact .inl ⟨h0, q.1.symm, q.2.1.symm, q.2.2.1.symm, q.2.2.2.symm⟩
      · rw [if_neg h0] at q
        cases hc : cutO lo hi m g1 p1 with
        | none => rw [hc] at q; cases q
        | some t2 =>
          obtain ⟨a, b, n1, e2⟩ := t2
          rw [hc] at q
          simp only [Option.map_some, Option.some.injEq, Prod.mk.injEq] at q
          obtain ⟨rfl, rfl, rfl, rfl⟩ := q
          exact .inr ⟨by simpa using h0, n1, rfl, rfl⟩
set_option maxHeartbeats 8000000 in
set_option maxRecDepth 100000 in
/-- prune.Cut. -/
theorem pcut_walk (SC : ScanC) (A : Option Addr) (c : Nat) (h h' : Hp) (root lo hi p er : Int) (d0 m n : Nat) (l0 : List It) (w : World) (hr : kCl.C w A h.c.length h.c) (hcc : h.c.length ≤ c) (f : FP h root d0 l0) (hm : m ≤ 1000) (e : cutO lo hi m h root = some (h', p, n, er)) :
    Calls Try.prog 32 #[.agg #[.slice A h.c.length c, .int .i64 h.keep], .int .i64 root, .int .i64 lo, .int .i64 hi, .int .i64 m] w fun e w' => ∃ B cb, e = .returned (.tuple #[.agg #[.slice B h'.c.length cb, .int .i64 h'.keep], .int .i64 p, .int .i64 n, .int .i64 er]) ∧ h'.c.length ≤ cb ∧ kCl.C w' B h'.c.length h'.c ∧ Below w.heap.size w w' := by
  obtain ⟨W1, hW1⟩ : ∃ W1, W1 = (w.alloc (.cells #[.slice A h.c.length c, .int .i64 h.keep] 24)).alloc (.cells #[.slice none 0 0, .int .i64 0] 24) := ⟨_, rfl⟩
  have S1 := Aside0.mk (show PuSt w W1 A c h by rw [hW1]; exact pust w A c h hr hcc)
  have HE := Aside0.mk (And.intro e f)
  have HM := Aside0.mk hm
  have hW1' := Aside0.mk hW1
  clear hW1 hr hcc e f hm
  go_enter Try.func32, Try.ntmps32
  go_wp2
  rw [← hW1'.out]
  go_loopg [1, 14, 15, 16, 17, 18] m (fun g s1 s14 s15 s16 s17 s18 wr => (∃ (k n1 : Nat) (hk : Hp) (rk : Int) (A' : Option Addr) (c' : Nat) (d : Nat) (l : List It), s14 = .int .i64 k ∧ s1 = .int .i64 rk ∧ k + g = m ∧ k + n1 = n ∧ Aside0 (cutO lo hi g hk rk = some (h', p, n1, er) ∧ FP hk rk d l) ∧ Aside0 (wr.heap[w.heap.size]? = some (.cells #[.slice A' hk.c.length c', .int .i64 hk.keep] 24 (0, 0))) ∧ Aside0 (hk.c.length ≤ c' ∧ kCl.C wr A' hk.c.length hk.c) ∧ Aside0 (wr.heap[w.heap.size + 1]? = some (.cells #[.slice none 0 0, .int .i64 0] 24 (0, 0))) ∧ Aside0 (Below w.heap.size w wr)))
  case atStart => exact ⟨0, n, h, root, A, c, d0, l0, rfl, rfl, by omega, by omega, HE, ⟨S1.out.hh⟩, ⟨S1.out.cl.2, S1.out.cl.1⟩, ⟨S1.out.hr⟩, ⟨S1.out.b0⟩⟩
  case round =>
    obtain ⟨k, n1, hk, rk, A', c', d, l, rfl, rfl, hkg, hkn, HQ, HH, HC, HZ, HB⟩ := hrel
    have b0 := (blk_cell HH.out 0).trans (show _ = some (Value.slice A' hk.c.length c') from rfl)
    have b1 := (blk_cell HH.out 1).trans (show _ = some (Value.int .i64 hk.keep) from rfl)
    have f0 := blk_frozen HZ.out 0
    have f1 := blk_frozen HZ.out 1
    have z0 := (blk_cell HZ.out 0).trans (show _ = some (Value.slice none 0 0) from rfl)
    have z1 := (blk_cell HZ.out 1).trans (show _ = some (Value.int .i64 0) from rfl)
    cases gk with
    | zero =>
      have hq := HQ.out.1
      unfold cutO at hq
      simp only [Option.some.injEq, Prod.mk.injEq] at hq
      obtain ⟨rfl, rfl, rfl, rfl⟩ := hq
      have r1 : decide (k < m) = false := decide_eq_false (by omega)
      have r2 : decide ((k : Int) < (m : Int)) = false := decide_eq_false (by omega)
      have HKN := Aside0.mk (show k = n by omega)
      clear hkg hkn
      go_wp2
      (refine bodyPost_ret (results_cttt rfl _ _ (w.heap.size + 1) 24 #[.slice A' hk.c.length c', .int .i64 hk.keep] (0, 0) _ rfl (hb_store HZ.out) Try.underlying24 rfl (by kernel_rfl)) rfl ?_)
      rw [HKN.out]
      exact ⟨A', c', rfl, HC.out.1, cl_store HC.out.2 HZ.out, below_set (below_set HB.out (by omega)) (by omega)⟩
    | succ g1 =>
      have r1 : decide (k < m) = true := decide_eq_true (by omega)
      have r2 : decide ((k : Int) < (m : Int)) = true := decide_eq_true (by omega)
      have HKG := Aside0.mk (And.intro hkg hkn)
      have HSC := Aside0.mk (fun (W : World) (hb : Below wr.heap.size wr W) => SC A' c' hk rk d l lo hi W HQ.out.2 (Kd.C_below HC.out.2 hb))
      have HLEN := Aside0.mk (show (scanL lo hi l).length = 0 ↔ scanL lo hi l = [] from List.length_eq_zero_iff)
      have hinv := cutO_inv HQ.out.2.tr.list HQ.out.1
      obtain ⟨sl, hsl⟩ : ∃ sl, sl = scanL lo hi l := ⟨_, rfl⟩
      rw [← hsl] at HSC hinv
      clear hkg hkn hsl HLEN
      go_upto_region 4 with (first | (go_at_call 64; (with_reducible refine (HSC.out _ (by repeat (first | (with_reducible exact Below.refl _ _) | (with_reducible refine below_alloc ?_ _) | (with_reducible refine below_drew1 ?_) | (with_reducible refine pw_below_drewN ?_ _) | (with_reducible exact Below.refl _ _)))).mono ?_); rintro e w2 ⟨M, cm, rfl, hcm, hM, hb2⟩; have HM2 := Aside0.mk (And.intro hcm hM); have HB2 := Aside0.mk hb2; clear hcm hM hb2) | fail)
      have HH2 := Aside0.mk (blk_below HH.out HB2.out)
      have HZ2 := Aside0.mk (blk_below HZ.out HB2.out)
      clear b0 b1 f0 f1 z0 z1
      have b0 := (blk_cell HH2.out 0).trans (show _ = some (Value.slice A' hk.c.length c') from rfl)
      have b1 := (blk_cell HH2.out 1).trans (show _ = some (Value.int .i64 hk.keep) from rfl)
      rcases hinv with ⟨hs, rfl, rfl, rfl, rfl⟩ | ⟨x, r, g2, p2, e2, hs, hdel, hrest⟩
      · subst hs
        have f0 := blk_frozen HZ2.out 0
        have f1 := blk_frozen HZ2.out 1
        have z0 := (blk_cell HZ2.out 0).trans (show _ = some (Value.slice none 0 0) from rfl)
        have z1 := (blk_cell HZ2.out 1).trans (show _ = some (Value.int .i64 0) from rfl)
        have HKN := Aside0.mk (show k = n by have := HKG.out.2; omega)
        go_wp2
        (refine bodyPost_ret (results_cttt rfl _ _ (w.heap.size + 1) 24 #[.slice A' h'.c.length c', .int .i64 h'.keep] (0, 0) _ rfl (hb_store HZ2.out) Try.underlying24 rfl (by kernel_rfl)) rfl ?_)
        rw [HKN.out]
        exact ⟨A', c', rfl, HC.out.1, cl_store (Kd.C_below HC.out.2 HB2.out) HZ2.out, below_set (below_set (below_step HB.out HB2.out) (by omega)) (by omega)⟩
      · have hl2 := HQ.out.2.ok.l2
        have HPD := Aside0.mk (fun (W : World) (hb : Below w2.heap.size w2 W) => pdel_walk A' c' hk g2 rk x.k p2 e2 W (Kd.C_below (Kd.C_below HC.out.2 HB2.out) hb) hl2 HC.out.1 hdel)
        have hl0 : 0 < sl.length := by rw [hs]; simp
        have p1 : ((sl.length : Int) == 0) = false := beq_eq_false_iff_ne.mpr (by omega)
        have p2' : (sl.length == 0) = false := beq_eq_false_iff_ne.mpr (by omega)
        have p3 : (0 < sl.length) = True := eq_true hl0
        obtain ⟨ad, rfl, v0, _⟩ := at_it0 HM2.out.2 hl0
        rw [show itAt sl 0 = x by rw [hs]; rfl] at v0
        have HREST := Aside0.mk hrest
        have HFD := Aside0.mk (show ∀ g3 : Hp, e2 = 0 → ∃ d' l', FP g2 p2 d' l' from fun _ h0 => by
          obtain ⟨g3, p3, e3, h1, h2⟩ := HQ.out.2.del x.k
          rw [hdel] at h1
          simp only [Option.some.injEq, Prod.mk.injEq] at h1
          obtain ⟨rfl, rfl, rfl⟩ := h1
          rcases h2 with ⟨h2, _⟩ | ⟨h2, _⟩ | ⟨_, _, _, _, _, d', _, f'⟩
          · omega
          · omega
          · exact ⟨d', _, f'⟩)
        clear hs hdel hrest hl0 hl2
        go_upto_region 5 with (fail)
        go_cut [16, 17, 18] from 30 to 41 (fun v16 v17 v18 wd => ∃ (XN : Nat) (B' : Option Addr) (c2 : Nat), v16 = .pointer (some ⟨XN, 0, none⟩) ∧ v17 = .int .i64 p2 ∧ v18 = .int .i64 e2 ∧ Aside0 (Bx wd XN B' c2 g2) ∧ Aside0 (Below w2.heap.size w2 wd))
        case first =>
          go_region_held3 (fun w' => w'.cell? ⟨w.heap.size, 0, none⟩ = some (.slice A' hk.c.length c') ∧ w'.cell? ⟨w.heap.size, 1, none⟩ = some (.int .i64 hk.keep) ∧ w'.cell? ad = some (.int .i64 x.k)) (first | exact ⟨b0, b1, v0⟩ | exact (fun (H : Below w2.heap.size w2 _) => ⟨bcell H b0, bcell H b1, bcell H v0⟩) (by repeat (first | (with_reducible exact Below.refl _ _) | (with_reducible refine below_alloc ?_ _) | (with_reducible refine below_drew1 ?_) | (with_reducible refine pw_below_drewN ?_ _) | (with_reducible exact HB3.out) | (with_reducible refine below_set ?_ (Nat.le_refl _))))) (first | (go_at_call 28; (with_reducible refine (HPD.out _ (by repeat (first | (with_reducible exact Below.refl _ _) | (with_reducible refine below_alloc ?_ _) | (with_reducible refine below_drew1 ?_) | (with_reducible refine pw_below_drewN ?_ _) | fail))).mono ?_); rintro e w3 ⟨B', c2, rfl, hc', hr', hb3⟩; have HB3 := Aside0.mk (show Below w2.heap.size w2 w3 from below_step (by repeat (first | (with_reducible exact Below.refl _ _) | (with_reducible refine below_alloc ?_ _) | (with_reducible refine below_drew1 ?_) | (with_reducible refine pw_below_drewN ?_ _) | fail)) hb3); have HR3 := Aside0.mk (And.intro hc' hr'); (first | (have qx := blk_below (blk_drew (blk_new w2 (.cells #[.slice none 0 0, .int .i64 0] 24))) hb3; have QX := Aside0.mk qx; have qx0 := (blk_cell qx 0).trans (show _ = some (Value.slice none 0 0) from rfl); have qx1 := (blk_cell qx 1).trans (show _ = some (Value.int .i64 0) from rfl); have qf0 := blk_frozen qx 0; have qf1 := blk_frozen qx 1; clear qx) | skip); clear hb3 hc' hr') | fail)
          · go_wp2
            go_meet
            case rel => exact ⟨w3.heap.size, B', c2, rfl, rfl, rfl, ⟨Bx.new HR3.out.2 HR3.out.1⟩, ⟨below_alloc HB3.out _⟩⟩
          · go_wp2
            go_meet
            case rel => exact ⟨w2.heap.size, B', c2, rfl, rfl, rfl, ⟨⟨hb_store QX.out, cl_store HR3.out.2 QX.out, HR3.out.1⟩⟩, ⟨below_set (below_set HB3.out (Nat.le_refl _)) (Nat.le_refl _)⟩⟩
        case rest =>
          obtain ⟨XN, B2, c2, rfl, rfl, rfl, BXX, HB4⟩ := hcut
          have HH4 := Aside0.mk (blk_below HH2.out HB4.out)
          have HZ4 := Aside0.mk (blk_below HZ2.out HB4.out)
          have HBW4 := Aside0.mk (below_step (below_step HB.out HB2.out) HB4.out)
          clear b0 b1 v0 p1 p2' p3
          have b0 := (blk_cell HH4.out 0).trans (show _ = some (Value.slice A' hk.c.length c') from rfl)
          have b1 := (blk_cell HH4.out 1).trans (show _ = some (Value.int .i64 hk.keep) from rfl)
          rcases HREST.out with ⟨h0, rfl, rfl, rfl, rfl⟩ | ⟨rfl, n2, hnext, rfl⟩
          · have q1 := bne_t h0
            have f0 := blk_frozen HZ4.out 0
            have f1 := blk_frozen HZ4.out 1
            have z0 := (blk_cell HZ4.out 0).trans (show _ = some (Value.slice none 0 0) from rfl)
            have z1 := (blk_cell HZ4.out 1).trans (show _ = some (Value.int .i64 0) from rfl)
            have HKN := Aside0.mk (show k = n by have := HKG.out.2; omega)
            clear h0
            go_wp2
            (refine bodyPost_ret (results_cttt rfl _ _ (w.heap.size + 1) 24 #[.slice A' h'.c.length c', .int .i64 h'.keep] (0, 0) _ rfl (hb_store HZ4.out) Try.underlying24 rfl (by kernel_rfl)) rfl ?_)
            rw [HKN.out]
            exact ⟨A', c', rfl, HC.out.1, cl_store (Kd.C_below (Kd.C_below HC.out.2 HB2.out) HB4.out) HZ4.out, below_set (below_set HBW4.out (by omega)) (by omega)⟩
          · obtain ⟨d', l', fp'⟩ := HFD.out hk rfl
            have HNX := Aside0.mk (And.intro hnext fp')
            have HW := Aside0.mk (show wrap64 ((k : Int) + 1) = ((k + 1 : Nat) : Int) by have := HKG.out.1; have := HM.out; unfold wrap64; omega)
            have x0 := BXX.out.c0
            have x1 := BXX.out.c1
            have f0 := blk_frozen HH4.out 0
            have f1 := blk_frozen HH4.out 1
            clear hnext fp'
            go_wp2
            go_roundg g1
            case measure => omega
            case rel => exact ⟨k + 1, n2, g2, p2, B2, c2, d', l', by rw [HW.out], rfl, by have := HKG.out.1; omega, by have := HKG.out.2; omega, HNX, ⟨hb_store HH4.out⟩, ⟨BXX.out.le, cl_store BXX.out.cl HH4.out⟩, ⟨blk_far (blk_far HZ4.out (by show w.heap.size + 1 ≠ w.heap.size; omega) _) (by show w.heap.size + 1 ≠ w.heap.size; omega) _⟩, ⟨below_set (below_set HBW4.out (Nat.le_refl _)) (Nat.le_refl _)⟩⟩
end Go.Proofs.Ytopkoganfnabgaa.H
namespace Go.Proofs.Ytopkoganfnabgaa.H
def fromL (lo : Int) (l : List It) : List It := l.filter fun x => decide (lo ≤ x.k)
theorem fromL_append (lo : Int) (a b : List It) : fromL lo (a ++ b) = fromL lo a ++ fromL lo b := List.filter_append ..
theorem fromL_lt {lo : Int} {l : List It} (h : ∀ y ∈ l, y.k < lo) : fromL lo l = [] := List.filter_eq_nil_iff.mpr fun y hy => by have := h y hy; simp; omega
theorem fromL_one {lo : Int} {x : It} (h : lo ≤ x.k) : fromL lo [x] = [x] := by unfold fromL; simp [h]
theorem scanL_from (lo hi : Int) (l : List It) : scanL lo hi l = (fromL lo l).filter fun x => decide (x.k < hi) := by
  unfold scanL fromL
  rw [List.filter_filter]
  exact List.filter_congr fun x _ => Bool.and_comm ..
theorem fromL_up {lo : Int} {l : List It} (h : l.Pairwise fun a b => a.k < b.k) : (fromL lo l).Pairwise fun a b => a.k < b.k := h.filter _
theorem up_stop {hi : Int} : ∀ {pre : List It} {l : List It} {x : It} {r : List It}, l.Pairwise (fun a b => a.k < b.k) → l = pre ++ x :: r → hi ≤ x.k → (∀ y ∈ pre, y.k < hi) → l.filter (fun x => decide (x.k < hi)) = pre := by
  intro pre l x r up e hx hp
  subst e
  rw [List.filter_append, List.filter_eq_self.mpr fun y hy => decide_eq_true (hp y hy), List.filter_eq_nil_iff.mpr, List.append_nil]
  intro y hy
  rw [List.pairwise_append] at up
  rcases List.mem_cons.mp hy with rfl | hy
  · simp; omega
  · have := (List.pairwise_cons.mp up.2.1).1 y hy; simp; omega
theorem F2.pick {α β : Type} {R : α → β → Prop} {l : List α} {m : List β} (f : F2 R l m) (a : α) (b : β) : ∀ j, j < l.length → R (l.getD j a) (m.getD j b) := by
  induction f with
  | nil => intro j h; cases h
  | cons r _ ih =>
    intro j h
    cases j with
    | zero => exact r
    | succ j => exact ih j (by simpa using h)
structure NodeF (h : Hp) (d : Nat) (p lo : Int) (l : List It) (i : Nat) (is : Bool) (ls : List (List It)) : Prop where
  hat : atO (clAt h p).n.leaf (clAt h p).n.it lo = some (i, is)
  ile : i ≤ (clAt h p).n.it.length
  fl : l = ls.flatten
  len : ls.length = (clAt h p).n.it.length
  pre : fromL lo (ls.take i).flatten = []
  lf : (clAt h p).n.leaf = true → ∀ j, i ≤ j → j < (clAt h p).n.it.length → fromL lo (ls.getD j []) = [itAt (clAt h p).n.it j]
  nd : (clAt h p).n.leaf = false → ∃ d', d = d' + 1 ∧ ∀ j, j < (clAt h p).n.it.length → T h d' (itAt (clAt h p).n.it j).v (ls.getD j [])
theorem T.node {h : Hp} {B : Int} (o : Ok h B) {d : Nat} {p : Int} {l : List It} (t : T h d p l) (lo : Int) : ∃ i is ls, NodeF h d p lo l i is ls := by
  cases hl : (clAt h p).n.leaf with
  | true =>
    obtain ⟨n4, ng⟩ := nodeRight_iff.mp (o.right p t.used)
    obtain ⟨_, el⟩ := t.leaf hl
    have hc := cnt_le (clAt h p).n.it lo
    refine ⟨cnt (clAt h p).n.it lo, isAt (clAt h p).n.it lo, (clAt h p).n.it.map fun x => [x], ⟨?_, hc, ?_, by simp, ?_, fun _ j h1 h2 => ?_, fun h => ?_⟩⟩
    · rw [hl]; unfold atO; rw [if_pos ⟨sortedB_up.mpr ng.up, by omega⟩]; simp
    · rw [el]; generalize (clAt h p).n.it = it; induction it with
      | nil => rfl
      | cons a it ih => simp only [List.map_cons, List.flatten_cons, List.singleton_append]; rw [← ih]
    · refine fromL_lt fun y hy => ?_
      rw [← List.map_take] at hy
      obtain ⟨r, hr, hy⟩ := List.mem_flatten.mp hy
      obtain ⟨z, hz, rfl⟩ := List.mem_map.mp hr
      rw [List.mem_singleton.mp hy]
      exact cnt_take z hz
    · have e : ((clAt h p).n.it.map fun x => [x]).getD j [] = [itAt (clAt h p).n.it j] := by
        rw [List.getD_eq_getElem?_getD, List.getElem?_map, List.getElem?_eq_getElem h2, itAt_get h2]; rfl
      rw [e]
      refine fromL_one ?_
      have h3 := cnt_at (show cnt (clAt h p).n.it lo < (clAt h p).n.it.length by omega)
      by_cases e : j = cnt (clAt h p).n.it lo
      · rw [e]; exact h3
      · have := up_lt ng.up (show cnt (clAt h p).n.it lo < j by omega) h2; omega
    · rw [hl] at h; cases h
  | false =>
    obtain ⟨d', i, is, la, lm, lb, ed, e1, e2, tm, km, el, h1, h2, fa, fb⟩ := t.lead o hl lo
    have hsp := itAt_split e2
    have fall : F2 (fun x li => x.k = ky li ∧ T h d' x.v li) (clAt h p).n.it (la ++ lm :: lb) := by
      conv => arg 2; rw [hsp]
      exact fa.append (.cons ⟨km, tm⟩ fb)
    have hla : la.length = i := by rw [← fa.len, List.length_take]; omega
    refine ⟨i, is, la ++ lm :: lb, ⟨by rw [hl]; exact e1, by omega, ?_, fall.len.symm, ?_, fun h => (by rw [hl] at h; cases h), fun _ => ⟨d', ed, fun j hj => (fall.pick zIt [] j hj).2⟩⟩⟩
    · rw [el, List.flatten_append, List.flatten_cons, List.append_assoc]
    · rw [show (la ++ lm :: lb).take i = la by rw [← hla, List.take_left']; rfl]
      exact fromL_lt h1
/-- The items from the key on, of the children from the first on. -/
def goneL (lo : Int) (ls : List (List It)) (j : Nat) : List It := fromL lo (ls.take j).flatten
theorem goneL_succ (lo : Int) (ls : List (List It)) (j : Nat) (h : j < ls.length) : goneL lo ls (j + 1) = goneL lo ls j ++ fromL lo (ls.getD j []) := by
  unfold goneL
  have e : ls.take (j + 1) = ls.take j ++ [ls.getD j []] := by
    rw [List.getD_eq_getElem?_getD, List.getElem?_eq_getElem h]
    exact (List.take_append_getElem h).symm
  rw [e, List.flatten_append, fromL_append]
  simp
theorem goneL_all (lo : Int) (ls : List (List It)) : goneL lo ls ls.length = fromL lo ls.flatten := by unfold goneL; rw [List.take_length]
theorem goneL_split (lo : Int) (ls : List (List It)) (j : Nat) (h : j < ls.length) : ∃ post, fromL lo ls.flatten = goneL lo ls j ++ fromL lo (ls.getD j []) ++ post := by
  refine ⟨fromL lo (ls.drop (j + 1)).flatten, ?_⟩
  rw [← goneL_succ lo ls j h]
  unfold goneL
  rw [← fromL_append, ← List.flatten_append, List.take_append_drop]
end Go.Proofs.Ytopkoganfnabgaa.H
namespace Go.Proofs.Ytopkoganfnabgaa.H
open Go.RowKit Go.Proofs.YtopkoganfnabgaaW.PrintWords Go.Proofs.YtopkoganfnabgaaW.PrintLast Go.Proofs.YtopkoganfnabgaaW.PrintMore
attribute [local go_sem] max2_int min2_int max_two min_two max_three min_three max_four min_four
set_option linter.unusedVariables false
set_option linter.unusedSimpArgs false
attribute [local go_sem] Oper.semAt_some
section
variable {F : Fence} {n : Nat} {P : Program}
/-- An iterator that stores into a variable of its own between two rounds: St says which turns of memory that is. -/
def SeqSt {α : Type} (F : Fence) (n : Nat) (P : Program) (g : Nat) (lb : Array Value) (encs : α → Array Value) (Kp St : World → World → Prop) (S Sp : List α → Prop) (N : Nat) (w : World) : Prop :=
  ∀ (l : Nat) (J Jx : List α → World → Prop) (W : World), Below w.heap.size w W → w.heap.size + 2 ≤ W.heap.size → AbidesFrom W.heap.size J → AbidesFrom W.heap.size Jx → (∀ s A B, J s A → St A B → J s B) →
    (∀ pre x W1, J pre W1 → pre.length < N → Sp (pre ++ [x]) → YieldAt F (n - 1) P l (encs x) W1 fun e W' =>
      (e = .returned (.bool true) ∧ J (pre ++ [x]) W' ∧ Kp W1 W') ∨ (e = .returned (.bool false) ∧ Jx (pre ++ [x]) W')) →
    J [] W →
    CallsIn F n P g (#[.func (.yield l) #[] #[]] ++ lb) W fun e W' => (∃ v, e = .returned v) ∧ ((∃ xs, S xs ∧ J xs W') ∨ (∃ pre, Sp pre ∧ Jx pre W'))
end
section
variable {F : Fence} {n : Nat} {P : Program}
theorem range_sa {α : Type} {g : Operand} {ps : Array Tmp} {assign body : Code} {Q : Exit → Act → World → Prop} {a : Act} {w : World}
    (hro : F.round = none) (h1 : 1 ≤ n) {gf : Nat} {lb : Array Value} (hg : a.eval g = .func (.func gf) #[] lb) (hFg : F.fn gf) (eg : ∀ args w, (callFunc gf args).run P w = .ok (.enter gf args) w)
    {encs : α → Array Value} {Kp St : World → World → Prop} {S Sp : List α → Prop} {N : Nat} (hseq : SeqSt F (n - 1) P gf lb encs Kp St S Sp N w)
    (hKt : ∀ {A B C : World}, Kp A B → Kp B C → Kp A C) (hKb : ∀ (W : World) (l : Nat) (o' : Obj), l = w.heap.size + 1 → w.heap.size + 2 ≤ W.heap.size → Kp W (W.putObj l o')) (hps : ∀ x, (encs x).size = ps.size)
    (hSt : ∀ {A B : World} {l : Nat} {o : Obj}, St A B → A.heap[l]? = some o → w.heap.size ≤ l → B.heap[l]? = some o)
    (I : List α → World → Prop) (Ix : Code → List α → World → Prop) (hI : OwnFrom w.heap.size I) (hIs : ∀ s A B, I s A → St A B → I s B) (hIx : ∀ c, OwnFrom w.heap.size (Ix c)) (h0 : I [] w) (a₁ : α → Nat → Act) (ob : α → Obj) (hKa : ∀ (x : α) (W : World), w.heap.size + 2 ≤ W.heap.size → Kp W (W.alloc (ob x)))
    (hassign : ∀ (l : Nat) (x : α) (W : World) (K : Act → World → Prop), K (a₁ x W.heap.size) (W.alloc (ob x)) →
      assign.wpIn (F.inRound l) (n - 1 - 1) P (Exit.then K (fun _ _ _ => False)) { tmps := (ps.zip (encs x)).foldl (fun t (p, v) => t.setIfInBounds p v) a.tmps, defers := [] } W)
    (hbody : ∀ (l : Nat) (pre : List α) (x : α) (W : World) (blk : Nat), I pre W → pre.length < N → Sp (pre ++ [x]) → W.heap[blk]? = some (ob x) → w.heap.size + 2 ≤ blk → body.wpIn (F.inRound l) (n - 1 - 1) P (ownPostK Kp I Ix (pre ++ [x]) W) (a₁ x blk) W)
    (hdone : ∀ (D : Nat) (xs : List α) (W : World), w.heap.size ≤ D → S xs → I xs W → W.heap[D]? = some (.deferred (some [])) → Q .normal { a with defers := { target := .collected D, args := #[] } :: a.defers } W)
    (hstop : ∀ (D : Nat) (c : Code) (pre : List α) (W : World), w.heap.size ≤ D → Sp pre → Ix c pre W → W.heap[D]? = some (.deferred (some [])) → c.wpIn F n P Q { a with defers := { target := .collected D, args := #[] } :: a.defers } W) :
    (Code.rangeFunc g ps assign body).wpIn F n P Q a w := by
  refine wpIn_rangeFunc fun fn hfn => ?_
  rw [hro]
  let rec_ : LoopState → Option Code → Loop := fun st pe => { state := st, pending := pe, fn, tmps := a.tmps, params := ps, assign, body, defers := w.heap.size }
  obtain ⟨rec, hrec⟩ : ∃ rec : LoopState → Option Code → Loop, rec = rec_ := ⟨_, rfl⟩
  obtain ⟨W1, hW1⟩ : ∃ W1, (w.alloc (.deferred (some []))).alloc (.loop (rec .ready none)) = W1 := ⟨_, rfl⟩
  have hL1 : W1.heap[w.heap.size + 1]? = some (.loop (rec .ready none)) := by
    rw [← hW1]; have := World.alloc_heap_new (w.alloc (.deferred (some []))) (.loop (rec .ready none)); rwa [World.size_alloc] at this
  have hK1 : W1.heap[w.heap.size]? = some (.deferred (some [])) := by
    rw [← hW1]; exact (Below.heap_alloc _ _ _ (by simp)).trans (World.alloc_heap_new w _)
  have hI1 : I [] W1 := by rw [← hW1]; exact hI.alloc _ (hI.alloc _ h0)
  have hb1 : Below w.heap.size w W1 := by rw [← hW1]; exact ((Below.refl _ w).alloc (Nat.le_refl _) _).alloc (by simp) _
  refine ⟨w.heap.size + 1, [{ target := .collected w.heap.size, args := #[] }], W1, { target := .fn (.func gf) lb, args := #[.func (.yield (w.heap.size + 1)) #[] #[]] }, W1, gf,
    #[.func (.yield (w.heap.size + 1)) #[] #[]] ++ lb, W1, ?_, ?_, ?_, ?_, fun _ => h1, ?_⟩
  · rw [← hW1, hrec]; exact run_enterLoop_outer _ _ _ _ _
  · simp only [resolve, hg]
    simp [go_sem]
  · intro f' hf'
    have e : gf = f' := by simpa [Target.leads] using hf'
    exact e ▸ hFg
  · simp [invoke, go_sem, eg]
  have hnc : ∀ {A : World} {row : Option Nat}, (∀ r, row = some r → W1.heap.size ≤ r ∧ ∃ o : Obj, A.heap[r]? = some o ∧ o.isWalk = true) → (∀ r, row = some r → w.heap.size ≤ r ∧ ∃ o : Obj, A.heap[r]? = some o ∧ o.isCells = false) := by
    intro A row hr r e
    obtain ⟨hB, o, ho, hw⟩ := hr r e
    exact ⟨Nat.le_trans hb1.size hB, o, ho, Obj.not_cells_of_walk hw⟩
  refine (hseq (w.heap.size + 1)
    (fun pre W => I pre W ∧ W.heap[w.heap.size + 1]? = some (.loop (rec .ready none)) ∧ W.heap[w.heap.size]? = some (.deferred (some [])))
    (fun pre W => ∃ c, Ix c pre W ∧ W.heap[w.heap.size + 1]? = some (.loop (rec .done (some c))) ∧ W.heap[w.heap.size]? = some (.deferred (some [])))
    W1 hb1 (by rw [← hW1]; simp) ?j1 ?j2 ?j3 ?round ⟨hI1, hL1, hK1⟩).mono ?behind
  case j1 =>
    intro s A B row hs hg' hr
    exact ⟨hI s A B row hs.1 hg' (hnc hr), (grownBy_keeps hg' (fun r e => (hr r e).2) hs.2.1 rfl).trans hs.2.1, (grownBy_keeps hg' (fun r e => (hr r e).2) hs.2.2 rfl).trans hs.2.2⟩
  case j2 =>
    rintro s A B row ⟨c, hc, hl, hk⟩ hg' hr
    exact ⟨c, hIx c s A B row hc hg' (hnc hr), (grownBy_keeps hg' (fun r e => (hr r e).2) hl rfl).trans hl, (grownBy_keeps hg' (fun r e => (hr r e).2) hk rfl).trans hk⟩
  case j3 => exact fun s A B hs hst => ⟨hIs s A B hs.1 hst, hSt hst hs.2.1 (by omega), hSt hst hs.2.2 (Nat.le_refl _)⟩
  case round =>
    rintro pre x W ⟨hi, hl, hk⟩ hlen hsp
    have hlt : w.heap.size + 1 < W.heap.size := (Array.getElem?_eq_some_iff.1 hl).1
    have hy := run_yield (P := P) (args := encs x) hl (by rw [hrec]; exact hps x)
    rw [hrec] at hy
    have hla := (Below.heap_alloc W (ob x) _ hlt).trans hl
    have hka := (Below.heap_alloc W (ob x) _ (by omega)).trans hk
    have hia : I pre (W.alloc (ob x)) := hI.alloc _ hi
    have hwa : Kp W (W.alloc (ob x)) := hKa x W (by omega)
    have hba : (W.alloc (ob x)).heap[W.heap.size]? = some (ob x) := World.alloc_heap_new W _
    refine ⟨fn, _, assign, body, hy, roundIn_of_wpIn hfn (hassign _ x W _ ⟨_, run_beginRound hla (by rw [hrec]), ?_⟩)⟩
    have hlt' : w.heap.size + 1 < (W.alloc (ob x)).heap.size := (Array.getElem?_eq_some_iff.1 hla).1
    obtain ⟨W2, hW2⟩ : ∃ W2, (W.alloc (ob x)).putObj (w.heap.size + 1) (.loop { rec .ready none with state := .busy }) = W2 := ⟨_, rfl⟩
    have hl2 : W2.heap[w.heap.size + 1]? = some (.loop { rec .ready none with state := .busy }) := by rw [← hW2]; exact World.putObj_heap_same hlt'
    have hk2 : W2.heap[w.heap.size]? = some (.deferred (some [])) := by rw [← hW2]; exact (World.putObj_heap_other (by omega)).trans hka
    have hb2 : W2.heap[W.heap.size]? = some (ob x) := by rw [← hW2]; exact (World.putObj_heap_other (by omega)).trans hba
    have hw2 : Kp W W2 := by rw [← hW2]; exact hKt hwa (hKb _ _ _ rfl (by omega))
    have hi2 : I pre W2 := by rw [← hW2]; exact hI.putObj _ hia (by omega) hla rfl
    rw [hW2]
    refine wpIn_mono (hbody _ pre x _ W.heap.size hi2 hlen hsp hb2 (by omega)) ?_
    have fin : ∀ (jump : Option Code) (W3 : World), KeepsOthers W2 W3 →
        (Instr.endRound (w.heap.size + 1) jump).run P W3 = .ok (.bool jump.isNone) (W3.putObj (w.heap.size + 1) (.loop (rec (if jump.isNone then .ready else .done) jump))) ∧
        W3.heap[w.heap.size + 1]? = some (.loop { rec .ready none with state := .busy }) ∧
        (W3.putObj (w.heap.size + 1) (.loop (rec (if jump.isNone then .ready else .done) jump))).heap[w.heap.size + 1]? = some (.loop (rec (if jump.isNone then .ready else .done) jump)) ∧
        (W3.putObj (w.heap.size + 1) (.loop (rec (if jump.isNone then .ready else .done) jump))).heap[w.heap.size]? = some (.deferred (some [])) := by
      intro jump W3 hk3
      have hl3 := hk3.same _ _ hl2 rfl
      have := run_endRound (P := P) jump hl3
      rw [hrec] at this ⊢
      exact ⟨this, by rw [hrec] at hl3; exact hl3, World.putObj_heap_same (Array.getElem?_eq_some_iff.1 hl3).1, (World.putObj_heap_other (by omega)).trans (hk3.same _ _ hk2 rfl)⟩
    have out : ∀ (c : Code) (W3 : World), KeepsOthers W2 W3 → Ix c (pre ++ [x]) W3 → _ := fun c W3 hk3 hi3 => And.intro (fin (some c) W3 hk3) ((hIx c).putObj (.loop (rec .done (some c))) hi3 (by omega) (fin (some c) W3 hk3).2.1 rfl)
    rintro e a3 W3 hp
    cases e with
    | normal =>
      obtain ⟨hk3, hkp3, hi3⟩ := hp
      obtain ⟨hr, hl3, hl4, hk4⟩ := fin none W3 hk3
      exact ⟨_, _, hr, .inl ⟨rfl, ⟨hI.putObj _ hi3 (by omega) hl3 rfl, hl4, hk4⟩, hKt (hKt hw2 hkp3) (hKb _ _ _ rfl (by have := (Array.getElem?_eq_some_iff.1 hl3).1; omega))⟩⟩
    | ret =>
      obtain ⟨⟨hr, _, hl4, hk4⟩, hi4⟩ := out .ret W3 hp.1 hp.2
      exact ⟨_, _, hr, .inr ⟨rfl, .ret, hi4, hl4, hk4⟩⟩
    | exit id =>
      obtain ⟨⟨hr, _, hl4, hk4⟩, hi4⟩ := out (.exit id) W3 hp.1 hp.2
      exact ⟨_, _, hr, .inr ⟨rfl, .exit id, hi4, hl4, hk4⟩⟩
    | goto t =>
      obtain ⟨⟨hr, _, hl4, hk4⟩, hi4⟩ := out (.goto t) W3 hp.1 hp.2
      exact ⟨_, _, hr, .inr ⟨rfl, .goto t, hi4, hl4, hk4⟩⟩
    | panic ch => exact hp.elim
    | outgrown => exact hp.elim
  case behind =>
    rintro e W2 ⟨⟨v, rfl⟩, (⟨xs, hS, hi, hl, hk⟩ | ⟨pre, hSp, c, hi, hl, hk⟩)⟩
    · have he := run_endLoop (P := P) hl (by rw [hrec]; simp [rec_])
      rw [hrec] at he
      exact ⟨none, _, he, hdone _ xs _ (Nat.le_refl _) hS (hI.putObj _ hi (by omega) hl rfl) ((World.putObj_heap_other (by omega)).trans hk)⟩
    · have he := run_endLoop (P := P) hl (by rw [hrec]; simp [rec_])
      rw [hrec] at he
      exact ⟨some c, _, he, hstop _ c pre _ (Nat.le_refl _) hSp ((hIx c).putObj _ hi (by omega) hl rfl) ((World.putObj_heap_other (by omega)).trans hk)⟩
end
/-- Whose row a slice's box holds. -/
def ownB (W : World) (b : Nat) : Option Nat := (W.cell? ⟨b, 0, none⟩).bind Value.ownBlock
theorem cell_blk {W W' : World} {p : Addr} (h : W'.heap[p.block]? = W.heap[p.block]?) : W'.cell? p = W.cell? p := by
  unfold World.cell?
  rw [h]
/-- No block that a round turns. -/
structure Saf (b L : Nat) (W : World) (k : Nat) : Prop where
  lt : k < W.heap.size
  nb : k ≠ b
  nl : k ≠ L
  no : ownB W b ≠ some k
/-- The row lies in the heap. -/
def InB (b : Nat) (W : World) : Prop := ∀ k, ownB W b = some k → k < W.heap.size
structure KpS (b L : Nat) (A B : World) : Prop where
  os : B.os = A.os
  tape : B.tape = A.tape
  output : B.output = A.output
  sz : A.heap.size ≤ B.heap.size
  kp : ∀ k, Saf b L A k → Saf b L B k ∧ B.heap[k]? = A.heap[k]?
  inb : InB b A → InB b B
theorem KpS.trans {b L : Nat} {A B C : World} (h : KpS b L A B) (k : KpS b L B C) : KpS b L A C :=
  ⟨k.os.trans h.os, k.tape.trans h.tape, k.output.trans h.output, Nat.le_trans h.sz k.sz, fun i hi => ⟨(k.kp i (h.kp i hi).1).1, (k.kp i (h.kp i hi).1).2.trans (h.kp i hi).2⟩, fun hi => k.inb (h.inb hi)⟩
theorem ownB_below {W W' : World} {b : Nat} (hb : Below W.heap.size W W') (h : b < W.heap.size) : ownB W' b = ownB W b := by
  unfold ownB
  rw [cell_blk (W := W) (W' := W') (p := ⟨b, 0, none⟩) (hb.block b h)]
theorem KpS.of_below {b L : Nat} {A B : World} (h : Below A.heap.size A B) (hb : b < A.heap.size) : KpS b L A B :=
  ⟨h.os, h.tape, h.output, h.size, fun k hk => ⟨⟨Nat.lt_of_lt_of_le hk.lt h.size, hk.nb, hk.nl, by rw [ownB_below h hb]; exact hk.no⟩, h.block k hk.lt⟩, fun hi k hk => by rw [ownB_below h hb] at hk; exact Nat.lt_of_lt_of_le (hi k hk) h.size⟩
theorem KpS.put {b L : Nat} (W : World) (o : Obj) (hb : b ≠ L) : KpS b L W (W.putObj L o) := by
  have hc : ownB (W.putObj L o) b = ownB W b := by unfold ownB; rw [cell_blk (W := W) (W' := W.putObj L o) (p := ⟨b, 0, none⟩) (World.putObj_heap_other hb)]
  have hz : (W.putObj L o).heap.size = W.heap.size := by simp [World.putObj]
  exact ⟨rfl, rfl, rfl, by omega, fun k hk => ⟨⟨by rw [hz]; exact hk.lt, hk.nb, hk.nl, by rw [hc]; exact hk.no⟩, World.putObj_heap_other hk.nl⟩, fun hi k hk => by rw [hc] at hk; rw [hz]; exact hi k hk⟩
/-- A block of ours. -/
structure BxS (b L : Nat) (W : World) (k : Nat) (o : Obj) : Prop where
  hh : W.heap[k]? = some o
  sf : Saf b L W k
theorem BxS.kp {b L : Nat} {A B : World} {k : Nat} {o : Obj} (h : BxS b L A k o) (q : KpS b L A B) : BxS b L B k o := ⟨(q.kp k h.sf).2.trans h.hh, (q.kp k h.sf).1⟩
theorem BxS.new {b L : Nat} {W : World} {c : Array Value} {t : TypeId} (hb : b < W.heap.size) (hL : L < W.heap.size) (hi : InB b W) : BxS b L (W.alloc (.cells c t)) W.heap.size (.cells c t (0, 0)) :=
  ⟨blk_new W _, ⟨by simp, by omega, by omega, fun e => by
    have e2 : ownB (W.alloc (.cells c t)) b = ownB W b := ownB_below (below_alloc (Below.refl _ _) _) hb
    rw [e2] at e
    have := hi _ e
    omega⟩⟩
/-- What an iterator stands on: the heap's cells lie below the base, and no round turns what lies there. -/
structure ItS (b L : Nat) (w0 W : World) : Prop where
  bl : Below w0.heap.size w0 W
  sf : ∀ k, k < w0.heap.size → Saf b L W k
  hb : b < W.heap.size
  hL : L < W.heap.size
  inb : InB b W
theorem ItS.kp {b L : Nat} {w0 A B : World} (h : ItS b L w0 A) (q : KpS b L A B) : ItS b L w0 B :=
  ⟨h.bl.trans ⟨q.os, q.tape, q.output, q.sz, fun k hk => (q.kp k (h.sf k hk)).2⟩, fun k hk => (q.kp k (h.sf k hk)).1, Nat.lt_of_lt_of_le h.hb q.sz, Nat.lt_of_lt_of_le h.hL q.sz, q.inb h.inb⟩
end Go.Proofs.Ytopkoganfnabgaa.H
