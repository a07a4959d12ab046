import Derived.Test.YtopkoganfnabgaaG1
import Derived.Lib.AppendZeros
import Derived.Laws.CopyOwn
namespace Go.Proofs.Ytopkoganfnabgaa.H
open Go.RowKit Go.Proofs.YtopkoganfnabgaaW.PrintWords Go.Proofs.YtopkoganfnabgaaW.PrintLast Go.Proofs.YtopkoganfnabgaaW.PrintMore
attribute [local go_sem] max2_int min2_int max_two min_two max_three min_three max_four min_four
set_option linter.unusedVariables false
set_option linter.unusedSimpArgs false
theorem bs_inv (p : Nat → Bool) (n : Nat) : ∀ f lo hi, (lo = 0 ∨ p (lo - 1) = false) → (hi = n ∨ p hi = true) → lo ≤ hi → hi ≤ n → hi - lo ≤ f →
    bsF p f lo hi ≤ n ∧ (bsF p f lo hi = 0 ∨ p (bsF p f lo hi - 1) = false) ∧ (bsF p f lo hi = n ∨ p (bsF p f lo hi) = true) := by
  intro f
  induction f with
  | zero =>
    intro lo hi h1 h2 h3 h4 h5
    obtain rfl : lo = hi := by omega
    unfold bsF
    exact ⟨h4, h1, h2⟩
  | succ f ih =>
    intro lo hi h1 h2 h3 h4 h5
    unfold bsF
    by_cases hlt : lo < hi
    · rw [if_pos hlt]
      cases hp : p ((lo + hi) / 2) with
      | true =>
        simp only [if_true]
        exact ih lo _ h1 (.inr hp) (by omega) (by omega) (by omega)
      | false =>
        simp only [Bool.false_eq_true, if_false]
        exact ih _ hi (.inr (by simpa using hp)) h2 (by omega) h4 (by omega)
    · rw [if_neg hlt]
      obtain rfl : lo = hi := by omega
      exact ⟨h4, h1, h2⟩
theorem atI_cnt {l : List It} (h : sortedB l = true) (key : Int) : atI l key = cnt l key := by
  obtain ⟨h1, h2, h3⟩ := bs_inv (fun i => decide (key ≤ (l.getD i zIt).k)) l.length l.length 0 l.length (.inl rfl) (.inl rfl) (by omega) (by omega) (by omega)
  refine cnt_uniq h h1 ?_ ?_
  · rcases h2 with e | e
    · exact .inl e
    · refine .inr ?_
      have e2 : ¬ key ≤ (itAt l (atI l key - 1)).k := by simpa [itAt, atI] using e
      omega
  · rcases h3 with e | e
    · exact .inl e
    · refine .inr ?_
      simpa [itAt, atI] using e
theorem nodeAt_walk (lf : Bool) (A : Option Addr) (c : Nat) (l : List It) (key : Int) (i : Nat) (is : Bool) (w : World) (hr : kIt.C w A l.length l) (e : atO lf l key = some (i, is)) :
    Calls Try.prog 58 #[.agg #[.bool lf, .slice A l.length c], .int .i64 key] w fun e w' => e = .returned (.tuple #[.int .i64 i, .bool is]) ∧ Below w.heap.size w w' := by
  unfold atO at e
  split at e
  · rename_i hs
    have h1 := at_walk lf A c l key w hr hs.2
    have hc := atI_cnt hs.1 key
    have h2 : atIs l key = isAt l key := by
      unfold atIs isAt
      rw [hc]
      congr 1
    have h3 : atF lf l key = ((i : Int), is) := by
      unfold atF
      rw [h2, hc]
      simp only [Option.some.injEq, Prod.mk.injEq] at e
      obtain ⟨e1, e2⟩ := e
      rw [← e1, ← e2]
      cases lf <;> cases isAt l key <;> simp
      all_goals (try (split <;> omega))
    rw [h3] at h1
    exact h1
  · cases e
set_option maxHeartbeats 4000000 in
set_option maxRecDepth 100000 in
theorem refAt_walk (lf : Bool) (A : Option Addr) (c : Nat) (l : List It) (key : Int) (i : Nat) (is : Bool) (w : World) (hr : kIt.C w A l.length l) (e : atO lf l key = some (i, is)) :
    Calls Try.prog 76 #[.agg #[.bool lf, .slice A l.length c], .int .i64 key] w fun e w' => e = .returned (.tuple #[.int .i64 i, .bool is]) ∧ Below w.heap.size w w' := by
  unfold atO at e
  by_cases hs : sortedB l = true ∧ l.length ≤ 1000
  · rw [if_pos hs] at e
    simp only [Option.some.injEq, Prod.mk.injEq] at e
    obtain ⟨e1, e2⟩ := e
    obtain ⟨c1, c2, c3⟩ := cnt_spec l key
    obtain ⟨W1, hW1⟩ : ∃ W1, W1 = w.alloc (.cells #[.bool lf, .slice A l.length c] 77) := ⟨_, rfl⟩
    have HB0 := Aside0.mk (show Below w.heap.size w W1 by rw [hW1]; exact below_alloc (Below.refl _ _) _)
    have HBN := Aside0.mk (show W1.heap[w.heap.size]? = some (.cells #[.bool lf, .slice A l.length c] 77) by rw [hW1]; exact blk_new w _)
    have HR1 := Aside0.mk (Kd.C_below hr HB0.out)
    have HS := Aside0.mk hs
    have HC := Aside0.mk (And.intro c1 (And.intro c2 c3))
    have HRES := Aside0.mk (And.intro e1 e2)
    have hW1' := Aside0.mk hW1
    have n0 := (blk_cell HBN.out 0).trans (show _ = some (Value.bool lf) from rfl)
    have n1 := (blk_cell HBN.out 1).trans (show _ = some (Value.slice A l.length c) from rfl)
    clear hr hW1 hs c1 c2 c3 e1 e2
    go_enter Try.func76, Try.ntmps76
    go_wp2
    rw [← hW1'.out]
    go_loopg [6, 7] l.length (fun g s6 s7 wr => ∃ k : Nat, s7 = .int .i64 k ∧ k + g = l.length ∧ s6 = .int .i64 (((l.take k).filter fun x => decide (x.k < key)).length : Nat) ∧ Aside0 (∀ i, i < k → (itAt l i).k ≠ key) ∧ Aside0 (wr = W1))
    case atStart => exact ⟨0, rfl, by omega, rfl, ⟨fun i h => by omega⟩, ⟨rfl⟩⟩
    case round =>
      obtain ⟨k, rfl, hk, rfl, HO, HE⟩ := hrel
      have he := HE.out
      subst he
      have hft := filter_take HS.out.1 key k (by omega)
      by_cases hlt : k < l.length
      · obtain ⟨g1, rfl⟩ : ∃ g1, gk = g1 + 1 := ⟨gk - 1, by omega⟩
        have hft2 := filter_take HS.out.1 key (k + 1) (by omega)
        have r1 : decide (k < l.length) = true := decide_eq_true hlt
        have r2 : (k < l.length) = True := eq_true hlt
        obtain ⟨ad, rfl, x0, x1⟩ := at_it HR1.out k hlt
        obtain ⟨x, hx⟩ : ∃ x, x = itAt l k := ⟨_, rfl⟩
        rw [← hx] at x0
        rw [hft]
        have HX := Aside0.mk hx
        have HK := Aside0.mk (And.intro hlt hk)
        have HFT2 := Aside0.mk hft2
        have HW := Aside0.mk (show wrap64 ((k : Int) + 1) = ((k + 1 : Nat) : Int) by have := HS.out.2; unfold wrap64; omega)
        obtain ⟨C, hC⟩ : ∃ C, C = min k (cnt l key) := ⟨_, rfl⟩
        rw [← hC]
        have HCC := Aside0.mk hC
        have HW2 := Aside0.mk (show wrap64 ((C : Int) + 1) = ((C + 1 : Nat) : Int) by have := HS.out.2; unfold wrap64; omega)
        by_cases ek : x.k = key
        · have q1 : (x.k == key) = true := beq_iff_eq.mpr ek
          have hck : cnt l key = k := by
            symm
            refine cnt_uniq HS.out.1 (by omega) ?_ (.inr (by rw [← hx]; omega))
            rcases Nat.eq_zero_or_pos k with h0 | h0
            · exact .inl h0
            · exact .inr (by have := sorted_lt HS.out.1 (i := k - 1) (j := k) (by omega) hlt; rw [← hx] at this; omega)
          have his : isAt l key = true := by unfold isAt; rw [hck, ← hx, ek]; simp [hlt]
          have HF := Aside0.mk (show i = k ∧ is = true by
            obtain ⟨e1, e2⟩ := HRES.out
            rw [his, hck] at e1
            rw [his] at e2
            exact ⟨by rw [← e1]; simp, e2.symm⟩)
          clear hx hlt hk hft hft2 hC ek hck his
          go_wp2
          go_ret2
          exact ⟨by rw [HF.out.1, HF.out.2]; rfl, HB0.out⟩
        · have q1 : (x.k == key) = false := beq_eq_false_iff_ne.mpr ek
          have HNE := Aside0.mk ek
          by_cases el : x.k < key
          · have d1 : decide (x.k < key) = true := decide_eq_true el
            have HN := Aside0.mk (show C + 1 = ((l.take (k + 1)).filter fun x => decide (x.k < key)).length by
              rw [hft2, hC]
              have : k < cnt l key := by
                rcases Nat.lt_or_ge k (cnt l key) with h | h
                · exact h
                · obtain ⟨c1, c2, c3⟩ := HC.out
                  have h3 := c3 (by omega)
                  rcases Nat.lt_or_ge (cnt l key) k with h4 | h4
                  · have := sorted_lt HS.out.1 h4 hlt; rw [← hx] at this; omega
                  · have h5 : cnt l key = k := (by omega); rw [h5, ← hx] at h3; omega
              omega)
            clear hx hlt hk hft hft2 hC ek el
            go_wp2
            go_roundg g1
            case measure => omega
            case rel => exact ⟨k + 1, by rw [HW.out], by have := HK.out; omega, by rw [HW2.out, HN.out], ⟨fun i hi => by rcases Nat.lt_or_ge i k with h | h; exact HO.out i h; obtain rfl : i = k := (by omega); rw [← HX.out]; exact HNE.out⟩, ⟨rfl⟩⟩
          · have d1 : decide (x.k < key) = false := decide_eq_false el
            have HN := Aside0.mk (show C = ((l.take (k + 1)).filter fun x => decide (x.k < key)).length by
              rw [hft2, hC]
              have : cnt l key ≤ k := by
                rcases Nat.lt_or_ge k (cnt l key) with h | h
                · obtain ⟨c1, c2, c3⟩ := HC.out
                  have := c2 k h; rw [← hx] at this; omega
                · exact h
              omega)
            clear hx hlt hk hft hft2 hC ek el
            go_wp2
            go_roundg g1
            case measure => omega
            case rel => exact ⟨k + 1, by rw [HW.out], by have := HK.out; omega, by rw [HN.out], ⟨fun i hi => by rcases Nat.lt_or_ge i k with h | h; exact HO.out i h; obtain rfl : i = k := (by omega); rw [← HX.out]; exact HNE.out⟩, ⟨rfl⟩⟩
      · have r1 : decide (k < l.length) = false := decide_eq_false hlt
        have r2 : (k < l.length) = False := eq_false hlt
        have hkl : k = l.length := by omega
        have hck : min k (cnt l key) = cnt l key := by have := HC.out.1; omega
        rw [hft, hck]
        have his : isAt l key = false := by
          unfold isAt
          by_cases h4 : cnt l key < l.length
          · rw [decide_eq_true h4, decide_eq_false (HO.out _ (by omega))]; rfl
          · rw [decide_eq_false h4]; rfl
        have HRES2 := Aside0.mk (show is = false ∧ (if lf = true then cnt l key else cnt l key - 1) = i by
          obtain ⟨e1, e2⟩ := HRES.out
          rw [his] at e1 e2
          exact ⟨e2.symm, by rw [← e1]; cases lf <;> simp⟩)
        obtain ⟨C, hC⟩ : ∃ C, C = cnt l key := ⟨_, rfl⟩
        rw [← hC] at HRES2 ⊢
        have hcm : C ≤ 1000 := by have := HC.out.1; have := HS.out.2; omega
        clear hlt hk hft hkl hck his hC
        cases lf with
        | true =>
          go_wp2
          go_ret2
          exact ⟨by rw [HRES2.out.1, ← HRES2.out.2]; rfl, HB0.out⟩
        | false =>
          by_cases h1 : 1 ≤ C
          · have hw : wrap64 ((C : Int) - 1) = ((C - 1 : Nat) : Int) := by unfold wrap64; omega
            have c5 : (0 ≤ (((C - 1 : Nat) : Int))) = True := eq_true (by omega)
            have c6 : (0 ≤ (C : Int) - 1) = True := eq_true (by omega)
            have HCS := Aside0.mk (show (C : Int) - 1 = ((C - 1 : Nat) : Int) by omega)
            have c7 : (1 ≤ C) = True := eq_true h1
            have c8 : (0 < C) = True := eq_true (by omega)
            have c9 : ((1 : Int) ≤ (C : Int)) = True := eq_true (by omega)
            go_wp2
            go_ret2
            refine ⟨?_, HB0.out⟩
            rw [HRES2.out.1, ← HRES2.out.2]
            first | rfl | (simp; done) | (simp; omega)
          · have h0 : C = 0 := by omega
            subst h0
            have hw : wrap64 (((0 : Nat) : Int) - 1) = -1 := by unfold wrap64; omega
            clear h1
            go_wp2
            go_ret2
            refine ⟨?_, HB0.out⟩
            rw [HRES2.out.1, ← HRES2.out.2]
            first | rfl | (simp; done)
  · rw [if_neg hs] at e; cases e
end Go.Proofs.Ytopkoganfnabgaa.H
namespace Go.Proofs.Ytopkoganfnabgaa.H
open Go.RowKit Go.Proofs.YtopkoganfnabgaaW.PrintWords Go.Proofs.YtopkoganfnabgaaW.PrintLast Go.Proofs.YtopkoganfnabgaaW.PrintMore
attribute [local go_sem] max2_int min2_int max_two min_two max_three min_three max_four min_four
set_option linter.unusedVariables false
set_option linter.unusedSimpArgs false
set_option maxHeartbeats 2000000 in
set_option maxRecDepth 100000 in
theorem grow_walk (n : Nat) (w : World) (hn : n ≤ 1000000) :
    Calls Try.prog 110 #[.slice none 0 0, .int .i64 (n : Int)] w fun e w' => ∃ v, e = .returned v ∧ Kd.R kIt 26 w' w.heap.size (fun _ => True) v [] ∧ Below w.heap.size w w' := by
  have hu27 := Try.underlying27
  have c0 : ((n : Int) < 0) = False := eq_false (by omega)
  have hw0 : wrap64 (n : Int) = (n : Int) := by unfold wrap64; omega
  by_cases h0 : n = 0
  · subst h0
    go_enter Try.func110, Try.ntmps110
    go_wp2
    go_ret
    exact ⟨_, rfl, Kd.R_nil _ _ _ _ _, Below.refl _ _⟩
  · have c1 : (0 < (n : Int)) = True := eq_true (by omega)
    obtain ⟨i0, hi, hzz⟩ := Option.map_eq_some_iff.1 info_it
    simp only [Prod.mk.injEq] at hzz
    obtain ⟨hz0, hz1, hz2⟩ := hzz
    have happ := Lib.run_append_nil_zeros (P := Try.prog) w 27 3 27 26 i0 (.agg #[.int .i64 0, .int .i64 0]) .i64 .i64 Try.underlying27 Try.underlying3 hi hz0 n (by omega) (by rw [hz1]; decide) (by omega) (by rw [hz2]; omega)
    generalize hcap : grownCap w n 0 26 = cap2 at happ
    have hcapge : n ≤ cap2 := by rw [← hcap]; exact grownCap_ge w _ 0 26
    have hcaple : cap2 ≤ maxLen := by rw [← hcap]; exact grownCap_le_maxLen w _ 0 26 (by unfold maxLen; omega)
    generalize hZ : (Builtin.zeroCells (Value.agg #[.int .i64 0, .int .i64 0]).cells n ++ Builtin.zeroCells (Value.agg #[.int .i64 0, .int .i64 0]).cells (cap2 - n)) = Z at happ
    have hZs : Z.size = cap2 * 2 := by rw [← hZ, Array.size_append, size_zeroCells, size_zeroCells, show (Value.agg #[.int .i64 0, .int .i64 0]).cells.size = 2 from rfl]; omega
    clear hcap hZ
    go_enter Try.func110, Try.ntmps110
    go_wp2_with (at_builtin; refine Lib.wpList_append_run _ rfl _ _ _ _ rfl _ _ rfl rfl _ _ happ ?_)
    go_ret
    exact ⟨_, rfl, ⟨fun _ _ => trivial, [], ⟨rfl, Or.inr ⟨w.heap.size, cap2, Z, rfl, Nat.le_refl _, blk_new w _, Nat.zero_le _, hcaple, hZs, by simp⟩⟩, Reps.none _ _⟩, pw_below_drewN (below_alloc (Below.refl _ _) _) 1⟩
set_option maxHeartbeats 2000000 in
set_option maxRecDepth 100000 in
theorem concat3_walk (g : Nat) (A1 A2 A3 : Option Addr) (c1 c2 c3 : Nat) (l1 l2 l3 : List It) (w : World) (hg : w.heap[g]? = some (.cells #[.slice A1 l1.length c1, .slice A2 l2.length c2, .slice A3 l3.length c3] 27 (0, 0)))
    (hr1 : Kd.C kIt w A1 l1.length l1) (hr2 : Kd.C kIt w A2 l2.length l2) (hr3 : Kd.C kIt w A3 l3.length l3) (h1 : l1.length ≤ 10000) (h2 : l2.length ≤ 10000) (h3 : l3.length ≤ 10000) :
    Calls Try.prog 94 #[.slice (some ⟨g, 0, none⟩) 3 3] w fun e w' => ∃ v, e = .returned v ∧ Kd.R kIt 26 w' w.heap.size (fun _ => True) v (l1 ++ l2 ++ l3) ∧ Below w.heap.size w w' := by
  have d0 := (blk_cell hg 0).trans (show _ = some (Value.slice A1 l1.length c1) from rfl)
  have d1 := (blk_cell hg 1).trans (show _ = some (Value.slice A2 l2.length c2) from rfl)
  have d2 := (blk_cell hg 2).trans (show _ = some (Value.slice A3 l3.length c3) from rfl)
  go_enter Try.func94, Try.ntmps94
  go_wp2
  have w1 : wrap64 (l1.length : Int) = (l1.length : Int) := by unfold wrap64; omega
  have w2 : wrap64 ((l1.length : Int) + (l2.length : Int)) = (l1.length : Int) + (l2.length : Int) := by unfold wrap64; omega
  have w3 : wrap64 ((l1.length : Int) + (l2.length : Int) + (l3.length : Int)) = (l1.length : Int) + (l2.length : Int) + (l3.length : Int) := by unfold wrap64; omega
  have u2 : decide ((l1.length : Int) + (l2.length : Int) < 0) = false := decide_eq_false (by omega)
  have u3 : decide ((l1.length : Int) + (l2.length : Int) + (l3.length : Int) < 0) = false := decide_eq_false (by omega)
  have t1 : ((l1.length : Int) < 0) = False := eq_false (by omega)
  have t2 : ((l1.length : Int) + (l2.length : Int) < 0) = False := eq_false (by omega)
  have t3 : ((l1.length : Int) + (l2.length : Int) + (l3.length : Int) < 0) = False := eq_false (by omega)
  have G := Aside0.mk (grow_walk (l1.length + l2.length + l3.length) w (by omega))
  rw [Int.natCast_add, Int.natCast_add] at G
  have D0 := Aside0.mk d0
  have D1 := Aside0.mk d1
  have D2 := Aside0.mk d2
  have HR1 := Aside0.mk hr1
  have HR2 := Aside0.mk hr2
  have HR3 := Aside0.mk hr3
  clear hg hr1 hr2 hr3
  refine wp_loop_rounds 4 ?_
  rw [rounds_succ]; go_wp2
  rw [rounds_succ]; go_wp2
  rw [rounds_succ]; go_wp2
  rw [rounds_succ]
  go_wp2_with (first | (go_at_call 110; (with_reducible refine G.out.mono ?_); rintro e W0 ⟨v0, rfl, ho, hb⟩; have HO0 := Aside0.mk ho; have HB0 := Aside0.mk hb; have d0 := (hb.cell (World.block_lt_of_cell? w _ D0.out)).trans D0.out; have d1 := (hb.cell (World.block_lt_of_cell? w _ D1.out)).trans D1.out; have d2 := (hb.cell (World.block_lt_of_cell? w _ D2.out)).trans D2.out; clear ho hb))
  refine wp_loop_rounds 4 ?_
  rw [rounds_succ]
  go_wp2_with (first | ((with_reducible refine gate_builtin (b := .append) (xs := #[.tmp 31, .tmp 32]) rfl ?_); at_builtin; refine Kd.R_append_rows kIt (w0 := w) w.heap.size rfl (.tmp 31) (.tmp 32) 27 26 (.agg #[(.int .i64 0), (.int .i64 0)]) 16 rfl Try.underlying27 info_it rfl (by decide) (by omega) v0 [] l1 _ _ _ (fun _ => True) (fun _ => False) rfl rfl HO0.out (Kd.C_below HR1.out HB0.out) (fun _ _ h => h) (fun _ h => h.elim) (fun _ _ => trivial) HB0.out (below_size HB0.out) (by simp; omega) ?_; intro v1 W1 ho hb hg hat; have HO1 := Aside0.mk ho; have HB1 := Aside0.mk hb; have d0 := (hb.cell (World.block_lt_of_cell? w _ D0.out)).trans D0.out; have d1 := (hb.cell (World.block_lt_of_cell? w _ D1.out)).trans D1.out; have d2 := (hb.cell (World.block_lt_of_cell? w _ D2.out)).trans D2.out; clear ho hb hg hat))
  rw [rounds_succ]
  go_wp2_with (first | ((with_reducible refine gate_builtin (b := .append) (xs := #[.tmp 31, .tmp 32]) rfl ?_); at_builtin; refine Kd.R_append_rows kIt (w0 := w) w.heap.size rfl (.tmp 31) (.tmp 32) 27 26 (.agg #[(.int .i64 0), (.int .i64 0)]) 16 rfl Try.underlying27 info_it rfl (by decide) (by omega) v1 ([] ++ l1) l2 _ _ _ (fun _ => True) (fun _ => False) rfl rfl HO1.out (Kd.C_below HR2.out HB1.out) (fun _ _ h => h) (fun _ h => h.elim) (fun _ _ => trivial) HB1.out (below_size HB1.out) (by simp; omega) ?_; intro v2 W2 ho hb hg hat; have HO2 := Aside0.mk ho; have HB2 := Aside0.mk hb; have d0 := (hb.cell (World.block_lt_of_cell? w _ D0.out)).trans D0.out; have d1 := (hb.cell (World.block_lt_of_cell? w _ D1.out)).trans D1.out; have d2 := (hb.cell (World.block_lt_of_cell? w _ D2.out)).trans D2.out; clear ho hb hg hat))
  rw [rounds_succ]
  go_wp2_with (first | ((with_reducible refine gate_builtin (b := .append) (xs := #[.tmp 31, .tmp 32]) rfl ?_); at_builtin; refine Kd.R_append_rows kIt (w0 := w) w.heap.size rfl (.tmp 31) (.tmp 32) 27 26 (.agg #[(.int .i64 0), (.int .i64 0)]) 16 rfl Try.underlying27 info_it rfl (by decide) (by omega) v2 ([] ++ l1 ++ l2) l3 _ _ _ (fun _ => True) (fun _ => False) rfl rfl HO2.out (Kd.C_below HR3.out HB2.out) (fun _ _ h => h) (fun _ h => h.elim) (fun _ _ => trivial) HB2.out (below_size HB2.out) (by simp; omega) ?_; intro v3 W3 ho hb hg hat; have HO3 := Aside0.mk ho; have HB3 := Aside0.mk hb; have d0 := (hb.cell (World.block_lt_of_cell? w _ D0.out)).trans D0.out; have d1 := (hb.cell (World.block_lt_of_cell? w _ D1.out)).trans D1.out; have d2 := (hb.cell (World.block_lt_of_cell? w _ D2.out)).trans D2.out; clear ho hb hg hat))
  rw [rounds_succ]; go_wp2
  go_ret
  exact ⟨_, rfl, HO3.out, HB3.out⟩
set_option maxHeartbeats 2000000 in
set_option maxRecDepth 100000 in
theorem with_walk (A0 A3 : Option Addr) (c0 c3 a g : Nat) (l0 l3 : List It) (w : World) (hr0 : Kd.C kIt w A0 l0.length l0) (hc0 : l0.length ≤ c0) (hr3 : Kd.C kIt w A3 l3.length l3) (h0 : l0.length ≤ 1000) (h3 : l3.length ≤ 1000) (ha : a + g ≤ l0.length) :
    Calls Try.prog 59 #[.slice A0 l0.length c0, .int .i64 (a : Int), .int .i64 (g : Int), .slice A3 l3.length c3] w fun e w' => ∃ v, e = .returned v ∧ Kd.R kIt 26 w' w.heap.size (fun _ => True) v (l0.take a ++ l3 ++ l0.drop (a + g)) ∧ Below w.heap.size w w' := by
  have hu27 := Try.underlying27
  have k1 := Kd.C_take (m := a) hr0 (by omega)
  have k2 := Kd.C_drop (m := a + g) (c := c0) hr0 (by omega) hc0
  have e1 : (l0.take a).length = a := by rw [List.length_take]; omega
  have e2 : (l0.drop (a + g)).length = l0.length - (a + g) := List.length_drop
  have HC := Aside0.mk (fun (W : World) (g' : Nat) (B : Option Addr) (q1 q2 q3 : Nat) hg (x1 : Kd.C kIt W A0 (l0.take a).length (l0.take a)) (x2 : Kd.C kIt W A3 l3.length l3) (x3 : Kd.C kIt W B (l0.drop (a+g)).length (l0.drop (a + g))) => concat3_walk g' A0 A3 B q1 q2 q3 (l0.take a) l3 (l0.drop (a + g)) W hg x1 x2 x3 (by rw [e1]; omega) (by omega) (by rw [e2]; omega))
  rw [e1, e2] at HC
  rw [e1] at k1
  rw [e2] at k2
  obtain ⟨j, hj⟩ : ∃ j, j = a + g := ⟨_, rfl⟩
  have w1 : wrap64 ((a : Int) + (g : Int)) = (j : Int) := by unfold wrap64; omega
  have w2 : IntKind.i64.wrap ((a : Int) + (g : Int)) = (j : Int) := by rw [IntKind.wrap_i64]; omega
  rw [← hj] at HC k2 ⊢
  have f1 : (a : Int) ≤ (l0.length : Int) := by omega
  have f2 : (a : Int) ≤ (c0 : Int) := by omega
  have f3 : (j : Int) ≤ (l0.length : Int) := by omega
  have f4 : (j : Int) ≤ (c0 : Int) := by omega
  have f5 : (0 : Int) ≤ (a : Int) := by omega
  have f6 : (0 : Int) ≤ (j : Int) := by omega
  have f7 : (l0.length : Int) ≤ (c0 : Int) := by omega
  clear hj ha e1 e2
  have HK1 := Aside0.mk k1
  have HR3 := Aside0.mk hr3
  clear k1 hr0 hr3
  by_cases hcj : c0 = j
  · subst hcj
    rw [if_pos rfl] at k2
    have hz : l0.length - c0 = 0 := by omega
    rw [hz] at HC k2
    clear hz
    have HK2 := Aside0.mk k2
    clear k2
    go_enter Try.func59, Try.ntmps59
    go_wp2
    go_region_held3 (fun w' => True) (exact trivial) (first | (go_at_call 94; (with_reducible refine (HC.out _ w.heap.size _ _ _ _ (by (with_reducible refine blk_drew ?_); exact (blk_new _ _)) (by (with_reducible refine Kd.C_drew ?_); (with_reducible refine Kd.C_alloc ?_ _); exact HK1.out) (by (with_reducible refine Kd.C_drew ?_); (with_reducible refine Kd.C_alloc ?_ _); exact HR3.out) (by (with_reducible refine Kd.C_drew ?_); (with_reducible refine Kd.C_alloc ?_ _); exact HK2.out)).mono ?_); rintro e w2 ⟨v, rfl, ho, hb⟩; have HO := Aside0.mk ho; have HB := Aside0.mk (show Below w.heap.size w w2 from below_step (below_drew1 (below_alloc (Below.refl _ _) _)) hb); clear ho hb))
    all_goals
      go_wp2
      go_ret
      exact ⟨_, rfl, Kd.R_lower HO.out (below_size (below_drew1 (below_alloc (Below.refl _ _) _))), HB.out⟩
  · rw [if_neg hcj] at k2
    have HK2 : Aside0 (Kd.C kIt w (Option.map (fun x => x.add (j * 2)) A0) (l0.length - j) (l0.drop j)) := Aside0.mk k2
    clear k2
    go_enter Try.func59, Try.ntmps59
    go_wp2
    go_region_held3 (fun w' => True) (exact trivial) (first | (go_at_call 94; (with_reducible refine (HC.out _ w.heap.size _ _ _ _ (by (with_reducible refine blk_drew ?_); exact (blk_new _ _)) (by (with_reducible refine Kd.C_drew ?_); (with_reducible refine Kd.C_alloc ?_ _); exact HK1.out) (by (with_reducible refine Kd.C_drew ?_); (with_reducible refine Kd.C_alloc ?_ _); exact HR3.out) (by (with_reducible refine Kd.C_drew ?_); (with_reducible refine Kd.C_alloc ?_ _); exact HK2.out)).mono ?_); rintro e w2 ⟨v, rfl, ho, hb⟩; have HO := Aside0.mk ho; have HB := Aside0.mk (show Below w.heap.size w w2 from below_step (below_drew1 (below_alloc (Below.refl _ _) _)) hb); clear ho hb))
    all_goals
      go_wp2
      go_ret
      exact ⟨_, rfl, Kd.R_lower HO.out (below_size (below_drew1 (below_alloc (Below.refl _ _) _))), HB.out⟩
end Go.Proofs.Ytopkoganfnabgaa.H
namespace Go.Proofs.Ytopkoganfnabgaa.H
open Go.RowKit Go.Proofs.YtopkoganfnabgaaW.PrintWords Go.Proofs.YtopkoganfnabgaaW.PrintLast Go.Proofs.YtopkoganfnabgaaW.PrintMore
attribute [local go_sem] max2_int min2_int max_two min_two max_three min_three max_four min_four
set_option linter.unusedVariables false
set_option linter.unusedSimpArgs false
abbrev Tr := Option Addr × Nat × Nat
def trV (x : Tr) : Value := .slice x.1 x.2.1 x.2.2
/-- Rows told by their cells alone. -/
def kSl : Kd Tr := Kd.scalar trV (fun _ => rfl)
def RowsC (w : World) : List Tr → List (List It) → Prop
  | [], [] => True
  | t :: ts, r :: rs => (t.2.1 = r.length ∧ r.length ≤ t.2.2 ∧ kIt.C w t.1 r.length r) ∧ RowsC w ts rs
  | _, _ => False
theorem RowsC_below {w w1 : World} (hb : Below w.heap.size w w1) : ∀ {ts : List Tr} {rs : List (List It)}, RowsC w ts rs → RowsC w1 ts rs
  | [], [], h => h
  | _ :: _, _ :: _, h => ⟨⟨h.1.1, h.1.2.1, Kd.C_below h.1.2.2 hb⟩, RowsC_below hb h.2⟩
  | [], _ :: _, h => h.elim
  | _ :: _, [], h => h.elim
theorem sl_one (W : World) (x : Tr) : kSl.C (W.alloc (.cells #[trV x] 27)) (some ⟨W.heap.size, 0, none⟩) 1 [x] := by
  refine Kd.C_of_reads (d := (none, 0, 0)) ⟨rfl, by decide, fun _ => ⟨_, rfl, fun j hj => ?_⟩⟩
  obtain rfl : j = 0 := by omega
  show (W.alloc (.cells #[trV x] 27)).cell? ⟨W.heap.size, 0, none⟩ = _
  rw [blk_cell (blk_new _ _) 0]
  rfl
theorem at_sl {w : World} {A : Option Addr} {n : Nat} {ts : List Tr} (h : kSl.C w A n ts) (i : Nat) (hi : i < n) : ∃ ad t, A = some ad ∧ ts[i]? = some t ∧ w.cell? (ad.add i) = some (.slice t.1 t.2.1 t.2.2) := by
  have hl := Kd.C_len h
  obtain ⟨ad, e, hc⟩ := ReadsOf.at_ (Kd.reads_of_C (enc := trV) (d := ((none, 0, 0) : Tr)) (h1 := fun _ => rfl) h) (i : Int) (by omega) (by omega)
  rw [Int.toNat_natCast] at hc
  refine ⟨ad, ts[i], e, List.getElem?_eq_getElem (by omega), ?_⟩
  rw [hc]
  unfold rdOf
  rw [Int.toNat_natCast, List.getD_eq_getElem?_getD, List.getElem?_eq_getElem (by omega)]
  rfl
theorem info_sl : (Try.prog.info? 27).map (fun i => (i.zero, i.size, i.bytes)) = some (some (.slice none 0 0), 1, 24) := by kernel_rfl
set_option maxHeartbeats 2000000 in
theorem refSplit_small (A : Option Addr) (c : Nat) (l : List It) (w : World) (hr : kIt.C w A l.length l) (hc : l.length ≤ c) (h0 : 0 < l.length) (h4 : l.length ≤ 4) :
    Calls Try.prog 78 #[.slice A l.length c] w fun e w' => ∃ B, e = .returned (.slice B 1 1) ∧ kSl.C w' B 1 [(A, l.length, c)] ∧ Below w.heap.size w w' := by
  have q1 : ((l.length : Int) == 0) = false := beq_eq_false_iff_ne.mpr (by omega)
  have q2 : (l.length == 0) = false := beq_eq_false_iff_ne.mpr (by omega)
  have q3 : decide ((l.length : Int) ≤ 4) = true := decide_eq_true (by omega)
  have q4 : decide (l.length ≤ 4) = true := decide_eq_true h4
  have H1 := Aside0.mk (sl_one w (A, l.length, c))
  clear hr hc h0 h4
  go_enter Try.func78, Try.ntmps78
  go_wp2
  go_ret
  exact ⟨_, rfl, H1.out, by repeat (first | (with_reducible exact Below.refl _ _) | (with_reducible refine below_alloc ?_ _) | (with_reducible refine below_drew1 ?_) | (with_reducible refine pw_below_drewN ?_ _) | fail)⟩
end Go.Proofs.Ytopkoganfnabgaa.H
namespace Go.Proofs.Ytopkoganfnabgaa.H
open Go.RowKit Go.Proofs.YtopkoganfnabgaaW.PrintWords Go.Proofs.YtopkoganfnabgaaW.PrintLast Go.Proofs.YtopkoganfnabgaaW.PrintMore
attribute [local go_sem] max2_int min2_int max_two min_two max_three min_three max_four min_four
set_option linter.unusedVariables false
set_option linter.unusedSimpArgs false
theorem choose_list {α : Type} (n : Nat) (Q : Nat → α → Prop) (h : ∀ i, i < n → ∃ a, Q i a) : ∃ l : List α, l.length = n ∧ ∀ i a, l[i]? = some a → Q i a := by
  induction n with
  | zero => exact ⟨[], rfl, fun i a e => by simp at e⟩
  | succ n ih =>
    obtain ⟨l, hl, hq⟩ := ih (fun i hi => h i (by omega))
    obtain ⟨a, ha⟩ := h n (by omega)
    refine ⟨l ++ [a], by simp [hl], fun i b e => ?_⟩
    by_cases hi : i < l.length
    · rw [List.getElem?_append_left hi] at e; exact hq i b e
    · rw [List.getElem?_append_right (by omega)] at e
      have : i - l.length = 0 := by
        rcases Nat.eq_zero_or_pos (i - l.length) with h | h
        · exact h
        · rw [List.getElem?_eq_none (by simp; omega)] at e; cases e
      rw [this] at e
      have hin : i = n := by omega
      subst hin
      simp at e
      rw [← e]; exact ha
theorem run_copy_rows {P : Program} (w : World) (dT sT ty elem : TypeId) (sz g o dLen dCap : Nat) (a : Addr) (sLen sCap : Nat) (cur : Array Value) (t : TypeId) (cs : List Value)
    (hu : P.underlying dT = some (.slice elem)) (hs : (P.info? elem).map (·.size) = some sz)
    (hg : w.heap[g]? = some (.cells cur t (0, 0))) (hn : cs.length = Nat.min sLen dLen * sz)
    (hsrc : ∀ j v, cs[j]? = some v → w.cell? (a.add j) = some v) (hfit : o + cs.length ≤ cur.size) (h1 : ∀ v ∈ cs, v.oneCell' = true) :
    (Builtin.copy_ #[dT, sT] ty #[.slice (some ⟨g, o, none⟩) dLen dCap, .slice (some a) sLen sCap]).run P w =
      .ok (goInt (Nat.min sLen dLen)) (w.setRow g (cur.toList.take o ++ cs ++ cur.toList.drop (o + cs.length)).toArray) := by
  have hl := run_loadCells_list (P := P) w a cs hsrc
  have hst := run_storeCells_at P g o t cs 0 cur w hg (by simpa using hfit) h1
  cases hq : P.info? elem with
  | none => simp [hq] at hs
  | some i =>
    have hi : i.size = sz := by simpa [hq] using hs
    simp [Builtin.copy_, run_underlying hu, Builtin.lenOf, Builtin.firstCells, sizeOf, typeInfo, hq, hi, ← hn, hl, hst]
section
variable {P : Program} {ops : Array Oper} {rest : List Oper} {o : Oper} {a : Act} {Q : Exit → Act → World → Prop} {α : Type}
theorem R_copy_full (d : Kd α) {w0 W : World} (base : Nat) (hgd : o.guard = none) (s x : Operand) (t t' e : TypeId)
    (ho : o.op = .call { callee := .builtin .copy, args := #[s, x], argTypes := #[t, t'] }) (ht : P.underlying t = some (.slice e)) (hinfo : (P.info? e).map (·.size) = some d.sz) (hs0 : 0 < d.sz)
    (v : Value) (xs ys : List α) (A : Option Addr) (c : Nat) (ok okp : Nat → Prop) (hs : a.eval s = v) (hx : a.eval x = .slice A xs.length c)
    (HO : Kd.R d e W base ok v xs) (HR : ReadsRow (d.M W base okp) d.sz W A xs.length ys) (hn0 : 0 < xs.length) (hokp : ∀ k, okp k → ok k ∧ some k ≠ v.ownBlock) (HB : Below base w0 W) (hbase : base ≤ W.heap.size)
    (h : ∀ w1, Kd.R d e w1 base ok v ys → Below base w0 w1 → W.grownBy w1 v.ownBlock → wpList P ops Q rest (a.put o.dst (goInt xs.length)) w1) :
    wpList P ops Q (o :: rest) a W := by
  have hm : ys.length = xs.length := HR.1
  obtain ⟨hok, inner, hown, hr⟩ := HO
  obtain ⟨ad, rfl, _⟩ := HR.2.2 hn0
  obtain ⟨news, hnr, hnc⟩ := ReadsRow.inner_ HR
  have hone : ∀ u ∈ news, u.oneCell' = true := by
    intro u hu
    obtain ⟨q, hq, rfl⟩ := List.mem_iff_getElem.1 hu
    have hql : q / d.sz < ys.length := by
      rw [Nat.div_lt_iff_lt_mul hs0]
      rw [← hnr.1]
      exact hq
    have hc := hnr.2 (q / d.sz) _ (List.getElem?_eq_getElem hql)
    refine d.K_one (d.K_of_M hc) _ ?_
    rw [List.mem_iff_getElem?]
    refine ⟨q % d.sz, ?_⟩
    rw [List.getElem?_take, if_pos (Nat.mod_lt _ hs0), List.getElem?_drop, Nat.mul_comm, Nat.div_add_mod, List.getElem?_eq_getElem hq]
  have hob := own_base hown
  rcases hown.2 with ⟨_, h0⟩ | ⟨g, cap, cur, rfl, hbg, hg, hnc2, hcm, hcs, htk⟩
  · omega
  have hnl : news.length = xs.length * d.sz := by rw [hnr.1, hm]
  have hle : xs.length * d.sz ≤ cap * d.sz := Nat.mul_le_mul_right _ hnc2
  have hrun := run_copy_rows (P := P) W t t' o.type e d.sz g 0 xs.length cap ad xs.length c cur e news ht hinfo hg (by rw [hnl]; simp [Nat.min_def]) hnc (by omega) hone
  rw [show Nat.min xs.length xs.length = xs.length from Nat.min_self _] at hrun
  generalize hw1 : W.setRow g _ = w1 at hrun
  have hgr : W.grownBy w1 (some g) := by
    subst hw1
    exact ⟨rfl, rfl, rfl, by simp [World.setRow], fun k hk hne => setRow_other W g k _ (by intro he; subst he; exact hne rfl)⟩
  have hblk : w1.heap[g]? = some (.cells (cur.toList.take 0 ++ news ++ cur.toList.drop (0 + news.length)).toArray e (0, 0)) := by
    subst hw1
    exact setRow_heap _ _ cur _ e (0, 0) hg
  refine wpList_plain hgd fun K hK => ?_
  unfold Oper.wp execOp
  simp only [ho, resolve, invoke, builtin, Sem.run_bind, Sem.run_pure, Result.andThen_ok, List.map_toArray, List.map_cons, List.map_nil, hs, hx, hrun]
  refine hK _ _ (h w1 ⟨hok, news, ⟨by rw [hnl, hm], Or.inr ⟨g, cap, _, by rw [hm], hbg, hblk, by omega, hcm, ?_, ?_⟩⟩, ?_⟩ (HB.grown hgr hbase hob) hgr)
  · simp; omega
  · simp [hm, ← hnl]
  · refine hnr.imp_ (fun q c hq => ?_)
    have h1 := d.M_move (w1 := w1) (fun k hk => hgr.block k hk.2.2.1 (hokp k hk.1).2) (d.M_bound hq)
    exact d.M_mono (fun k hk => hokp k hk.1) h1
end
/-- A cell as its cells say. -/
structure Rw where
  ref : Int
  pin : Bool
  leaf : Bool
  tr : Tr
def zRw : Rw := ⟨0, false, false, (none, 0, 0)⟩
def kRw : Kd Rw := (Kd.pair (Kd.int .i64) (Kd.pair Kd.bool (Kd.pair Kd.bool kSl))).iso (fun x => (x.ref, x.pin, x.leaf, x.tr))
def CellC (w : World) (x : Rw) (c : Cl) : Prop := x.ref = c.ref ∧ x.pin = c.pin ∧ x.leaf = c.n.leaf ∧ x.tr.2.1 = c.n.it.length ∧ c.n.it.length ≤ x.tr.2.2 ∧ kIt.C w x.tr.1 c.n.it.length c.n.it
def CellsC (w : World) (rc : List Rw) (l : List Cl) : Prop := rc.length = l.length ∧ ∀ i, i < l.length → CellC w (rc.getD i zRw) (l.getD i zCl)
theorem CellsC_below {w w1 : World} {rc : List Rw} {l : List Cl} (h : CellsC w rc l) (hb : Below w.heap.size w w1) : CellsC w1 rc l :=
  ⟨h.1, fun i hi => by obtain ⟨a, b, c, d, e, f⟩ := h.2 i hi; exact ⟨a, b, c, d, e, Kd.C_below f hb⟩⟩
theorem CellsC_set {w : World} {rc : List Rw} {l : List Cl} (h : CellsC w rc l) (p : Nat) {x : Rw} {c : Cl} (hx : CellC w x c) : CellsC w (rc.set p x) (l.set p c) := by
  refine ⟨by rw [List.length_set, List.length_set, h.1], fun i hi => ?_⟩
  rw [List.length_set] at hi
  rw [List.getD_eq_getElem?_getD, List.getD_eq_getElem?_getD, List.getElem?_set, List.getElem?_set]
  by_cases e : p = i
  · subst e
    rw [if_pos rfl, if_pos (by rw [h.1]; exact hi), if_pos rfl, if_pos hi]
    exact hx
  · rw [if_neg e, if_neg e]
    have := h.2 i hi
    rwa [List.getD_eq_getElem?_getD, List.getD_eq_getElem?_getD] at this
theorem at_rw {w : World} {A : Option Addr} {n : Nat} {l : List Rw} (h : kRw.C w A n l) (i : Nat) (hi : i < n) :
    ∃ ad, A = some ad ∧ w.cell? (ad.add (i * 4)) = some (.int .i64 (l.getD i zRw).ref) ∧ w.cell? ⟨(ad.add (i * 4)).block, (ad.add (i * 4)).off + 1, none⟩ = some (.bool (l.getD i zRw).pin) ∧
      w.cell? ⟨(ad.add (i * 4)).block, (ad.add (i * 4)).off + 2, none⟩ = some (.bool (l.getD i zRw).leaf) ∧ w.cell? ⟨(ad.add (i * 4)).block, (ad.add (i * 4)).off + 2 + 1, none⟩ = some (.slice (l.getD i zRw).tr.1 (l.getD i zRw).tr.2.1 (l.getD i zRw).tr.2.2) := by
  obtain ⟨ad, c, rfl, _, hK, hc⟩ := Kd.C_get h zRw (i : Int) (by omega) (by omega)
  rw [Int.toNat_natCast] at hK hc
  obtain ⟨c0, c1, rfl, rfl, c2, c3, rfl, rfl, c4, c5, rfl, rfl, rfl⟩ := hK
  exact ⟨ad, rfl, hc 0 _ rfl, by rw [← add_field _ _ 1 (by omega)]; exact hc 1 _ rfl, by rw [← add_field _ _ 2 (by omega)]; exact hc 2 _ rfl, by rw [show (ad.add (i * 4)).off + 2 + 1 = (ad.add (i * 4)).off + 3 from rfl, ← add_field _ _ 3 (by omega)]; exact hc 3 _ rfl⟩
/-- A heap's cells, told by their cells. -/
theorem rw_of_cl {w : World} {A : Option Addr} {n : Nat} {l : List Cl} (h : kCl.C w A n l) : ∃ rc, kRw.C w A n rc ∧ CellsC w rc l := by
  have hl := Kd.C_len h
  have key : ∀ i, i < n → ∃ x : Rw, CellC w x (l.getD i zCl) ∧ ∀ ad, A = some ad → ∀ j u, [Value.int .i64 x.ref, .bool x.pin, .bool x.leaf, trV x.tr][j]? = some u → w.cell? (ad.add (i * 4 + j)) = some u := by
    intro i hi
    obtain ⟨ad, c, rfl, _, hK, hc⟩ := Kd.C_get h zCl (i : Int) (by omega) (by omega)
    rw [Int.toNat_natCast] at hK hc
    obtain ⟨c0, c1, rfl, rfl, c2, c3, rfl, rfl, c4, c5, rfl, rfl, B, cap, rfl, hl, hr⟩ := hK
    refine ⟨⟨(l.getD i zCl).ref, (l.getD i zCl).pin, (l.getD i zCl).n.leaf, (B, (l.getD i zCl).n.it.length, cap)⟩, ⟨rfl, rfl, rfl, rfl, hl, hr⟩, fun ad' e j u hu => ?_⟩
    cases e
    exact hc j u hu
  obtain ⟨rc, h1, h2⟩ := choose_list n _ key
  refine ⟨rc, ⟨h1, h.2.1, fun hp => ?_⟩, by rw [h1, hl], fun i hi => ?_⟩
  · obtain ⟨ad, e, _⟩ := h.2.2 hp
    refine ⟨ad, e, fun j p hj => ⟨[.int .i64 p.ref, .bool p.pin, .bool p.leaf, trV p.tr], rfl, ⟨_, _, rfl, rfl, _, _, rfl, rfl, _, _, rfl, rfl, rfl⟩, fun i u hu => (h2 j p hj).2 ad e i u hu⟩⟩
  · rw [List.getD_eq_getElem?_getD, List.getElem?_eq_getElem (by omega : i < rc.length)]
    exact (h2 i _ (List.getElem?_eq_getElem (by omega))).1
theorem cl_of_rw {w : World} {A : Option Addr} {n : Nat} {l : List Cl} {rc : List Rw} (h : kRw.C w A n rc) (hc : CellsC w rc l) : kCl.C w A n l := by
  have hl := Kd.C_len h
  have h1 := hc.1
  refine ⟨by omega, h.2.1, fun hp => ?_⟩
  obtain ⟨ad, e, hcc⟩ := h.2.2 hp
  refine ⟨ad, e, fun j p hj => ?_⟩
  have hjl : j < l.length := (List.getElem?_eq_some_iff.1 hj).1
  obtain ⟨c, h3, hK, h5⟩ := hcc j rc[j] (List.getElem?_eq_getElem (by omega))
  have hx := hc.2 j hjl
  rw [List.getD_eq_getElem?_getD, List.getElem?_eq_getElem (by omega : j < rc.length), List.getD_eq_getElem?_getD, hj] at hx
  simp only [Option.getD_some] at hx
  obtain ⟨c0, c1, rfl, rfl, c2, c3, rfl, rfl, c4, c5, rfl, rfl, rfl⟩ := hK
  obtain ⟨e1, e2, e3, e4, e5, e6⟩ := hx
  refine ⟨_, h3, ?_, h5⟩
  refine ⟨_, _, rfl, by show [Value.int .i64 rc[j].ref] = [.int .i64 p.ref]; rw [e1], _, _, rfl, by show [Value.bool rc[j].pin] = [.bool p.pin]; rw [e2], _, _, rfl, by show [Value.bool rc[j].leaf] = [.bool p.n.leaf]; rw [e3], rc[j].tr.1, rc[j].tr.2.2, ?_, e5, e6⟩
  show [trV rc[j].tr] = _
  unfold trV
  rw [e4]
end Go.Proofs.Ytopkoganfnabgaa.H
namespace Go.Proofs.Ytopkoganfnabgaa.H
open Go.RowKit Go.Proofs.YtopkoganfnabgaaW.PrintWords Go.Proofs.YtopkoganfnabgaaW.PrintLast Go.Proofs.YtopkoganfnabgaaW.PrintMore
attribute [local go_sem] max2_int min2_int max_two min_two max_three min_three max_four min_four
set_option linter.unusedVariables false
set_option linter.unusedSimpArgs false
/-- A heap that is changed: its block b, its row g, what it is; w0: the world in which its nodes' rows lay already. -/
def OwnS (w0 W : World) (b g cap : Nat) (h : Hp) : Prop :=
  ∃ rc, W.heap[b]? = some (.cells #[.slice (some ⟨g, 0, none⟩) h.c.length cap, .int .i64 h.keep] 127) ∧ kRw.R 79 W w0.heap.size (fun _ => True) (.slice (some ⟨g, 0, none⟩) h.c.length cap) rc ∧ CellsC w0 rc h.c ∧ Below w0.heap.size w0 W ∧ w0.heap.size ≤ b ∧ 0 < h.c.length
theorem info_cl_sz : (Try.prog.info? 79).map (·.size) = some 4 := by kernel_rfl
theorem zrw_M (w : World) (base : Nat) (ok : Nat → Prop) : kRw.M w base ok zRw (Value.agg #[.int .i64 0, .bool false, .bool false, .slice none 0 0]).cells.toList := ⟨[.int .i64 0], [.bool false, .bool false, .slice none 0 0], rfl, rfl, [.bool false], [.bool false, .slice none 0 0], rfl, rfl, [.bool false], [.slice none 0 0], rfl, rfl, rfl⟩
set_option maxHeartbeats 4000000 in
set_option maxRecDepth 100000 in
theorem own_walk (A : Option Addr) (c : Nat) (h : Hp) (w0 w : World) (hr0 : kCl.C w0 A h.c.length h.c) (hb0 : Below w0.heap.size w0 w) (h0 : 0 < h.c.length) (hl : h.c.length ≤ 2000) :
    Calls Try.prog 84 #[.agg #[.slice A h.c.length c, .int .i64 h.keep]] w fun e w' => ∃ b g cap, e = .returned (.pointer (some ⟨b, 0, none⟩)) ∧ OwnS w0 w' b g cap h ∧ Below w.heap.size w w' ∧ w.heap.size ≤ b ∧ w.heap.size ≤ g := by
  obtain ⟨rc, hrc, hcc⟩ := rw_of_cl hr0
  obtain ⟨W1, hW1⟩ : ∃ W1, W1 = w.alloc (.cells #[.slice A h.c.length c, .int .i64 h.keep] 24) := ⟨_, rfl⟩
  have HB0 := Aside0.mk (show Below w.heap.size w W1 by rw [hW1]; exact below_alloc (Below.refl _ _) _)
  have HBH := Aside0.mk (show W1.heap[w.heap.size]? = some (.cells #[.slice A h.c.length c, .int .i64 h.keep] 24) by rw [hW1]; exact blk_new w _)
  have HRC := Aside0.mk (Kd.C_below hrc (below_step hb0 HB0.out))
  have HB00 := Aside0.mk hb0
  have HCC := Aside0.mk hcc
  have HL := Aside0.mk (And.intro h0 hl)
  have c0 := (blk_cell HBH.out 0).trans (show _ = some (Value.slice A h.c.length c) from rfl)
  have hW1' := Aside0.mk hW1
  clear hr0 hrc hcc hW1 h0 hl hb0
  go_enter Try.func84, Try.ntmps84
  go_upto_region 1 with (fail)
  rw [← hW1'.out]
  go_upto_region 2 with (first | ((with_reducible refine gate_dst (N := 7) rfl ?_); refine Kd.R_make kRw w.heap.size 79 rfl (N := 7) rfl 22 _ _ rfl (h.c.length : Int) rfl rfl Try.underlying22 (.agg #[.int .i64 0, .bool false, .bool false, .slice none 0 0]) 48 info_cl rfl (by decide) (by decide) zRw (ok := fun _ => True) (okp := fun _ => False) (zrw_M _ _ _) (fun _ h => h.elim) trivial (by omega) (by have := HL.out; rw [Int.toNat_natCast]; omega) HB0.out HB0.out.size ?_; intro v1 w5 ho hb hg hat; have HO5 := Aside0.mk ho; have HB5 := Aside0.mk hb; have HG5 := Aside0.mk hg; clear ho hb hg hat) | fail)
  have ho := HO5.out
  rw [Int.toNat_natCast] at ho
  obtain ⟨xs, hxs⟩ : ∃ xs, xs = List.replicate h.c.length zRw := ⟨_, rfl⟩
  have hxl : xs.length = h.c.length := by rw [hxs, List.length_replicate]
  rw [← hxs] at ho
  obtain ⟨g, cap, rfl, hg, hglt, _⟩ := Kd.R_form ho (by rw [hxl]; exact HL.out.1)
  rw [hxl] at ho ⊢
  have HX := Aside0.mk hxl
  have HO6 := Aside0.mk ho
  have HG := Aside0.mk hg
  have hb1 : Below W1.heap.size W1 w5 := (Below.refl _ W1).grown HG5.out (Nat.le_refl _) (fun k hk => by cases hk)
  have d0 := bcell hb1 c0
  have HBW := Aside0.mk (blk_below HBH.out hb1)
  have d1 := (blk_cell HBW.out 1).trans (show _ = some (Value.int .i64 h.keep) from rfl)
  have HRC5 := Aside0.mk (Kd.C_below HRC.out hb1)
  clear ho hxs hxl hg hglt HO5 c0 hb1
  go_wp2_with (first | ((with_reducible refine gate_dst (N := 11) rfl ?_); refine R_copy_full kRw (w0 := w) w.heap.size rfl (.tmp 8) (.tmp 10) 22 22 79 rfl Try.underlying22 info_cl_sz (by decide) (.slice (some ⟨g, 0, none⟩) h.c.length cap) xs rc A c (fun _ => True) (fun _ => False) rfl (congrArg (fun k => Value.slice A k c) HX.out.symm) HO6.out (by rw [HX.out]; exact HRC5.out) (by rw [HX.out]; exact HL.out.1) (fun _ h => h.elim) HB5.out HB5.out.size ?_; intro w7 ho hb hg; have HO7 := Aside0.mk ho; have HB7 := Aside0.mk hb; have d2 := (blk_cell (blk_grown HBW.out hg (Kd.R_ne HO6.out HBW.out (by decide))) 1).trans (show _ = some (Value.int .i64 h.keep) from rfl); clear ho hb hg) | fail)
  go_ret
  exact ⟨w7.heap.size, g, cap, rfl, ⟨rc, blk_new _ _, Kd.R_lower (Kd.R_alloc HO7.out _) HB00.out.size, HCC.out, below_step HB00.out (below_alloc HB7.out _), Nat.le_trans HB00.out.size HB7.out.size, HL.out.1⟩, below_alloc HB7.out _, HB7.out.size, HG.out⟩
end Go.Proofs.Ytopkoganfnabgaa.H
namespace Go.Proofs.Ytopkoganfnabgaa.H
open Go.RowKit Go.Proofs.YtopkoganfnabgaaW.PrintWords Go.Proofs.YtopkoganfnabgaaW.PrintLast Go.Proofs.YtopkoganfnabgaaW.PrintMore
attribute [local go_sem] max2_int min2_int max_two min_two max_three min_three max_four min_four
set_option linter.unusedVariables false
set_option linter.unusedSimpArgs false
def cellsRw (x : Rw) : List Value := [.int .i64 x.ref, .bool x.pin, .bool x.leaf, trV x.tr]
theorem kRw_M (w : World) (base : Nat) (ok : Nat → Prop) (x : Rw) : kRw.M w base ok x (cellsRw x) := ⟨_, _, rfl, rfl, _, _, rfl, rfl, _, _, rfl, rfl, rfl⟩
theorem kRw_M_eq {w : World} {base : Nat} {ok : Nat → Prop} {x : Rw} {cs : List Value} (h : kRw.M w base ok x cs) : cs = cellsRw x := by
  obtain ⟨c0, c1, rfl, rfl, c2, c3, rfl, rfl, c4, c5, rfl, rfl, rfl⟩ := h
  rfl
theorem rw_cell {W : World} {base g n cap : Nat} {rc : List Rw} (h : kRw.R 79 W base (fun _ => True) (.slice (some ⟨g, 0, none⟩) n cap) rc) (i : Nat) (hi : i < n) :
    (∀ j u, (cellsRw (rc.getD i zRw))[j]? = some u → W.cell? ⟨g, i * 4 + j, none⟩ = some u) ∧ ∀ j, W.frozen? ⟨g, i * 4 + j, none⟩ = false := by
  obtain ⟨c, _, hM, hc, hf⟩ := Kd.R_elem h zRw (i : Int) (by omega) (by omega)
  rw [Int.toNat_natCast] at hM hc hf
  rw [kRw_M_eq hM] at hc
  exact ⟨hc, hf⟩
theorem rw_put {W : World} {base g n cap : Nat} {rc : List Rw} (h : kRw.R 79 W base (fun _ => True) (.slice (some ⟨g, 0, none⟩) n cap) rc) (i : Nat) (hi : i < n) (j : Nat) (hj : j < 4) (u : Value) (x' : Rw) (hx : cellsRw x' = (cellsRw (rc.getD i zRw)).set j u) :
    kRw.R 79 (W.setCell ⟨g, i * 4 + j, none⟩ u) base (fun _ => True) (.slice (some ⟨g, 0, none⟩) n cap) (rc.set i x') ∧ W.grownBy (W.setCell ⟨g, i * 4 + j, none⟩ u) (some g) := by
  obtain ⟨hc, _⟩ := rw_cell h i hi
  have hs := Kd.R_seg (okp := fun _ => False) h (i : Int) (by omega) (by omega) (c := cellsRw (rc.getD i zRw)) (seg := [u]) (j := j) rfl (by rw [Int.toNat_natCast]; exact hc) (by show j + 1 ≤ 4; omega) (x' := x') (by
    have e : (cellsRw (rc.getD i zRw)).take j ++ [u] ++ (cellsRw (rc.getD i zRw)).drop (j + [u].length) = cellsRw x' := by
      rw [hx, List.set_eq_take_append_cons_drop, if_pos (show j < (cellsRw (rc.getD i zRw)).length from hj)]
      simp
    rw [e]
    exact kRw_M _ _ _ _) (fun _ h => h.elim)
  rw [Int.toNat_natCast] at hs
  exact hs
theorem keep_row {W W' : World} {g b : Nat} (hg : W.grownBy W' (some g)) : KeepBut W W' g none := ⟨hg.size, fun i hi hne _ => hg.block i hi (by simpa using hne)⟩
/-- A Ref more, in the memory. -/
theorem own_more {w0 W : World} {b g cap i : Nat} {h : Hp} (ho : OwnS w0 W b g cap h) (hi : i < h.c.length) :
    OwnS w0 (W.setCell ⟨g, i * 4, none⟩ (.int .i64 (w64 ((h.c.getD i zCl).ref + 1)))) b g cap (moreH h (i : Int)) ∧ KeepBut W (W.setCell ⟨g, i * 4, none⟩ (.int .i64 (w64 ((h.c.getD i zCl).ref + 1)))) g none ∧
      W.cell? ⟨g, i * 4, none⟩ = some (.int .i64 (h.c.getD i zCl).ref) ∧ W.frozen? ⟨g, i * 4, none⟩ = false ∧ W.cell? ⟨b, 0, none⟩ = some (.slice (some ⟨g, 0, none⟩) h.c.length cap) := by
  obtain ⟨rc, h1, h2, h3, h4, h5, h6⟩ := ho
  obtain ⟨e1, e2, e3, e4, e5, e6⟩ := h3.2 i hi
  obtain ⟨hc, hf⟩ := rw_cell h2 i hi
  have hp := rw_put h2 i hi 0 (by decide) (.int .i64 (w64 ((h.c.getD i zCl).ref + 1))) ⟨w64 ((h.c.getD i zCl).ref + 1), (rc.getD i zRw).pin, (rc.getD i zRw).leaf, (rc.getD i zRw).tr⟩ rfl
  have hgb : w0.heap.size ≤ g := Kd.R_base h2 g rfl
  have hne : b ≠ g := fun e => Kd.R_ne h2 h1 (by decide) (by rw [e]; rfl)
  have hl : (moreH h (i : Int)).c.length = h.c.length := by unfold moreH setH; simp
  refine ⟨⟨rc.set i ⟨w64 ((h.c.getD i zCl).ref + 1), (rc.getD i zRw).pin, (rc.getD i zRw).leaf, (rc.getD i zRw).tr⟩, ?_, ?_, ?_, ?_, h5, by rw [hl]; exact h6⟩, keep_row (b := b) hp.2, ?_, hf 0, blk_cell h1 0⟩
  · rw [hl]
    exact blk_far h1 hne _
  · rw [hl]; exact hp.1
  · have := CellsC_set h3 i (x := ⟨w64 ((h.c.getD i zCl).ref + 1), (rc.getD i zRw).pin, (rc.getD i zRw).leaf, (rc.getD i zRw).tr⟩) (c := ⟨w64 ((h.c.getD i zCl).ref + 1), (h.c.getD i zCl).pin, (h.c.getD i zCl).n⟩) ⟨rfl, e2, e3, e4, e5, e6⟩
    unfold moreH setH clAt
    rw [Int.toNat_natCast]
    exact this
  · exact h4.setCell (p := ⟨g, i * 4, none⟩) hgb _
  · have := hc 0 (.int .i64 (rc.getD i zRw).ref) rfl
    rw [e1] at this
    exact this
set_option maxHeartbeats 2000000 in
theorem hold_walk {w0 W : World} {b g cap : Nat} {h : Hp} (p : Int) (ho : OwnS w0 W b g cap h) (hp : inB h p = true) :
    Calls Try.prog 88 #[.pointer (some ⟨b, 0, none⟩), .int .i64 p] W fun e W' => (∃ v, e = .returned v) ∧ OwnS w0 W' b g cap (moreH h p) ∧ KeepBut W W' g none := by
  obtain ⟨i, rfl, hi⟩ := inB_nat hp
  obtain ⟨k1, k2, c1, f1, c2⟩ := own_more ho hi
  have K := Aside0.mk (And.intro k1 k2)
  obtain ⟨r, hr⟩ : ∃ r, r = (h.c.getD i zCl).ref := ⟨_, rfl⟩
  rw [← hr] at K c1
  have q2 : (i < h.c.length) = True := eq_true hi
  have hw : wrap64 (r + 1) = w64 (r + 1) := (w64_eq _).symm
  clear k1 k2 hp hr hi ho
  go_enter Try.func88, Try.ntmps88
  go_wp2
  refine bodyPost_end (results_none rfl _ _ _) rfl ?_
  exact ⟨⟨_, rfl⟩, K.out.1, K.out.2⟩
set_option maxHeartbeats 4000000 in
set_option maxRecDepth 100000 in
/-- Something is done with each cell that a node tells: S says how far it is. -/
theorem each_walk (S : Nat → World → Prop) (gf : Nat) (pre lb : Array Value) (eg : ∀ args w, (callFunc gf args).run Try.prog w = .ok (.enter gf args) w) (rcv : Value) (B : Option Addr) (cb : Nat) (lf : Bool) (l : List It) (W : World)
    (hS : lf = false → ∀ i W, i < l.length → S i W → Calls Try.prog gf (pre ++ #[.int .i64 (itAt l i).v] ++ lb) W fun e W' => (∃ v, e = .returned v) ∧ S (i + 1) W')
    (hR : ∀ i W, S i W → kIt.C W B l.length l) (hA : ∀ i W o, S i W → S i (W.alloc o)) (h0 : S 0 W) :
    Calls Try.prog 85 #[rcv, .agg #[.bool lf, .slice B l.length cb], .func (.func gf) pre lb] W fun e W' => (∃ v, e = .returned v) ∧ S (if lf then 0 else l.length) W' := by
  cases lf with
  | true =>
    have H0 := Aside0.mk (hA 0 W (.cells #[.bool true, .slice B l.length cb] 77) h0)
    clear hS hR hA h0
    go_enter Try.func85, Try.ntmps85
    go_wp2
    refine bodyPost_ret (results_none rfl _ _ _) rfl ?_
    exact ⟨⟨_, rfl⟩, H0.out⟩
  | false =>
    have hm := Kd.C_max (hR 0 W h0)
    have H0 := Aside0.mk (hA 0 W (.cells #[.bool false, .slice B l.length cb] 77) h0)
    have HS := Aside0.mk (hS rfl)
    have HR := Aside0.mk hR
    have HA := Aside0.mk hA
    clear hS hR hA h0
    go_enter Try.func85, Try.ntmps85
    go_wp2
    go_loopg [13] l.length (fun g s13 wr => ∃ k : Nat, s13 = .int .i64 k ∧ k + g = l.length ∧ Aside0 (S k wr))
    case atStart => exact ⟨0, rfl, by omega, H0⟩
    case round =>
      obtain ⟨k, rfl, hk, HK⟩ := hrel
      by_cases hlt : k < l.length
      · obtain ⟨g1, rfl⟩ : ∃ g1, gk = g1 + 1 := ⟨gk - 1, by omega⟩
        have r1 : decide (k < l.length) = true := decide_eq_true hlt
        have r2 : (k < l.length) = True := eq_true hlt
        obtain ⟨ad, rfl, x0, x1⟩ := at_it (HR.out k wr HK.out) k hlt
        have hcall := HS.out k (wr.alloc (.cells #[.int .i64 (itAt l k).k, .int .i64 (itAt l k).v] 26)) hlt (HA.out k wr _ HK.out)
        obtain ⟨x, hx⟩ : ∃ x, x = itAt l k := ⟨_, rfl⟩
        rw [← hx] at x0 x1 hcall
        have HC := Aside0.mk hcall
        have HKK := Aside0.mk hk
        have HW := Aside0.mk (show wrap64 ((k : Int) + 1) = ((k + 1 : Nat) : Int) by unfold wrap64; omega)
        clear hx hcall hlt hk
        go_wp2
        refine HC.out.mono ?_
        rintro e w3 ⟨⟨v, rfl⟩, hs⟩
        have HS3 := Aside0.mk hs
        clear hs
        go_wp2
        go_roundg g1
        case measure => omega
        case rel => exact ⟨k + 1, by rw [HW.out], by have := HKK.out; omega, HS3⟩
      · have r1 : decide (k < l.length) = false := decide_eq_false hlt
        have r2 : (k < l.length) = False := eq_false hlt
        have hkl : k = l.length := by omega
        have HF := Aside0.mk (show S l.length wr by rw [← hkl]; exact HK.out)
        clear hlt hk hkl
        go_wp2
        refine bodyPost_end (results_none rfl _ _ _) rfl ?_
        exact ⟨⟨_, rfl⟩, HF.out⟩
end Go.Proofs.Ytopkoganfnabgaa.H
namespace Go.Proofs.Ytopkoganfnabgaa.H
open Go.RowKit Go.Proofs.YtopkoganfnabgaaW.PrintWords Go.Proofs.YtopkoganfnabgaaW.PrintLast Go.Proofs.YtopkoganfnabgaaW.PrintMore
attribute [local go_sem] max2_int min2_int max_two min_two max_three min_three max_four min_four
set_option linter.unusedVariables false
set_option linter.unusedSimpArgs false
theorem find_at {l : List It} {key : Int} : ∀ (k : Nat), k < l.length → (∀ i, i < k → (itAt l i).k ≠ key) → (itAt l k).k = key → getL l key = ((itAt l k).v, 0) := by
  induction l with
  | nil => intro k hk; simp at hk
  | cons x l ih =>
    intro k hk h1 h2
    cases k with
    | zero =>
      have : x.k = key := h2
      unfold getL
      simp [this, itAt]
    | succ k =>
      have h0 : x.k ≠ key := h1 0 (by omega)
      have := ih k (by simpa using hk) (fun i hi => h1 (i + 1) (by omega)) h2
      unfold getL at this ⊢
      rw [List.find?_cons_of_neg (by simpa using h0)]
      exact this
theorem find_none {l : List It} {key : Int} (h : ∀ i, i < l.length → (itAt l i).k ≠ key) : getL l key = (0, 4) := by
  unfold getL
  have : l.find? (fun x => decide (x.k = key)) = none := by
    rw [List.find?_eq_none]
    intro x hx
    obtain ⟨i, hi, rfl⟩ := List.getElem_of_mem hx
    have := h i hi
    unfold itAt at this
    rw [List.getD_eq_getElem?_getD, List.getElem?_eq_getElem hi] at this
    simpa using this
  rw [this]
theorem drop_at (l : List It) (k : Nat) (hk : k < l.length) : l.drop k = itAt l k :: l.drop (k + 1) := by
  rw [List.drop_eq_getElem_cons hk]
  unfold itAt
  rw [List.getD_eq_getElem?_getD, List.getElem?_eq_getElem hk]
  rfl
theorem listL_len {rec_ : Int → Option (List It)} : ∀ (l acc r : List It), acc.length ≤ 2147483648 → listL rec_ acc l = some r → r.length ≤ 2147483648
  | [], acc, r, ha, h => by simp only [listL, Option.some.injEq] at h; rw [← h]; exact ha
  | x :: l, acc, r, ha, h => by
    unfold listL at h
    split at h
    · cases h
    · split at h
      · rename_i hle
        exact listL_len l _ r (by rw [List.length_append]; exact hle) h
      · cases h
theorem listO_len {f : Nat} {h : Hp} {p : Int} {l : List It} (e : listO f h p = some l) : l.length ≤ 2147483648 := by
  cases f with
  | zero => simp [listO] at e
  | succ f =>
    unfold listO at e
    split at e
    · simp only [Option.some.injEq] at e; rw [← e]; simp
    · split at e
      · split at e
        · split at e
          · simp only [Option.some.injEq] at e; rw [← e]; assumption
          · cases e
        · exact listL_len _ _ _ (by simp) e
      · cases e
set_option maxHeartbeats 4000000 in
set_option maxRecDepth 100000 in
theorem list_walk : ∀ (f : Nat) (A : Option Addr) (c : Nat) (h : Hp) (p : Int) (l : List It) (w : World), kCl.C w A h.c.length h.c → listO f h p = some l →
    Calls Try.prog 24 #[.agg #[.slice A h.c.length c, .int .i64 h.keep], .int .i64 p] w fun e w' => ∃ B cb, e = .returned (.slice B l.length cb) ∧ l.length ≤ cb ∧ kIt.C w' B l.length l ∧ Below w.heap.size w w' := by
  intro f
  induction f with
  | zero => intro A c h p n w _ e; simp [listO] at e
  | succ f ih =>
    intro A c h p l w hr e
    unfold listO at e
    by_cases h0 : p < 0
    · rw [if_pos h0] at e
      obtain rfl : [] = l := by simpa using e
      have q1 : decide (p < 0) = true := decide_eq_true h0
      clear h0 e ih hr
      go_enter Try.func24, Try.ntmps24
      go_wp2
      go_ret
      exact ⟨none, 0, rfl, Nat.le_refl _, Kd.C_nil _ _, by repeat (first | (with_reducible exact Below.refl _ _) | (with_reducible refine below_alloc ?_ _) | (with_reducible refine below_drew1 ?_) | (with_reducible refine pw_below_drewN ?_ _) | fail)⟩
    rw [if_neg h0] at e
    by_cases hin' : inB h p = false
    · rw [hin'] at e; simp at e
    have hin : inB h p = true := by simpa using hin'
    clear hin'
    rw [if_pos hin] at e
    obtain ⟨i, rfl, hi⟩ := inB_nat hin
    rw [clAt_nat] at e
    obtain ⟨ad, B, cb, rfl, x0, x1, x2, x3, hcb, hB⟩ := at_cl hr i hi
    obtain ⟨x, hx⟩ : ∃ x, x = h.c.getD i zCl := ⟨_, rfl⟩
    rw [← hx] at x2 x3 hB e hcb
    have q1 : decide ((i : Int) < 0) = false := decide_eq_false h0
    have q2 : (i < h.c.length) = True := eq_true hi
    obtain ⟨lf, hlf⟩ : ∃ lf, lf = x.n.leaf := ⟨_, rfl⟩
    rw [← hlf] at x2 e
    have y2 := al1 x2
    have y3 := al1 x3
    have HR := Aside0.mk hr
    have HBI := Aside0.mk hB
    have HCB := Aside0.mk hcb
    have hmx := Kd.C_max hB
    clear x0 x1 x2 x3 h0 hin hx hi hlf hr hB hcb
    cases lf with
    | true =>
      have hl : x.n.it = l := by
        rw [if_pos rfl] at e
        split at e
        · simpa using e
        · cases e
      clear e ih
      have HL := Aside0.mk hl
      clear hl
      go_enter Try.func24, Try.ntmps24
      go_wp2
      go_ret
      exact ⟨B, cb, by rw [← HL.out]; rfl, by rw [← HL.out]; exact HCB.out, by rw [← HL.out]; exact Kd.C_below HBI.out (by repeat (first | (with_reducible exact Below.refl _ _) | (with_reducible refine below_alloc ?_ _) | (with_reducible refine below_drew1 ?_) | (with_reducible refine pw_below_drewN ?_ _) | fail)), by repeat (first | (with_reducible exact Below.refl _ _) | (with_reducible refine below_alloc ?_ _) | (with_reducible refine below_drew1 ?_) | (with_reducible refine pw_below_drewN ?_ _) | fail)⟩
    | false =>
      rw [if_neg (by decide)] at e
      obtain ⟨W2, hW2⟩ : ∃ W2, W2 = (w.alloc (.cells #[.slice (some ad) h.c.length c, .int .i64 h.keep] 24)).alloc (.cells #[.bool false, .slice B x.n.it.length cb] 77) := ⟨_, rfl⟩
      have HB0 := Aside0.mk (show Below w.heap.size w W2 by rw [hW2]; exact below_alloc (below_alloc (Below.refl _ _) _) _)
      have HBH := Aside0.mk (show W2.heap[w.heap.size]? = some (.cells #[.slice (some ad) h.c.length c, .int .i64 h.keep] 24) by rw [hW2]; exact blk_alloc (blk_new w _) _)
      have HBN := Aside0.mk (show W2.heap[w.heap.size + 1]? = some (.cells #[.bool false, .slice B x.n.it.length cb] 77) by rw [hW2]; exact blk2 w _ _)
      have HW2 := Aside0.mk hW2
      have HE := Aside0.mk e
      clear hW2 e
      go_enter Try.func24, Try.ntmps24
      go_wp2
      rw [← HW2.out]
      go_loopg [6, 7] x.n.it.length (fun g s6 s7 wr => ∃ (k : Nat) (acc : List It), s7 = .int .i64 k ∧ k + g = x.n.it.length ∧ Aside0 (listL (listO f h) acc (x.n.it.drop k) = some l ∧ acc.length ≤ 2147483648) ∧ Aside0 (kIt.R 26 wr w.heap.size (fun _ => True) s6 acc) ∧ Aside0 (wr.heap[w.heap.size]? = some (.cells #[.slice (some ad) h.c.length c, .int .i64 h.keep] 24) ∧ wr.heap[w.heap.size + 1]? = some (.cells #[.bool false, .slice B x.n.it.length cb] 77)) ∧ Aside0 (Below w.heap.size w wr))
      case atStart => exact ⟨0, [], rfl, by omega, ⟨HE.out, by simp⟩, ⟨Kd.R_nil _ _ _ _ _⟩, ⟨HBH.out, HBN.out⟩, HB0⟩
      case round =>
        obtain ⟨k, acc, rfl, hk, HACC, HO, HBX, HBW⟩ := hrel
        have b0 := (blk_cell HBX.out.1 0).trans (show _ = some (Value.slice (some ad) h.c.length c) from rfl)
        have b1 := (blk_cell HBX.out.1 1).trans (show _ = some (Value.int .i64 h.keep) from rfl)
        have n1 := (blk_cell HBX.out.2 1).trans (show _ = some (Value.slice B x.n.it.length cb) from rfl)
        by_cases hlt : k < x.n.it.length
        · obtain ⟨g1, rfl⟩ : ∃ g1, gk = g1 + 1 := ⟨gk - 1, by omega⟩
          have r1 : decide (k < x.n.it.length) = true := decide_eq_true hlt
          have r2 : (k < x.n.it.length) = True := eq_true hlt
          obtain ⟨ha, hal⟩ := HACC.out
          rw [drop_at _ _ hlt, listL] at ha
          obtain ⟨ad2, rfl, _, z00⟩ := at_it HBI.out k hlt
          obtain ⟨y, hy⟩ : ∃ y, y = itAt x.n.it k := ⟨_, rfl⟩
          rw [← hy] at z00 ha
          have z1 := bcell HBW.out z00
          have HZ := Aside0.mk z00
          clear z00
          cases hq : listO f h y.v with
          | none => rw [hq] at ha; cases ha
          | some l2 =>
            rw [hq] at ha
            simp only at ha
            by_cases hle : acc.length + l2.length ≤ 2147483648
            · rw [if_pos hle] at ha
              have HA2 := Aside0.mk ha
              have HLE := Aside0.mk hle
              have HKK := Aside0.mk hk
              have HW := Aside0.mk (show wrap64 ((k : Int) + 1) = ((k + 1 : Nat) : Int) by unfold wrap64; omega)
              have HI := Aside0.mk (fun (W : World) (hb : Below w.heap.size w W) => ih (some ad) c h y.v l2 W (Kd.C_below HR.out hb) hq)
              clear ha hle hq hy hlt hk hal ih
              go_wp2
              have z0 := HZ.out
              go_region_held3 (fun w' => w'.cell? ⟨w.heap.size, 0, none⟩ = some (.slice (some ad) h.c.length c) ∧ w'.cell? ⟨w.heap.size, 1, none⟩ = some (.int .i64 h.keep) ∧ w'.cell? ⟨w.heap.size + 1, 1, none⟩ = some (.slice (some ad2) x.n.it.length cb) ∧ w'.cell? ⟨(ad2.add (k * 2)).block, (ad2.add (k * 2)).off + 1, none⟩ = some (.int .i64 y.v)) (first | exact ⟨b0, b1, n1, z1⟩ | exact ⟨(blk_cell HX5.out.1 0).trans rfl, (blk_cell HX5.out.1 1).trans rfl, (blk_cell HX5.out.2 1).trans rfl, bcell HB5.out z0⟩ | exact ⟨(blk_cell (blk_below HBX.out.1 (by repeat (first | (with_reducible exact Below.refl _ _) | (with_reducible refine below_alloc ?_ _) | (with_reducible refine below_drew1 ?_) | (with_reducible refine pw_below_drewN ?_ _) | (with_reducible exact HB2.out)))) 0).trans rfl, (blk_cell (blk_below HBX.out.1 (by repeat (first | (with_reducible exact Below.refl _ _) | (with_reducible refine below_alloc ?_ _) | (with_reducible refine below_drew1 ?_) | (with_reducible refine pw_below_drewN ?_ _) | (with_reducible exact HB2.out)))) 1).trans rfl, (blk_cell (blk_below HBX.out.2 (by repeat (first | (with_reducible exact Below.refl _ _) | (with_reducible refine below_alloc ?_ _) | (with_reducible refine below_drew1 ?_) | (with_reducible refine pw_below_drewN ?_ _) | (with_reducible exact HB2.out)))) 1).trans rfl, bcell (below_step HBW.out (by repeat (first | (with_reducible exact Below.refl _ _) | (with_reducible refine below_alloc ?_ _) | (with_reducible refine below_drew1 ?_) | (with_reducible refine pw_below_drewN ?_ _) | (with_reducible exact HB2.out)))) z0⟩) (first | (go_at_call 24; (with_reducible refine (HI.out _ (by repeat (first | (with_reducible exact Below.refl _ _) | (with_reducible refine below_alloc ?_ _) | (with_reducible refine below_drew1 ?_) | (with_reducible refine pw_below_drewN ?_ _) | (with_reducible exact HBW.out)))).mono ?_); rintro e w2 ⟨A3, c3, rfl, hc3, hr3, hb2⟩; have HB2 := Aside0.mk (show Below wr.heap.size wr w2 from below_step (by repeat (first | (with_reducible exact Below.refl _ _) | (with_reducible refine below_alloc ?_ _) | (with_reducible refine below_drew1 ?_) | (with_reducible refine pw_below_drewN ?_ _) | fail)) hb2); have HR3 := Aside0.mk hr3; clear hb2 hc3 hr3) | (refine Kd.R_append_rows_step kIt (w0 := w) w.heap.size rfl (.tmp 27) (.tmp 35) 27 26 (.agg #[.int .i64 0, .int .i64 0]) 16 rfl Try.underlying27 info_it rfl (by decide) (by omega) _ acc l2 _ _ _ (fun _ => True) (fun _ => False) rfl rfl (Kd.R_below HO.out (by repeat (first | (with_reducible exact Below.refl _ _) | (with_reducible refine below_alloc ?_ _) | (with_reducible refine below_drew1 ?_) | (with_reducible refine pw_below_drewN ?_ _) | (with_reducible exact HB2.out)))) (Kd.C_below HR3.out (by repeat (first | (with_reducible exact Below.refl _ _) | (with_reducible refine below_alloc ?_ _) | (with_reducible refine below_drew1 ?_) | (with_reducible refine pw_below_drewN ?_ _) | fail))) (fun _ _ h => h) (fun _ h => h.elim) (fun _ _ => trivial) (below_step HBW.out (by repeat (first | (with_reducible exact Below.refl _ _) | (with_reducible refine below_alloc ?_ _) | (with_reducible refine below_drew1 ?_) | (with_reducible refine pw_below_drewN ?_ _) | (with_reducible exact HB2.out)))) (below_step HBW.out (by repeat (first | (with_reducible exact Below.refl _ _) | (with_reducible refine below_alloc ?_ _) | (with_reducible refine below_drew1 ?_) | (with_reducible refine pw_below_drewN ?_ _) | (with_reducible exact HB2.out)))).size (by have := HLE.out; omega) ?_; intro v1 w5 ho hb hg hat; have HO5 := Aside0.mk ho; have HB5 := Aside0.mk hb; have HX5 := Aside0.mk (And.intro ((hg.block _ (blk_lt (blk_below HBX.out.1 (by repeat (first | (with_reducible exact Below.refl _ _) | (with_reducible refine below_alloc ?_ _) | (with_reducible refine below_drew1 ?_) | (with_reducible refine pw_below_drewN ?_ _) | (with_reducible exact HB2.out))))) (Kd.R_ne (Kd.R_below HO.out (by repeat (first | (with_reducible exact Below.refl _ _) | (with_reducible refine below_alloc ?_ _) | (with_reducible refine below_drew1 ?_) | (with_reducible refine pw_below_drewN ?_ _) | (with_reducible exact HB2.out)))) (blk_below HBX.out.1 (by repeat (first | (with_reducible exact Below.refl _ _) | (with_reducible refine below_alloc ?_ _) | (with_reducible refine below_drew1 ?_) | (with_reducible refine pw_below_drewN ?_ _) | (with_reducible exact HB2.out)))) (by decide))).trans (blk_below HBX.out.1 (by repeat (first | (with_reducible exact Below.refl _ _) | (with_reducible refine below_alloc ?_ _) | (with_reducible refine below_drew1 ?_) | (with_reducible refine pw_below_drewN ?_ _) | (with_reducible exact HB2.out))))) ((hg.block _ (blk_lt (blk_below HBX.out.2 (by repeat (first | (with_reducible exact Below.refl _ _) | (with_reducible refine below_alloc ?_ _) | (with_reducible refine below_drew1 ?_) | (with_reducible refine pw_below_drewN ?_ _) | (with_reducible exact HB2.out))))) (Kd.R_ne (Kd.R_below HO.out (by repeat (first | (with_reducible exact Below.refl _ _) | (with_reducible refine below_alloc ?_ _) | (with_reducible refine below_drew1 ?_) | (with_reducible refine pw_below_drewN ?_ _) | (with_reducible exact HB2.out)))) (blk_below HBX.out.2 (by repeat (first | (with_reducible exact Below.refl _ _) | (with_reducible refine below_alloc ?_ _) | (with_reducible refine below_drew1 ?_) | (with_reducible refine pw_below_drewN ?_ _) | (with_reducible exact HB2.out)))) (by decide))).trans (blk_below HBX.out.2 (by repeat (first | (with_reducible exact Below.refl _ _) | (with_reducible refine below_alloc ?_ _) | (with_reducible refine below_drew1 ?_) | (with_reducible refine pw_below_drewN ?_ _) | (with_reducible exact HB2.out)))))); clear ho hb hg hat) | fail)
              all_goals
                go_wp2
                go_roundg g1
                case measure => omega
                case rel => exact ⟨k + 1, acc ++ l2, by rw [HW.out], by have := HKK.out; omega, ⟨HA2.out, by rw [List.length_append]; exact HLE.out⟩, HO5, HX5, HB5⟩
            · rw [if_neg hle] at ha; cases ha
        · have r1 : decide (k < x.n.it.length) = false := decide_eq_false hlt
          have r2 : (k < x.n.it.length) = False := eq_false hlt
          have hacc : acc = l := by
            have := HACC.out.1
            rw [List.drop_eq_nil_of_le (by omega), listL] at this
            simpa using this
          obtain ⟨A5, c5, rfl⟩ := Kd.R_slice HO.out
          have h5 := Kd.R_reads' HO.out
          have HA := Aside0.mk hacc
          have H5 := Aside0.mk h5
          clear hlt hk hacc h5
          go_wp2
          go_ret
          exact ⟨A5, c5, by rw [← HA.out]; rfl, by rw [← HA.out]; exact H5.out.2.1, by rw [← HA.out]; exact H5.out.2.2, HBW.out⟩
end Go.Proofs.Ytopkoganfnabgaa.H
namespace Go.Proofs.Ytopkoganfnabgaa.H
open Go.RowKit Go.Proofs.YtopkoganfnabgaaW.PrintWords Go.Proofs.YtopkoganfnabgaaW.PrintLast Go.Proofs.YtopkoganfnabgaaW.PrintMore
attribute [local go_sem] max2_int min2_int max_two min_two max_three min_three max_four min_four
set_option linter.unusedVariables false
set_option linter.unusedSimpArgs false
theorem OwnS_alloc {w0 W : World} {b g cap : Nat} {h : Hp} (ho : OwnS w0 W b g cap h) (o : Obj) : OwnS w0 (W.alloc o) b g cap h := by
  obtain ⟨rc, h1, h2, h3, h4, h5, h6⟩ := ho
  exact ⟨rc, blk_alloc h1 _, Kd.R_alloc h2 _, h3, below_alloc h4 _, h5, h6⟩
theorem OwnS_drew {w0 W : World} {b g cap : Nat} {h : Hp} (ho : OwnS w0 W b g cap h) (n : Nat) : OwnS w0 (W.drewN n) b g cap h := by
  obtain ⟨rc, h1, h2, h3, h4, h5, h6⟩ := ho
  exact ⟨rc, blk_drewN h1 _, Kd.R_drewN h2 _, h3, pw_below_drewN h4 _, h5, h6⟩
theorem OwnS_below {w0 W W' : World} {b g cap : Nat} {h : Hp} (ho : OwnS w0 W b g cap h) (hb : Below W.heap.size W W') : OwnS w0 W' b g cap h := by
  obtain ⟨rc, h1, h2, h3, h4, h5, h6⟩ := ho
  exact ⟨rc, blk_below h1 hb, Kd.R_below h2 hb, h3, below_step h4 hb, h5, h6⟩
/-- The cells of the i-th cell. -/
theorem own_cells {w0 W : World} {b g cap i : Nat} {h : Hp} (ho : OwnS w0 W b g cap h) (hi : i < h.c.length) :
    ∃ B cb, W.cell? ⟨g, i * 4, none⟩ = some (.int .i64 (h.c.getD i zCl).ref) ∧ W.cell? ⟨g, i * 4 + 1, none⟩ = some (.bool (h.c.getD i zCl).pin) ∧ W.cell? ⟨g, i * 4 + 2, none⟩ = some (.bool (h.c.getD i zCl).n.leaf) ∧ W.cell? ⟨g, i * 4 + 2 + 1, none⟩ = some (.slice B (h.c.getD i zCl).n.it.length cb) ∧
      kIt.C w0 B (h.c.getD i zCl).n.it.length (h.c.getD i zCl).n.it ∧ W.frozen? ⟨g, i * 4, none⟩ = false ∧ W.frozen? ⟨g, i * 4 + 1, none⟩ = false ∧ W.frozen? ⟨g, i * 4 + 2, none⟩ = false ∧ W.frozen? ⟨g, i * 4 + 2 + 1, none⟩ = false ∧
      W.cell? ⟨b, 0, none⟩ = some (.slice (some ⟨g, 0, none⟩) h.c.length cap) ∧ W.cell? ⟨b, 1, none⟩ = some (.int .i64 h.keep) ∧ (h.c.getD i zCl).n.it.length ≤ cb := by
  obtain ⟨rc, h1, h2, h3, h4, h5, h6⟩ := ho
  obtain ⟨e1, e2, e3, e4, e5, e6⟩ := h3.2 i hi
  obtain ⟨hc, hf⟩ := rw_cell h2 i hi
  refine ⟨(rc.getD i zRw).tr.1, (rc.getD i zRw).tr.2.2, ?_, ?_, ?_, ?_, e6, hf 0, hf 1, hf 2, hf 3, blk_cell h1 0, blk_cell h1 1, e5⟩
  · have := hc 0 _ rfl; rw [e1] at this; exact this
  · have := hc 1 _ rfl; rw [e2] at this; exact this
  · have := hc 2 _ rfl; rw [e3] at this; exact this
  · have := hc 3 _ rfl; unfold trV at this; rw [e4] at this; exact this
/-- One cell of the i-th cell is written. -/
theorem own_upd {w0 W : World} {b g cap i : Nat} {h : Hp} (ho : OwnS w0 W b g cap h) (hi : i < h.c.length) (j : Nat) (hj : j < 4) (u : Value) (c' : Cl) (hx : ∀ x : Rw, CellC w0 x (h.c.getD i zCl) → ∃ x', cellsRw x' = (cellsRw x).set j u ∧ CellC w0 x' c') :
    OwnS w0 (W.setCell ⟨g, i * 4 + j, none⟩ u) b g cap (setH h (i : Int) c') ∧ KeepBut W (W.setCell ⟨g, i * 4 + j, none⟩ u) g none := by
  obtain ⟨rc, h1, h2, h3, h4, h5, h6⟩ := ho
  obtain ⟨x', hx1, hx2⟩ := hx _ (h3.2 i hi)
  have hp := rw_put h2 i hi j hj u x' hx1
  have hgb : w0.heap.size ≤ g := Kd.R_base h2 g rfl
  have hne : b ≠ g := fun e => Kd.R_ne h2 h1 (by decide) (by rw [e]; rfl)
  have hl : (setH h (i : Int) c').c.length = h.c.length := by unfold setH; simp
  refine ⟨⟨rc.set i x', ?_, ?_, ?_, ?_, h5, by rw [hl]; exact h6⟩, keep_row (b := b) hp.2⟩
  · rw [hl]; exact blk_far h1 hne _
  · rw [hl]; exact hp.1
  · have := CellsC_set h3 i hx2
    unfold setH
    rw [Int.toNat_natCast]
    exact this
  · exact h4.setCell (p := ⟨g, i * 4 + j, none⟩) hgb _
theorem setH_setH (h : Hp) (p : Int) (a b : Cl) : setH (setH h p a) p b = setH h p b := by unfold setH; simp
theorem getD_setH (h : Hp) (i : Nat) (a : Cl) (hi : i < h.c.length) : (setH h (i : Int) a).c.getD i zCl = a := by
  unfold setH
  rw [Int.toNat_natCast, List.getD_eq_getElem?_getD, List.getElem?_set_self hi]
  rfl
theorem own_ref {w0 W : World} {b g cap i : Nat} {h : Hp} (ho : OwnS w0 W b g cap h) (hi : i < h.c.length) (r : Int) :
    OwnS w0 (W.setCell ⟨g, i * 4, none⟩ (.int .i64 r)) b g cap (setH h (i : Int) ⟨r, (h.c.getD i zCl).pin, (h.c.getD i zCl).n⟩) ∧ KeepBut W (W.setCell ⟨g, i * 4, none⟩ (.int .i64 r)) g none :=
  own_upd ho hi 0 (by decide) (.int .i64 r) _ (fun x ⟨e1, e2, e3, e4, e5, e6⟩ => ⟨⟨r, x.pin, x.leaf, x.tr⟩, rfl, rfl, e2, e3, e4, e5, e6⟩)
theorem own_pin {w0 W : World} {b g cap i : Nat} {h : Hp} (ho : OwnS w0 W b g cap h) (hi : i < h.c.length) (p : Bool) :
    OwnS w0 (W.setCell ⟨g, i * 4 + 1, none⟩ (.bool p)) b g cap (setH h (i : Int) ⟨(h.c.getD i zCl).ref, p, (h.c.getD i zCl).n⟩) ∧ KeepBut W (W.setCell ⟨g, i * 4 + 1, none⟩ (.bool p)) g none :=
  own_upd ho hi 1 (by decide) (.bool p) _ (fun x ⟨e1, e2, e3, e4, e5, e6⟩ => ⟨⟨x.ref, p, x.leaf, x.tr⟩, rfl, e1, rfl, e3, e4, e5, e6⟩)
theorem own_leaf {w0 W : World} {b g cap i : Nat} {h : Hp} (ho : OwnS w0 W b g cap h) (hi : i < h.c.length) (lf : Bool) :
    OwnS w0 (W.setCell ⟨g, i * 4 + 2, none⟩ (.bool lf)) b g cap (setH h (i : Int) ⟨(h.c.getD i zCl).ref, (h.c.getD i zCl).pin, ⟨lf, (h.c.getD i zCl).n.it⟩⟩) ∧ KeepBut W (W.setCell ⟨g, i * 4 + 2, none⟩ (.bool lf)) g none :=
  own_upd ho hi 2 (by decide) (.bool lf) _ (fun x ⟨e1, e2, e3, e4, e5, e6⟩ => ⟨⟨x.ref, x.pin, lf, x.tr⟩, rfl, e1, e2, rfl, e4, e5, e6⟩)
theorem own_row {w0 W : World} {b g cap i : Nat} {h : Hp} (ho : OwnS w0 W b g cap h) (hi : i < h.c.length) (B : Option Addr) (cb : Nat) (l : List It) (hl : l.length ≤ cb) (hB : kIt.C w0 B l.length l) :
    OwnS w0 (W.setCell ⟨g, i * 4 + 2 + 1, none⟩ (.slice B l.length cb)) b g cap (setH h (i : Int) ⟨(h.c.getD i zCl).ref, (h.c.getD i zCl).pin, ⟨(h.c.getD i zCl).n.leaf, l⟩⟩) ∧ KeepBut W (W.setCell ⟨g, i * 4 + 2 + 1, none⟩ (.slice B l.length cb)) g none :=
  own_upd ho hi 3 (by decide) (.slice B l.length cb) _ (fun x ⟨e1, e2, e3, e4, e5, e6⟩ => ⟨⟨x.ref, x.pin, x.leaf, (B, l.length, cb)⟩, rfl, e1, e2, e3, rfl, hl, hB⟩)
theorem keep_trans {A B C : World} {g : Nat} (h : KeepBut A B g none) (k : KeepBut B C g none) : KeepBut A C g none := ⟨Nat.le_trans h.1 k.1, fun i hi hg hr => (k.2 i (Nat.lt_of_lt_of_le hi h.1) hg hr).trans (h.2 i hi hg hr)⟩
theorem keep_al {A B : World} {g : Nat} (h : KeepBut A B g none) (o : Obj) : KeepBut A (B.alloc o) g none := keep_trans h (KeepBut.of_below (below_alloc (Below.refl _ _) o) g none)
set_option maxHeartbeats 4000000 in
set_option maxRecDepth 100000 in
theorem loose_walk : ∀ (f : Nat) (h h' : Hp) (p : Int) (w0 W : World) (b g cap : Nat), OwnS w0 W b g cap h → looseO f h p = some h' →
    Calls Try.prog 96 #[.pointer (some ⟨b, 0, none⟩), .int .i64 p] W fun e W' => (∃ v, e = .returned v) ∧ OwnS w0 W' b g cap h' ∧ KeepBut W W' g none := by
  intro f
  induction f with
  | zero => intro h h' p w0 W b g cap _ e; simp [looseO] at e
  | succ f ih =>
    intro h h' p w0 W b g cap ho e
    unfold looseO at e
    by_cases hc : inB h p = true ∧ 0 ≤ (clAt h p).ref ∧ (clAt h p).ref ≤ 1000000000000 ∧ ((clAt h p).ref = 0 ∨ (clAt h p).pin = false)
    · rw [if_pos hc] at e
      obtain ⟨hin, hr0, hr1, hpin⟩ := hc
      obtain ⟨i, rfl, hi⟩ := inB_nat hin
      rw [clAt_nat] at e hr0 hr1 hpin
      obtain ⟨B, cb, c0, c1, c2, c3, hB, f0, f1, f2, f3, b0, b1, hcb⟩ := own_cells ho hi
      have q2 : (i < h.c.length) = True := eq_true hi
      obtain ⟨x, hx⟩ : ∃ x, x = h.c.getD i zCl := ⟨_, rfl⟩
      rw [← hx] at e hr0 hr1 hpin c0 c1 c2 c3 hB hcb
      have HO := Aside0.mk ho
      have HI := Aside0.mk hi
      have HX := Aside0.mk hx
      by_cases e0 : x.ref = 0
      · rw [if_pos e0] at e
        obtain rfl : h = h' := by simpa using e
        have q1 : (x.ref == 0) = true := beq_iff_eq.mpr e0
        clear e e0 hin hr0 hr1 hpin hi hx ho ih hB hcb
        go_enter Try.func96, Try.ntmps96
        go_wp2
        refine bodyPost_ret (results_none rfl _ _ _) rfl ?_
        exact ⟨⟨_, rfl⟩, HO.out, KeepBut.refl _ _ _⟩
      · rw [if_neg e0] at e
        have hpf : x.pin = false := by rcases hpin with h | h; exact absurd h e0; exact h
        have HPF := Aside0.mk hpf
        have q1 : (x.ref == 0) = false := beq_eq_false_iff_ne.mpr e0
        have hw : wrap64 (x.ref - 1) = x.ref - 1 := by unfold wrap64; omega
        by_cases e1 : 1 < x.ref
        · rw [if_pos e1] at e
          obtain rfl : setH h (i : Int) ⟨x.ref - 1, false, x.n⟩ = h' := by simpa using e
          have q3 : (1 < x.ref) = True := eq_true e1
          have q4 : decide (0 < x.ref - 1) = true := decide_eq_true (by omega)
          have q5 : decide (1 < x.ref) = true := decide_eq_true e1
          clear e e0 hin hr0 hr1 hpin hi hx ho ih hB hcb e1 hpf
          go_enter Try.func96, Try.ntmps96
          go_wp2
          refine bodyPost_ret (results_none rfl _ _ _) rfl ?_
          have hk := own_ref HO.out HI.out (x.ref - 1)
          rw [← HX.out, HPF.out] at hk
          exact ⟨⟨_, rfl⟩, hk.1, hk.2⟩
        · rw [if_neg e1] at e
          have hw0 : wrap64 (x.ref - 1) = 0 := by unfold wrap64; omega
          have hgb : g < W.heap.size ∧ b ≠ g := by
            obtain ⟨rc, k1, k2, k3, k4, k5, k6⟩ := ho
            exact ⟨Kd.R_lt k2 g rfl, fun e => Kd.R_ne k2 k1 (by decide) (by rw [e]; rfl)⟩
          have HGB := Aside0.mk hgb
          have HE := Aside0.mk e
          have HIH := Aside0.mk ih
          have hk2 := own_ref ho hi 0
          rw [← hx, hpf] at hk2
          obtain ⟨W2, hW2⟩ : ∃ W2, W2 = W.setCell ⟨g, i * 4, none⟩ (.int .i64 0) := ⟨_, rfl⟩
          rw [← hW2] at hk2
          obtain ⟨ho2, hkb2⟩ := hk2
          have hsz2 : W2.heap.size = W.heap.size := by rw [hW2]; simp [World.setCell]
          have HSZ := Aside0.mk hsz2
          have hi2 : i < (setH h (i : Int) ⟨0, false, x.n⟩).c.length := by unfold setH; simpa using hi
          obtain ⟨B2, cb2, d0, d1, d2, d3, hB2, g0, g1, g2, g3, b2, b3, hcb2⟩ := own_cells ho2 hi2
          rw [getD_setH h i _ hi] at d0 d1 d2 d3 hB2 hcb2
          have hlen2 : (setH h (i : Int) ⟨0, false, x.n⟩).c.length = h.c.length := by unfold setH; simp
          rw [hlen2] at b2
          have HO2 := Aside0.mk ho2
          have HI2 := Aside0.mk hi2
          have HKB2 := Aside0.mk hkb2
          have HBI := Aside0.mk hB2
          have HW2 := Aside0.mk hW2
          clear hw e e0 hin hr0 hr1 hpin hi hx ho ih hB hcb e1 hpf hgb ho2 hkb2 hsz2 hi2 hlen2 hB2 hcb2 hW2
          go_enter Try.func96, Try.ntmps96
          go_upto_region 3 with (fail)
          rw [← HW2.out]
          clear c0 c1 c2 c3 f0 f1 f2 f3 b0 b1
          replace d0 : W2.cell? ⟨g, i * 4, none⟩ = some (.int .i64 0) := d0
          replace d1 : W2.cell? ⟨g, i * 4 + 1, none⟩ = some (.bool false) := d1
          replace d2 : W2.cell? ⟨g, i * 4 + 2, none⟩ = some (.bool x.n.leaf) := d2
          replace d3 : W2.cell? ⟨g, i * 4 + 2 + 1, none⟩ = some (.slice B2 x.n.it.length cb2) := d3
          go_upto_region 5 with (fail)
          obtain ⟨W3, hW3⟩ : ∃ W3, W3 = W2.alloc (.cells #[.bool x.n.leaf, .slice B2 x.n.it.length cb2] 77) := ⟨_, rfl⟩
          have hbx3 : W3.heap[W2.heap.size]? = some (.cells #[.bool x.n.leaf, .slice B2 x.n.it.length cb2] 77) := by rw [hW3]; exact blk_new _ _
          have ho3 : OwnS w0 W3 b g cap (setH h (i : Int) ⟨0, false, x.n⟩) := by rw [hW3]; exact OwnS_alloc HO2.out _
          have hkb3 : KeepBut W W3 g none := by rw [hW3]; exact keep_al HKB2.out _
          rw [← hW3]
          clear d0 d1 d2 d3 g0 g1 g2 g3 b2 b3 hW3
          obtain ⟨_, _, _, d1, d2, d3, _, _, g1, g2, g3, b2, b3, _⟩ := own_cells ho3 HI2.out
          rw [getD_setH h i _ HI.out] at d1 d2 d3
          replace d1 : W3.cell? ⟨g, i * 4 + 1, none⟩ = some (.bool false) := d1
          replace d2 : W3.cell? ⟨g, i * 4 + 2, none⟩ = some (.bool x.n.leaf) := d2
          have HBX := Aside0.mk hbx3
          have HO3 := Aside0.mk ho3
          have HKB3 := Aside0.mk hkb3
          clear hbx3 ho3 hkb3
          go_upto_region 6 with (fail)
          obtain ⟨W4, hW4⟩ : ∃ W4, W4 = (((W3.setCell ⟨g, i * 4 + 2, none⟩ (.bool false)).setCell ⟨g, i * 4 + 2 + 1, none⟩ (.slice none 0 0)).setCell ⟨g, i * 4 + 1, none⟩ (.bool true)) := ⟨_, rfl⟩
          obtain ⟨l1, k1⟩ := own_leaf HO3.out HI2.out false
          rw [getD_setH h i _ HI.out, setH_setH] at l1
          have hi3 : i < (setH h (i : Int) ⟨0, false, ⟨false, x.n.it⟩⟩).c.length := by unfold setH; simpa using HI.out
          obtain ⟨l2, k2⟩ := own_row l1 hi3 none 0 [] (Nat.le_refl 0) (Kd.C_nil _ _)
          rw [getD_setH h i _ HI.out, setH_setH] at l2
          have hi4 : i < (setH h (i : Int) ⟨0, false, ⟨false, []⟩⟩).c.length := by unfold setH; simpa using HI.out
          obtain ⟨l3, k3⟩ := own_pin l2 hi4 true
          rw [getD_setH h i _ HI.out, setH_setH] at l3
          have ho4 : OwnS w0 W4 b g cap (setH h (i : Int) ⟨0, true, zNd⟩) := by rw [hW4]; exact l3
          have hkb4 : KeepBut W W4 g none := by rw [hW4]; exact keep_trans (keep_trans (keep_trans HKB3.out k1) k2) k3
          have hne : W2.heap.size ≠ g := by have := HSZ.out; have := HGB.out.1; omega
          have hbx4 : W4.heap[W2.heap.size]? = some (.cells #[.bool x.n.leaf, .slice B2 x.n.it.length cb2] 77) := by rw [hW4]; exact blk_far (blk_far (blk_far HBX.out hne _) hne _) hne _
          rw [← hW4]
          have n0 := (blk_cell hbx4 0).trans (show _ = some (Value.bool x.n.leaf) from rfl)
          have n1 := (blk_cell hbx4 1).trans (show _ = some (Value.slice B2 x.n.it.length cb2) from rfl)
          have HO4 := Aside0.mk ho4
          have HKB4 := Aside0.mk hkb4
          obtain ⟨lf, hlf⟩ : ∃ lf, lf = x.n.leaf := ⟨_, rfl⟩
          have HLF := Aside0.mk hlf
          rw [← hlf] at n0 HE
          have HEA := Aside0.mk (each_walk (fun k W5 => ∃ hi, (lf = true → k = 0 → hi = setH h (i : Int) ⟨0, true, zNd⟩) ∧ (lf = false → (x.n.it.drop k).foldlM (fun h x => looseO f h x.v) hi = some h') ∧ OwnS w0 W5 b g cap hi ∧ KeepBut W4 W5 g none) 96 #[.pointer (some ⟨b, 0, none⟩)] #[] (enters_of Try.func96 (by kernel_rfl) rfl) (.pointer (some ⟨b, 0, none⟩)) B2 cb2 lf x.n.it W4
            (by
              rintro hlff k W5 hk ⟨hi, _, hf, hos, hkb⟩
              · have hf := hf hlff
                rw [drop_at _ _ hk, List.foldlM_cons] at hf
                cases hq : looseO f hi (itAt x.n.it k).v with
                | none => rw [hq] at hf; cases hf
                | some hj =>
                  rw [hq] at hf
                  refine (HIH.out hi hj _ w0 W5 b g cap hos hq).mono ?_
                  rintro e W6 ⟨hv, ho6, hk6⟩
                  exact ⟨hv, hj, (fun h => by rw [hlff] at h; cases h), fun _ => hf, ho6, keep_trans hkb hk6⟩)
            (by rintro k W5 ⟨hi, _, _, hos, _⟩; obtain ⟨rc, _, _, _, h4, _⟩ := hos; exact Kd.C_below HBI.out h4)
            (by rintro k W5 o ⟨hi, h1, h2, hos, hkb⟩; exact ⟨hi, h1, h2, OwnS_alloc hos o, keep_al hkb o⟩)
            ⟨setH h (i : Int) ⟨0, true, zNd⟩, fun _ _ => rfl, fun hl => by have := HE.out; rw [if_neg (by rw [hl]; decide)] at this; exact this, ho4, KeepBut.refl _ _ _⟩)
          clear hW4 l1 k1 l2 k2 l3 k3 hi3 hi4 ho4 hkb4 hbx4 hne hlf d1 d2 d3 g1 g2 g3 b2 b3
          go_wp2_with (first | (go_at_call 85; (with_reducible refine HEA.out.mono ?_); rintro e W6 ⟨⟨v, rfl⟩, hs⟩; have HS := Aside0.mk hs; clear hs) | fail)
          refine bodyPost_end (results_none rfl _ _ _) rfl ?_
          refine ⟨⟨_, rfl⟩, ?_⟩
          obtain ⟨hi, z1, z2, z3, z4⟩ := HS.out
          have hE := HE.out
          cases lf with
          | true =>
            rw [if_pos rfl] at hE
            have := z1 rfl rfl
            rw [this] at z3
            simp only [Option.some.injEq] at hE
            rw [hE] at z3
            exact ⟨z3, keep_trans HKB4.out z4⟩
          | false =>
            have := z2 rfl
            rw [List.drop_eq_nil_of_le (by simp)] at this
            simp only [List.foldlM_nil, Option.pure_def, Option.some.injEq] at this
            rw [this] at z3
            exact ⟨z3, keep_trans HKB4.out z4⟩
    · rw [if_neg hc] at e; cases e
end Go.Proofs.Ytopkoganfnabgaa.H
namespace Go.Proofs.Ytopkoganfnabgaa.H
open Go.RowKit Go.Proofs.YtopkoganfnabgaaW.PrintWords Go.Proofs.YtopkoganfnabgaaW.PrintLast Go.Proofs.YtopkoganfnabgaaW.PrintMore
attribute [local go_sem] max2_int min2_int max_two min_two max_three min_three max_four min_four
set_option linter.unusedVariables false
set_option linter.unusedSimpArgs false
/-- What a heap that was changed reads as. -/
theorem own_reads {w0 W : World} {b g cap : Nat} {h : Hp} (ho : OwnS w0 W b g cap h) : kCl.C W (some ⟨g, 0, none⟩) h.c.length h.c ∧ h.c.length ≤ cap ∧ W.heap[b]? = some (.cells #[.slice (some ⟨g, 0, none⟩) h.c.length cap, .int .i64 h.keep] 127) := by
  obtain ⟨rc, h1, h2, h3, h4, h5, h6⟩ := ho
  have h7 := Kd.R_reads' h2
  have hl : rc.length = h.c.length := h3.1
  refine ⟨?_, h7.2.1, h1⟩
  have h8 := h7.2.2
  rw [hl] at h8
  exact cl_of_rw h8 (CellsC_below h3 h4)
/-- A store into a result's block leaves it. -/
theorem own_set {w0 W : World} {b g cap rb : Nat} {h : Hp} {cs : Array Value} (ho : OwnS w0 W b g cap h) (hb : W.heap[rb]? = some (.cells cs 24 (0, 0))) (hr : w0.heap.size ≤ rb) (j : Nat) (u : Value) : OwnS w0 (W.setCell ⟨rb, j, none⟩ u) b g cap h := by
  obtain ⟨rc, h1, h2, h3, h4, h5, h6⟩ := ho
  exact ⟨rc, blk_far h1 (blk_ne h1 hb (by decide)) _, Kd.R_set h2 hb (by decide) _ _, h3, below_set h4 hr, h5, h6⟩
set_option maxHeartbeats 4000000 in
set_option maxRecDepth 100000 in
theorem changed_walk (gf : Nat) (eg : ∀ args w, (callFunc gf args).run Try.prog w = .ok (.enter gf args) w) (A : Option Addr) (c : Nat) (hp hp' : Hp) (p : Int) (w : World) (hr : kCl.C w A hp.c.length hp.c) (hl : hp.c.length ≤ 2000) (hcc : hp.c.length ≤ c)
    (hdo : ∀ (W : World) (b g cap : Nat), usedB hp p = true → OwnS w W b g cap hp → Calls Try.prog gf #[.pointer (some ⟨b, 0, none⟩), .int .i64 p] W fun e W' => (∃ v, e = .returned v) ∧ OwnS w W' b g cap hp' ∧ KeepBut W W' g none) :
    Calls Try.prog 95 #[.agg #[.slice A hp.c.length c, .int .i64 hp.keep], .int .i64 p, .func (.func gf) #[] #[]] w fun e w' => ∃ B cb, e = .returned (.tuple #[.agg #[.slice B (if usedB hp p then hp' else hp).c.length cb, .int .i64 (if usedB hp p then hp' else hp).keep], .int .i64 (if usedB hp p then 0 else 4)]) ∧ (if usedB hp p then hp' else hp).c.length ≤ cb ∧ kCl.C w' B (if usedB hp p then hp' else hp).c.length (if usedB hp p then hp' else hp).c ∧ Below w.heap.size w w' := by
  obtain ⟨W1, hW1⟩ : ∃ W1, W1 = (w.alloc (.cells #[.slice A hp.c.length c, .int .i64 hp.keep] 24)).alloc (.cells #[.slice none 0 0, .int .i64 0] 24) := ⟨_, rfl⟩
  have HB0 := Aside0.mk (show Below w.heap.size w W1 by rw [hW1]; exact below_alloc (below_alloc (Below.refl _ _) _) _)
  have HBH := Aside0.mk (show W1.heap[w.heap.size]? = some (.cells #[.slice A hp.c.length c, .int .i64 hp.keep] 24) by rw [hW1]; exact blk_alloc (blk_new w _) _)
  have HBR := Aside0.mk (show W1.heap[w.heap.size + 1]? = some (.cells #[.slice none 0 0, .int .i64 0] 24) by rw [hW1]; exact blk2 w _ _)
  have HUW := Aside0.mk (fun (W : World) (hb : Below w.heap.size w W) => isUsed_walk A c hp p W (Kd.C_below hr hb))
  have HR := Aside0.mk hr
  have HC := Aside0.mk (And.intro hcc hl)
  have HDO := Aside0.mk hdo
  have c0 := (blk_cell HBH.out 0).trans (show _ = some (Value.slice A hp.c.length c) from rfl)
  have c1 := (blk_cell HBH.out 1).trans (show _ = some (Value.int .i64 hp.keep) from rfl)
  have hW1' := Aside0.mk hW1
  obtain ⟨u, hu⟩ : ∃ u, u = usedB hp p := ⟨_, rfl⟩
  have HU := Aside0.mk hu
  rw [← hu] at HUW HDO ⊢
  have hpos : u = true → 0 < hp.c.length := fun h1 => by
    rw [hu] at h1
    unfold usedB at h1
    simp only [Bool.and_eq_true] at h1
    obtain ⟨i, _, hi⟩ := inB_nat h1.1
    omega
  have HPOS := Aside0.mk hpos
  clear hr hl hcc hdo hW1 hu hpos
  cases u with
  | false =>
    go_enter Try.func95, Try.ntmps95
    go_upto_region 1 with (fail)
    rw [← hW1'.out]
    go_upto_region 2 with (first | (go_at_call 102; (with_reducible refine (HUW.out _ HB0.out).mono ?_); rintro e w2 ⟨rfl, hb2⟩; have HB2 := Aside0.mk hb2; have d0 := bcell hb2 c0; have d1 := bcell hb2 c1; clear hb2) | fail)
    have BR := Aside0.mk (blk_below HBR.out HB2.out)
    have e0 := (blk_cell BR.out 0).trans (show _ = some (Value.slice none 0 0) from rfl)
    have e1 := (blk_cell BR.out 1).trans (show _ = some (Value.int .i64 0) from rfl)
    have f0 := blk_frozen BR.out 0
    have f1 := blk_frozen BR.out 1
    go_wp2
    refine bodyPost_ret (results_ct rfl _ _ (w.heap.size + 1) 24 #[.slice A hp.c.length c, .int .i64 hp.keep] (0, 0) _ rfl (blk_put (blk_put BR.out 0 _ rfl) 1 _ rfl) Try.underlying24 rfl (by kernel_rfl)) rfl ?_
    have hbb : Below w.heap.size w ((w2.setCell ⟨w.heap.size + 1, 0, none⟩ (.slice A hp.c.length c)).setCell ⟨w.heap.size + 1, 1, none⟩ (.int .i64 hp.keep)) := below_set (below_set (below_step HB0.out HB2.out) (by omega)) (by omega)
    exact ⟨A, c, rfl, HC.out.1, Kd.C_below HR.out hbb, hbb⟩
  | true =>
    go_enter Try.func95, Try.ntmps95
    go_upto_region 1 with (fail)
    rw [← hW1'.out]
    go_upto_region 4 with (first | (go_at_call 102; (with_reducible refine (HUW.out _ HB0.out).mono ?_); rintro e w2 ⟨rfl, hb2⟩; have HB2 := Aside0.mk (below_step HB0.out hb2); have BR2 := Aside0.mk (blk_below HBR.out hb2); have d0 := bcell hb2 c0; have d1 := bcell hb2 c1; clear hb2) | (go_at_call 84; (with_reducible refine (own_walk A c hp w _ HR.out HB2.out (HPOS.out (by simp)) HC.out.2).mono ?_); rintro e w3 ⟨b, g, cap, rfl, hos, hb3, hbb, hbg⟩; have HOS := Aside0.mk hos; have HB3 := Aside0.mk hb3; have BR3 := Aside0.mk (blk_below BR2.out hb3); have HGG := Aside0.mk hbg; clear hos hb3 hbb hbg) | fail)
    go_wp2
    refine (HDO.out _ b g cap (by simp) HOS.out).mono ?_
    rintro e w4 ⟨⟨v, rfl⟩, hos4, hk4⟩
    have BR := Aside0.mk (show w4.heap[w.heap.size + 1]? = some (.cells #[.slice none 0 0, .int .i64 0] 24) from (hk4.2 _ (blk_lt BR3.out) (by have := blk_lt BR2.out; have := HGG.out; omega) (by simp)).trans BR3.out)
    have HO4 := Aside0.mk hos4
    obtain ⟨k1, k2, k3⟩ := own_reads hos4
    have bb0 := (blk_cell k3 0).trans (show _ = some (Value.slice (some ⟨g, 0, none⟩) hp'.c.length cap) from rfl)
    have bb1 := (blk_cell k3 1).trans (show _ = some (Value.int .i64 hp'.keep) from rfl)
    have e0 := (blk_cell BR.out 0).trans (show _ = some (Value.slice none 0 0) from rfl)
    have e1 := (blk_cell BR.out 1).trans (show _ = some (Value.int .i64 0) from rfl)
    have f0 := blk_frozen BR.out 0
    have f1 := blk_frozen BR.out 1
    have hcap := Aside0.mk k2
    clear hos4 hk4 k1 k2 k3
    go_wp2
    refine bodyPost_ret (results_ct rfl _ _ (w.heap.size + 1) 24 #[.slice (some ⟨g, 0, none⟩) hp'.c.length cap, .int .i64 hp'.keep] (0, 0) _ rfl (blk_put (blk_put BR.out 0 _ rfl) 1 _ rfl) Try.underlying24 rfl (by kernel_rfl)) rfl ?_
    have hos5 := own_set (own_set HO4.out BR.out (by omega) 0 (.slice (some ⟨g, 0, none⟩) hp'.c.length cap)) (blk_put BR.out 0 _ rfl) (by omega) 1 (.int .i64 hp'.keep)
    have hbl : Below w.heap.size w _ := hos5.choose_spec.2.2.2.1
    exact ⟨_, cap, rfl, hcap.out, (own_reads hos5).1, hbl⟩
end Go.Proofs.Ytopkoganfnabgaa.H
namespace Go.Proofs.Ytopkoganfnabgaa.H
open Go.RowKit Go.Proofs.YtopkoganfnabgaaW.PrintWords Go.Proofs.YtopkoganfnabgaaW.PrintLast Go.Proofs.YtopkoganfnabgaaW.PrintMore
attribute [local go_sem] max2_int min2_int max_two min_two max_three min_three max_four min_four
set_option linter.unusedVariables false
set_option linter.unusedSimpArgs false
/-- A block that holds a heap alone. -/
def Hb (w : World) (g : Nat) : Prop := ∃ X a b k t, w.heap[g]? = some (.cells #[.slice X a b, .int .i64 k] t (0, 0))
theorem Hb_cell {w : World} {g : Nat} (h : Hb w g) (ad : Addr) (i : Int) (v : Value) (e : ad.block = g) (e0 : w.cell? ad = some (.int .i64 i)) (e1 : w.cell? ⟨ad.block, ad.off + 1, none⟩ = some v) : False := by
  obtain ⟨X, a, b, k, t, hb⟩ := h
  obtain ⟨bl, off, inn⟩ := ad
  cases e
  have hb' : w.heap[bl]? = some (Obj.cells #[Value.slice X a b, Value.int IntKind.i64 k] t) := hb
  unfold World.cell? at e0 e1
  simp only [hb'] at e0 e1
  cases inn with
  | none =>
    match off with
    | 0 => simp at e0
    | 1 => simp at e1
    | n + 2 => simp at e0
  | some j => simp at e0
theorem it_keep {w W : World} {g n : Nat} {A : Option Addr} {l : List It} (h : kIt.C w A n l) (hb : Hb w g) (hk : KeepBut w W g none) : kIt.C W A n l := by
  refine Kd.C_foot_ne (g := g) (d := kIt) (fun h => h) h ?_ W hk
  intro ad e hn he
  obtain ⟨ad', e1, h0, h1⟩ := at_it0 h hn
  cases e.symm.trans e1
  exact Hb_cell hb ad _ _ he h0 h1
theorem cl_keep {w W : World} {g n : Nat} {A : Option Addr} {l : List Cl} (h : kCl.C w A n l) (hb : Hb w g) (hk : KeepBut w W g none) : kCl.C W A n l := by
  obtain ⟨rc, h1, h2⟩ := rw_of_cl h
  refine cl_of_rw (rc := rc) ?_ ⟨h2.1, fun i hi => ?_⟩
  · refine Kd.C_foot_ne (g := g) (d := kRw) (fun h => h) h1 ?_ W hk
    intro ad e hn he
    obtain ⟨ad', e1, c0, c1, _⟩ := at_rw h1 0 hn
    cases e.symm.trans e1
    exact Hb_cell hb (ad.add (0 * 4)) _ _ he c0 c1
  · obtain ⟨e1, e2, e3, e4, e5, e6⟩ := h2.2 i hi
    exact ⟨e1, e2, e3, e4, e5, it_keep e6 hb hk⟩
/-- A heap's cells, when a block that holds a heap alone is written. -/
theorem cl_set {w : World} {g n : Nat} {A : Option Addr} {l : List Cl} (h : kCl.C w A n l) (hb : Hb w g) (j : Nat) (u : Value) : kCl.C (w.setCell ⟨g, j, none⟩ u) A n l :=
  cl_keep h hb ((KeepBut.refl w g none).set_ j u)
theorem it_set {w : World} {g n : Nat} {A : Option Addr} {l : List It} (h : kIt.C w A n l) (hb : Hb w g) (j : Nat) (u : Value) : kIt.C (w.setCell ⟨g, j, none⟩ u) A n l :=
  it_keep h hb ((KeepBut.refl w g none).set_ j u)
theorem Hb_of {w : World} {g : Nat} {X : Option Addr} {a b : Nat} {k : Int} {t : TypeId} (h : w.heap[g]? = some (.cells #[.slice X a b, .int .i64 k] t (0, 0))) : Hb w g := ⟨X, a, b, k, t, h⟩
/-- A heap is stored in a block. -/
theorem hb_store {w : World} {g : Nat} {X Y : Option Addr} {a b n c : Nat} {k q : Int} {t : TypeId} (h : w.heap[g]? = some (.cells #[.slice X a b, .int .i64 k] t (0, 0))) :
    ((w.setCell ⟨g, 0, none⟩ (.slice Y n c)).setCell ⟨g, 1, none⟩ (.int .i64 q)).heap[g]? = some (.cells #[.slice Y n c, .int .i64 q] t (0, 0)) := blk_put (blk_put h 0 _ rfl) 1 _ rfl
theorem cl_store {w : World} {g n m c : Nat} {A X Y : Option Addr} {a b : Nat} {k q : Int} {t : TypeId} {l : List Cl} (hr : kCl.C w A n l) (h : w.heap[g]? = some (.cells #[.slice X a b, .int .i64 k] t (0, 0))) :
    kCl.C ((w.setCell ⟨g, 0, none⟩ (.slice Y m c)).setCell ⟨g, 1, none⟩ (.int .i64 q)) A n l := cl_set (cl_set hr (Hb_of h) 0 _) (Hb_of (blk_put h 0 _ rfl)) 1 _
theorem below_mix {w0 w W6 W : World} {g : Nat} (hb0 : Below w0.heap.size w0 w) (hbl : Below w0.heap.size w0 W) (h6 : Below w.heap.size w W6) (hk : KeepBut W6 W g none) (hg : w.heap.size ≤ g) : Below w.heap.size w W :=
  ⟨hbl.os.trans hb0.os.symm, hbl.tape.trans hb0.tape.symm, hbl.output.trans hb0.output.symm, Nat.le_trans h6.size hk.1, fun i hi => (hk.2 i (Nat.lt_of_lt_of_le hi h6.size) (by omega) (by simp)).trans (h6.block i hi)⟩
end Go.Proofs.Ytopkoganfnabgaa.H
namespace Go.Proofs.Ytopkoganfnabgaa.H
open Go.RowKit Go.Proofs.YtopkoganfnabgaaW.PrintWords Go.Proofs.YtopkoganfnabgaaW.PrintLast Go.Proofs.YtopkoganfnabgaaW.PrintMore
attribute [local go_sem] max2_int min2_int max_two min_two max_three min_three max_four min_four
set_option linter.unusedVariables false
set_option linter.unusedSimpArgs false
theorem hdo_hold (hp : Hp) (p : Int) (W0 : World) : ∀ (W : World) (b g cap : Nat), usedB hp p = true → OwnS W0 W b g cap hp → Calls Try.prog 88 #[.pointer (some ⟨b, 0, none⟩), .int .i64 p] W fun e W' => (∃ v, e = .returned v) ∧ OwnS W0 W' b g cap (moreH hp p) ∧ KeepBut W W' g none := by
  intro W b g cap hu ho
  exact hold_walk p ho (by unfold usedB at hu; rw [Bool.and_eq_true] at hu; exact hu.1)
set_option maxHeartbeats 2000000 in
set_option maxRecDepth 100000 in
theorem heapHold_walk (A : Option Addr) (c : Nat) (hp : Hp) (p : Int) (w : World) (hr : kCl.C w A hp.c.length hp.c) (hl : hp.c.length ≤ 2000) (hcc : hp.c.length ≤ c) :
    Calls Try.prog 62 #[.agg #[.slice A hp.c.length c, .int .i64 hp.keep], .int .i64 p] w fun e w' => ∃ B cb, e = .returned (.tuple #[.agg #[.slice B (holdH hp p).1.c.length cb, .int .i64 (holdH hp p).1.keep], .int .i64 (holdH hp p).2]) ∧ (holdH hp p).1.c.length ≤ cb ∧ kCl.C w' B (holdH hp p).1.c.length (holdH hp p).1.c ∧ Below w.heap.size w w' := by
  have hch := changed_walk 88 (enters_of Try.func88 (by kernel_rfl) rfl) A c hp (moreH hp p) p ((w.alloc (.cells #[.slice A hp.c.length c, .int .i64 hp.keep] 24)).alloc (.cells #[.slice none 0 0, .int .i64 0] 24)) (Kd.C_alloc (Kd.C_alloc hr _) _) hl hcc (hdo_hold hp p _)
  obtain ⟨W1, hW1⟩ : ∃ W1, W1 = (w.alloc (.cells #[.slice A hp.c.length c, .int .i64 hp.keep] 24)).alloc (.cells #[.slice none 0 0, .int .i64 0] 24) := ⟨_, rfl⟩
  rw [← hW1] at hch
  have HB0 := Aside0.mk (show Below w.heap.size w W1 by rw [hW1]; exact below_alloc (below_alloc (Below.refl _ _) _) _)
  have HBH := Aside0.mk (show W1.heap[w.heap.size]? = some (.cells #[.slice A hp.c.length c, .int .i64 hp.keep] 24) by rw [hW1]; exact blk_alloc (blk_new w _) _)
  have HBR := Aside0.mk (show W1.heap[w.heap.size + 1]? = some (.cells #[.slice none 0 0, .int .i64 0] 24) by rw [hW1]; exact blk2 w _ _)
  have c0 := (blk_cell HBH.out 0).trans (show _ = some (Value.slice A hp.c.length c) from rfl)
  have c1 := (blk_cell HBH.out 1).trans (show _ = some (Value.int .i64 hp.keep) from rfl)
  have hW1' := Aside0.mk hW1
  obtain ⟨hq, hhq⟩ : ∃ hq, hq = (if usedB hp p then moreH hp p else hp) := ⟨_, rfl⟩
  obtain ⟨er, her⟩ : ∃ er : Int, er = (if usedB hp p then 0 else 4) := ⟨_, rfl⟩
  have hres : holdH hp p = (hq, er) := by rw [hhq, her]; unfold holdH; split <;> rfl
  rw [← hhq, ← her] at hch
  rw [hres]
  have HCH := Aside0.mk hch
  clear hr hl hcc hW1 hhq her hres hch
  go_enter Try.func62, Try.ntmps62
  (go_upto_region 1 with (fail); rw [← hW1'.out]; go_wp2_with (first | (go_at_call 95; (with_reducible refine (HCH.out).mono ?_); rintro e w2 ⟨B, cb, rfl, hcb, hk, hb⟩; have HK := Aside0.mk (And.intro hcb hk); have HB := Aside0.mk hb; have BR := Aside0.mk (blk_below HBR.out hb); have f0 := blk_frozen BR.out 0; have f1 := blk_frozen BR.out 1; have e0 := (blk_cell BR.out 0).trans (show _ = some (Value.slice none 0 0) from rfl); have e1 := (blk_cell BR.out 1).trans (show _ = some (Value.int .i64 0) from rfl); clear hcb hk hb) | fail))
  refine bodyPost_ret (results_ct rfl _ _ (w.heap.size + 1) 24 #[.slice B hq.c.length cb, .int .i64 hq.keep] (0, 0) _ rfl (hb_store BR.out) Try.underlying24 rfl (by kernel_rfl)) rfl ?_
  have hbw := HB.out
  have hbb : Below W1.heap.size W1 w2 := HB.out
  have hb2 : Below w.heap.size w ((w2.setCell ⟨w.heap.size + 1, 0, none⟩ (.slice B hq.c.length cb)).setCell ⟨w.heap.size + 1, 1, none⟩ (.int .i64 hq.keep)) := below_set (below_set (below_step HB0.out hbw) (by omega)) (by omega)
  exact ⟨B, cb, rfl, HK.out.1, cl_store HK.out.2 BR.out, hb2⟩
set_option maxHeartbeats 2000000 in
set_option maxRecDepth 100000 in
theorem heapLoose_walk (f : Nat) (A : Option Addr) (c : Nat) (hp hp' : Hp) (p er : Int) (w : World) (hr : kCl.C w A hp.c.length hp.c) (hl : hp.c.length ≤ 2000) (hcc : hp.c.length ≤ c) (e : looseH f hp p = some (hp', er)) :
    Calls Try.prog 60 #[.agg #[.slice A hp.c.length c, .int .i64 hp.keep], .int .i64 p] w fun e w' => ∃ B cb, e = .returned (.tuple #[.agg #[.slice B hp'.c.length cb, .int .i64 hp'.keep], .int .i64 er]) ∧ hp'.c.length ≤ cb ∧ kCl.C w' B hp'.c.length hp'.c ∧ Below w.heap.size w w' := by
  obtain ⟨hp2, hlo, hh', her⟩ : ∃ hp2, (usedB hp p = true → looseO f hp p = some hp2) ∧ hp' = (if usedB hp p then hp2 else hp) ∧ er = (if usedB hp p then 0 else 4) := by
    unfold looseH at e
    cases hu : usedB hp p with
    | true =>
      rw [hu, if_pos rfl] at e
      cases hq : looseO f hp p with
      | none => rw [hq] at e; cases e
      | some g => rw [hq] at e; simp only [Option.map_some, Option.some.injEq, Prod.mk.injEq] at e; exact ⟨g, fun _ => rfl, by simp [e.1], by simp [← e.2]⟩
    | false =>
      rw [hu] at e
      simp only [Bool.false_eq_true, if_false, Option.some.injEq, Prod.mk.injEq] at e
      exact ⟨hp, (fun h => by cases h), by simp [e.1], by simp [← e.2]⟩
  clear e
  have hch := changed_walk 96 (enters_of Try.func96 (by kernel_rfl) rfl) A c hp hp2 p ((w.alloc (.cells #[.slice A hp.c.length c, .int .i64 hp.keep] 24)).alloc (.cells #[.slice none 0 0, .int .i64 0] 24)) (Kd.C_alloc (Kd.C_alloc hr _) _) hl hcc (fun W b g cap hu ho => loose_walk f hp hp2 p _ W b g cap ho (hlo hu))
  obtain ⟨W1, hW1⟩ : ∃ W1, W1 = (w.alloc (.cells #[.slice A hp.c.length c, .int .i64 hp.keep] 24)).alloc (.cells #[.slice none 0 0, .int .i64 0] 24) := ⟨_, rfl⟩
  rw [← hW1] at hch
  have HB0 := Aside0.mk (show Below w.heap.size w W1 by rw [hW1]; exact below_alloc (below_alloc (Below.refl _ _) _) _)
  have HBH := Aside0.mk (show W1.heap[w.heap.size]? = some (.cells #[.slice A hp.c.length c, .int .i64 hp.keep] 24) by rw [hW1]; exact blk_alloc (blk_new w _) _)
  have HBR := Aside0.mk (show W1.heap[w.heap.size + 1]? = some (.cells #[.slice none 0 0, .int .i64 0] 24) by rw [hW1]; exact blk2 w _ _)
  have c0 := (blk_cell HBH.out 0).trans (show _ = some (Value.slice A hp.c.length c) from rfl)
  have c1 := (blk_cell HBH.out 1).trans (show _ = some (Value.int .i64 hp.keep) from rfl)
  have hW1' := Aside0.mk hW1
  rw [← hh', ← her] at hch
  have HCH := Aside0.mk hch
  clear hr hl hcc hW1 hh' her hlo hch
  go_enter Try.func60, Try.ntmps60
  (go_upto_region 1 with (fail); rw [← hW1'.out]; go_wp2_with (first | (go_at_call 95; (with_reducible refine (HCH.out).mono ?_); rintro e w2 ⟨B, cb, rfl, hcb, hk, hb⟩; have HK := Aside0.mk (And.intro hcb hk); have HB := Aside0.mk hb; have BR := Aside0.mk (blk_below HBR.out hb); have f0 := blk_frozen BR.out 0; have f1 := blk_frozen BR.out 1; have e0 := (blk_cell BR.out 0).trans (show _ = some (Value.slice none 0 0) from rfl); have e1 := (blk_cell BR.out 1).trans (show _ = some (Value.int .i64 0) from rfl); clear hcb hk hb) | fail))
  refine bodyPost_ret (results_ct rfl _ _ (w.heap.size + 1) 24 #[.slice B hp'.c.length cb, .int .i64 hp'.keep] (0, 0) _ rfl (hb_store BR.out) Try.underlying24 rfl (by kernel_rfl)) rfl ?_
  have hbw := HB.out
  have hbb : Below W1.heap.size W1 w2 := HB.out
  have hb2 : Below w.heap.size w ((w2.setCell ⟨w.heap.size + 1, 0, none⟩ (.slice B hp'.c.length cb)).setCell ⟨w.heap.size + 1, 1, none⟩ (.int .i64 hp'.keep)) := below_set (below_set (below_step HB0.out hbw) (by omega)) (by omega)
  exact ⟨B, cb, rfl, HK.out.1, cl_store HK.out.2 BR.out, hb2⟩
end Go.Proofs.Ytopkoganfnabgaa.H
