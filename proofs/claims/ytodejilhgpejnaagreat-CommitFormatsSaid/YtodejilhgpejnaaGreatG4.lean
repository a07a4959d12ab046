import Derived.Test.YtodejilhgpejnaaGreatG3
namespace Go.Proofs.YtodejilhgpejnaaGreat.Q
open Go.RowKit Go.Proofs.YtodejilhgpejnaaGreatW.PrintWords Go.Proofs.YtodejilhgpejnaaGreatW.PrintLast Go.Proofs.YtodejilhgpejnaaGreatW.PrintMore
attribute [local go_sem] max2_int min2_int max_two min_two max_three min_three max_four min_four
set_option linter.unusedVariables false
set_option linter.unusedSimpArgs false
set_option maxHeartbeats 8000000 in
set_option maxRecDepth 100000 in
theorem rheapNew_walk (n keep : Nat) (w : World) (h1 : 1 ≤ n) (h2 : n ≤ 2000) (h3 : keep ≤ n) : Calls Tryz.prog 37 #[.int .i64 n, .int .i64 keep] w fun e w' => ∃ A, e = .returned (.tuple #[.agg #[.slice A n n, .int .i64 keep], .int .i64 0]) ∧ ZC w' A n ∧ Below w.heap.size w w' := by
  have q1 : decide ((n : Int) < 1) = false := decide_eq_false (by omega)
  have q2 : decide ((2000 : Int) < (n : Int)) = false := decide_eq_false (by omega)
  have q3 : decide ((keep : Int) < 0) = false := decide_eq_false (by omega)
  have q4 : decide ((n : Int) < (keep : Int)) = false := decide_eq_false (by omega)
  have q5 : decide (n < 1) = false := decide_eq_false (by omega)
  have q6 : decide (2000 < n) = false := decide_eq_false (by omega)
  have q7 : decide (n < keep) = false := decide_eq_false (by omega)
  obtain ⟨W1, hW1⟩ : ∃ W1, W1 = w.alloc (.cells #[.slice none 0 0, .int .i64 0] 29) := ⟨_, rfl⟩
  have HR1 := Aside0.mk (show W1.heap[w.heap.size]? = some (.cells #[.slice none 0 0, .int .i64 0] 29 (0, 0)) by rw [hW1]; exact blk_new w _)
  have HB1 := Aside0.mk (show Below w.heap.size w W1 by rw [hW1]; exact below_alloc (Below.refl _ _) _)
  have hmk := mk_cells n h2 W1
  have HZ := Aside0.mk (zC_C W1 n (by omega))
  have HW1 := Aside0.mk hW1
  have hr2 := blk_alloc HR1.out (.cells (zC n).toArray 75)
  have e0 := (blk_cell hr2 0).trans (show _ = some (Value.slice none 0 0) from rfl)
  have e1 := (blk_cell hr2 1).trans (show _ = some (Value.int .i64 0) from rfl)
  have f0 := blk_frozen hr2 0
  have f1 := blk_frozen hr2 1
  have HR2 := Aside0.mk hr2
  have HZS := Aside0.mk (blk_lt HR1.out)
  clear hW1 h1 h2 h3 hr2
  go_enter Tryz.func37, Tryz.ntmps37
  go_upto_region 1 with (fail)
  rw [← HW1.out]
  go_wp2
  refine bodyPost_ret (results_ct rfl _ _ w.heap.size 29 #[.slice (some ⟨W1.heap.size, 0, none⟩) n n, .int .i64 keep] (0, 0) _ rfl (blk_put (blk_put HR2.out 0 _ rfl) 1 _ rfl) Tryz.underlying29 rfl (by kernel_rfl)) rfl ?_
  refine ⟨_, rfl, ?_, below_set (below_set (below_alloc HB1.out _) (Nat.le_refl _)) (Nat.le_refl _)⟩
  have hne : w.heap.size ≠ W1.heap.size := by have := HZS.out; omega
  exact C_blkZ HZ.out (fun _ ad e => by cases e; exact (Below.heap_setCell _ _ _ _ (show W1.heap.size ≠ w.heap.size from hne.symm)).trans (Below.heap_setCell _ _ _ _ (show W1.heap.size ≠ w.heap.size from hne.symm)))
set_option maxHeartbeats 8000000 in
set_option maxRecDepth 100000 in
theorem rheapNo_walk (n keep : Int) (w : World) (h : n < 1 ∨ 2000 < n ∨ keep < 0 ∨ n < keep) : Calls Tryz.prog 37 #[.int .i64 n, .int .i64 keep] w fun e w' => e = .returned (.tuple #[.agg #[.slice none 0 0, .int .i64 0], .int .i64 1]) ∧ Below w.heap.size w w' := by
  have HR0 := Aside0.mk (blk_new w (.cells #[.slice none 0 0, .int .i64 0] 29))
  have H := Aside0.mk h
  clear h
  obtain ⟨b1, h1⟩ : ∃ b, decide (n < 1) = b := ⟨_, rfl⟩
  obtain ⟨b2, h2⟩ : ∃ b, decide (2000 < n) = b := ⟨_, rfl⟩
  obtain ⟨b3, h3⟩ : ∃ b, decide (keep < 0) = b := ⟨_, rfl⟩
  obtain ⟨b4, h4⟩ : ∃ b, decide (n < keep) = b := ⟨_, rfl⟩
  have HA := Aside0.mk (show b1 = true ∨ b2 = true ∨ b3 = true ∨ b4 = true by
    rcases H.out with h | h | h | h
    · exact .inl (h1 ▸ decide_eq_true h)
    · exact .inr (.inl (h2 ▸ decide_eq_true h))
    · exact .inr (.inr (.inl (h3 ▸ decide_eq_true h)))
    · exact .inr (.inr (.inr (h4 ▸ decide_eq_true h))))
  have hcase : ∀ b1 b2 b3 b4 : Bool, decide (n < 1) = b1 → decide (2000 < n) = b2 → decide (keep < 0) = b3 → decide (n < keep) = b4 → (b1 = true ∨ b2 = true ∨ b3 = true ∨ b4 = true) → Calls Tryz.prog 37 #[.int .i64 n, .int .i64 keep] w fun e w' => e = .returned (.tuple #[.agg #[.slice none 0 0, .int .i64 0], .int .i64 1]) ∧ Below w.heap.size w w' := by
    clear h1 h2 h3 h4 HA H
    intro b1 b2 b3 b4 h1 h2 h3 h4 hor
    cases b1 <;> cases b2 <;> cases b3 <;> cases b4 <;> first
      | (exfalso; simp at hor; done)
      | (clear hor
         go_enter Tryz.func37, Tryz.ntmps37
         go_wp2
         refine bodyPost_ret (results_ct rfl _ _ w.heap.size 29 #[.slice none 0 0, .int .i64 0] (0, 0) _ rfl (by first | exact blk_put (blk_put HR0.out 0 _ rfl) 1 _ rfl | exact blk_new w _) Tryz.underlying29 rfl (by kernel_rfl)) rfl ?_
         exact ⟨rfl, by first | exact below_set (below_set (below_alloc (Below.refl _ _) _) (Nat.le_refl _)) (Nat.le_refl _) | exact below_alloc (Below.refl _ _) _⟩)
  exact hcase b1 b2 b3 b4 h1 h2 h3 h4 HA.out
set_option maxHeartbeats 8000000 in
set_option maxRecDepth 100000 in
theorem rstateNew_walk (n keep : Nat) (w : World) (h1 : 1 ≤ n) (h2 : n ≤ 2000) (h3 : keep ≤ n) : Calls Tryz.prog 19 #[.int .i64 n, .int .i64 keep] w fun e w' => ∃ A, e = .returned (.tuple #[.agg #[.slice A n n, .int .i64 keep, .slice none 0 0, .slice none 0 0, .int .i64 1, .int .i64 0], .int .i64 0]) ∧ ZC w' A n ∧ Below w.heap.size w w' := by
  have HB0 := Aside0.mk (show Below w.heap.size w (w.alloc (.cells #[.slice none 0 0, .int .i64 0, .slice none 0 0, .slice none 0 0, .int .i64 0, .int .i64 0] 33)) from below_alloc (Below.refl _ _) _)
  have HS0 := Aside0.mk (blk_new w (.cells #[.slice none 0 0, .int .i64 0, .slice none 0 0, .slice none 0 0, .int .i64 0, .int .i64 0] 33))
  have HN := Aside0.mk (fun W => rheapNew_walk n keep W h1 h2 h3)
  clear h1 h2 h3
  go_enter Tryz.func19, Tryz.ntmps19
  go_upto_region 2 with (first | (go_at_call 37; (with_reducible refine (HN.out _).mono ?_); rintro e w2 ⟨A, rfl, hz, hb⟩; have HZ := Aside0.mk hz; have HB := Aside0.mk (show Below w.heap.size w w2 from below_step HB0.out hb); have HS := Aside0.mk (blk_below HS0.out hb); clear hz hb) | fail)
  obtain ⟨W3, hW3⟩ : ∃ W3, W3 = w2.alloc (.cells #[.slice A n n, .int .i64 keep] 29) := ⟨_, rfl⟩
  have HH3 := Aside0.mk (show W3.heap[w2.heap.size]? = some (.cells #[.slice A n n, .int .i64 keep] 29 (0, 0)) by rw [hW3]; exact blk_new _ _)
  have HS3 := Aside0.mk (show W3.heap[w.heap.size]? = some (.cells #[.slice none 0 0, .int .i64 0, .slice none 0 0, .slice none 0 0, .int .i64 0, .int .i64 0] 33 (0, 0)) by rw [hW3]; exact blk_alloc HS.out _)
  have HZ3 := Aside0.mk (show ZC W3 A n by rw [hW3]; exact ZC_below HZ.out (below_alloc (Below.refl _ _) _))
  have HB3 := Aside0.mk (show Below w.heap.size w W3 by rw [hW3]; exact below_alloc HB.out _)
  rw [← hW3]
  clear hW3
  have h0 := (blk_cell HH3.out 0).trans (show _ = some (Value.slice A n n) from rfl)
  have h1 := (blk_cell HH3.out 1).trans (show _ = some (Value.int .i64 keep) from rfl)
  (have f0 := blk_frozen HS3.out 0; have f1 := blk_frozen HS3.out 1; have f2 := blk_frozen HS3.out 2; have f3 := blk_frozen HS3.out 3; have f4 := blk_frozen HS3.out 4; have f5 := blk_frozen HS3.out 5; have e0 := (blk_cell HS3.out 0).trans (show _ = some (Value.slice none 0 0) from rfl); have e1 := (blk_cell HS3.out 1).trans (show _ = some (Value.int .i64 0) from rfl); have e2 := (blk_cell HS3.out 2).trans (show _ = some (Value.slice none 0 0) from rfl); have e3 := (blk_cell HS3.out 3).trans (show _ = some (Value.slice none 0 0) from rfl); have e4 := (blk_cell HS3.out 4).trans (show _ = some (Value.int .i64 0) from rfl); have e5 := (blk_cell HS3.out 5).trans (show _ = some (Value.int .i64 0) from rfl))
  go_wp2
  obtain ⟨W9, hW9⟩ : ∃ W9, W9 = (((((W3.setCell ⟨w.heap.size, 0, none⟩ (.slice A n n)).setCell ⟨w.heap.size, 1, none⟩ (.int .i64 keep)).setCell ⟨w.heap.size, 2, none⟩ (.slice none 0 0)).setCell ⟨w.heap.size, 3, none⟩ (.slice none 0 0)).setCell ⟨w.heap.size, 4, none⟩ (.int .i64 1)).setCell ⟨w.heap.size, 5, none⟩ (.int .i64 0) := ⟨_, rfl⟩
  have T9 : Turn W3 W9 w.heap.size := by rw [hW9]; exact ((((((Turn.of_below (Below.refl _ _)).set 0 _).set 1 _).set 2 _).set 3 _).set 4 _).set 5 _
  have E9 : W9.heap[w.heap.size]? = some (.cells #[.slice A n n, .int .i64 keep, .slice none 0 0, .slice none 0 0, .int .i64 1, .int .i64 0] 33 (0, 0)) := by rw [hW9]; exact blk_put (blk_put (blk_put (blk_put (blk_put (blk_put HS3.out 0 _ rfl) 1 _ rfl) 2 _ rfl) 3 _ rfl) 4 _ rfl) 5 _ rfl
  rw [← hW9]
  refine bodyPost_ret (results_ct rfl _ _ w.heap.size 33 _ (0, 0) _ rfl E9 Tryz.underlying33 rfl (by kernel_rfl)) rfl ?_
  exact ⟨A, rfl, zc_no HZ3.out ⟨_, _, HS3.out, rfl⟩ T9.other, T9.low w (Nat.le_refl _) HB3.out⟩
set_option maxHeartbeats 8000000 in
set_option maxRecDepth 100000 in
theorem rstateNo_walk (n keep : Int) (w : World) (h : n < 1 ∨ 2000 < n ∨ keep < 0 ∨ n < keep) : Calls Tryz.prog 19 #[.int .i64 n, .int .i64 keep] w fun e w' => e = .returned (.tuple #[.agg #[.slice none 0 0, .int .i64 0, .slice none 0 0, .slice none 0 0, .int .i64 0, .int .i64 0], .int .i64 1]) ∧ Below w.heap.size w w' := by
  have HB0 := Aside0.mk (show Below w.heap.size w (w.alloc (.cells #[.slice none 0 0, .int .i64 0, .slice none 0 0, .slice none 0 0, .int .i64 0, .int .i64 0] 33)) from below_alloc (Below.refl _ _) _)
  have HS0 := Aside0.mk (blk_new w (.cells #[.slice none 0 0, .int .i64 0, .slice none 0 0, .slice none 0 0, .int .i64 0, .int .i64 0] 33))
  have HN := Aside0.mk (fun W => rheapNo_walk n keep W h)
  clear h
  go_enter Tryz.func19, Tryz.ntmps19
  go_upto_region 2 with (first | (go_at_call 37; (with_reducible refine (HN.out _).mono ?_); rintro e w2 ⟨rfl, hb⟩; have HB := Aside0.mk (show Below w.heap.size w w2 from below_step HB0.out hb); have HS := Aside0.mk (blk_below HS0.out hb); clear hb) | fail)
  obtain ⟨W3, hW3⟩ : ∃ W3, W3 = w2.alloc (.cells #[.slice none 0 0, .int .i64 0] 29) := ⟨_, rfl⟩
  have HS3 := Aside0.mk (show W3.heap[w.heap.size]? = some (.cells #[.slice none 0 0, .int .i64 0, .slice none 0 0, .slice none 0 0, .int .i64 0, .int .i64 0] 33 (0, 0)) by rw [hW3]; exact blk_alloc HS.out _)
  have HB3 := Aside0.mk (show Below w.heap.size w W3 by rw [hW3]; exact below_alloc HB.out _)
  rw [← hW3]
  clear hW3
  (have f0 := blk_frozen HS3.out 0; have f1 := blk_frozen HS3.out 1; have f2 := blk_frozen HS3.out 2; have f3 := blk_frozen HS3.out 3; have f4 := blk_frozen HS3.out 4; have f5 := blk_frozen HS3.out 5; have e0 := (blk_cell HS3.out 0).trans (show _ = some (Value.slice none 0 0) from rfl); have e1 := (blk_cell HS3.out 1).trans (show _ = some (Value.int .i64 0) from rfl); have e2 := (blk_cell HS3.out 2).trans (show _ = some (Value.slice none 0 0) from rfl); have e3 := (blk_cell HS3.out 3).trans (show _ = some (Value.slice none 0 0) from rfl); have e4 := (blk_cell HS3.out 4).trans (show _ = some (Value.int .i64 0) from rfl); have e5 := (blk_cell HS3.out 5).trans (show _ = some (Value.int .i64 0) from rfl))
  go_wp2
  obtain ⟨W9, hW9⟩ : ∃ W9, W9 = (((((W3.setCell ⟨w.heap.size, 0, none⟩ (.slice none 0 0)).setCell ⟨w.heap.size, 1, none⟩ (.int .i64 0)).setCell ⟨w.heap.size, 2, none⟩ (.slice none 0 0)).setCell ⟨w.heap.size, 3, none⟩ (.slice none 0 0)).setCell ⟨w.heap.size, 4, none⟩ (.int .i64 0)).setCell ⟨w.heap.size, 5, none⟩ (.int .i64 0) := ⟨_, rfl⟩
  have T9 : Turn W3 W9 w.heap.size := by rw [hW9]; exact ((((((Turn.of_below (Below.refl _ _)).set 0 _).set 1 _).set 2 _).set 3 _).set 4 _).set 5 _
  have E9 : W9.heap[w.heap.size]? = some (.cells #[.slice none 0 0, .int .i64 0, .slice none 0 0, .slice none 0 0, .int .i64 0, .int .i64 0] 33 (0, 0)) := by rw [hW9]; exact blk_put (blk_put (blk_put (blk_put (blk_put (blk_put HS3.out 0 _ rfl) 1 _ rfl) 2 _ rfl) 3 _ rfl) 4 _ rfl) 5 _ rfl
  rw [← hW9]
  refine bodyPost_ret (results_ct rfl _ _ w.heap.size 33 _ (0, 0) _ rfl E9 Tryz.underlying33 rfl (by kernel_rfl)) rfl ?_
  exact ⟨rfl, T9.low w (Nat.le_refl _) HB3.out⟩
end Go.Proofs.YtodejilhgpejnaaGreat.Q
namespace Go.Proofs.YtodejilhgpejnaaGreat.Q
open Go.RowKit Go.Proofs.YtodejilhgpejnaaGreatW.PrintWords Go.Proofs.YtodejilhgpejnaaGreatW.PrintLast Go.Proofs.YtodejilhgpejnaaGreatW.PrintMore
attribute [local go_sem] max2_int min2_int max_two min_two max_three min_three max_four min_four
set_option linter.unusedVariables false
set_option linter.unusedSimpArgs false
structure SdSt (w W : World) (A : Option Addr) (n c keep gen : Nat) : Prop where
  b0 : Below w.heap.size w W
  hs : W.heap[w.heap.size]? = some (.cells (stV A n c keep gen) 33 (0, 0))
  hr : W.heap[w.heap.size + 1]? = some (.cells stZ 33 (0, 0))
theorem SdSt.step {w W W' : World} {A : Option Addr} {n c keep gen : Nat} (s : SdSt w W A n c keep gen) (hb : Below W.heap.size W W') : SdSt w W' A n c keep gen := ⟨below_step s.b0 hb, blk_below s.hs hb, blk_below s.hr hb⟩
/-- The cells of a state. -/
def StC (W : World) (b : Nat) (A : Option Addr) (n c keep gen : Nat) : Prop := W.cell? ⟨b, 0, none⟩ = some (.slice A n c) ∧ W.cell? ⟨b, 1, none⟩ = some (.int .i64 keep) ∧ W.cell? ⟨b, 2, none⟩ = some (.slice none 0 0) ∧ W.cell? ⟨b, 3, none⟩ = some (.slice none 0 0) ∧ W.cell? ⟨b, 4, none⟩ = some (.int .i64 1) ∧ W.cell? ⟨b, 5, none⟩ = some (.int .i64 gen)
theorem stC_blk {W : World} {b : Nat} {A : Option Addr} {n c keep gen : Nat} (h : W.heap[b]? = some (.cells (stV A n c keep gen) 33 (0, 0))) : StC W b A n c keep gen :=
  ⟨(blk_cell h 0).trans rfl, (blk_cell h 1).trans rfl, (blk_cell h 2).trans rfl, (blk_cell h 3).trans rfl, (blk_cell h 4).trans rfl, (blk_cell h 5).trans rfl⟩
/-- Six stores. -/
def set6 (W : World) (b : Nat) (u0 u1 u2 u3 u4 u5 : Value) : World := (((((W.setCell ⟨b, 0, none⟩ u0).setCell ⟨b, 1, none⟩ u1).setCell ⟨b, 2, none⟩ u2).setCell ⟨b, 3, none⟩ u3).setCell ⟨b, 4, none⟩ u4).setCell ⟨b, 5, none⟩ u5
theorem set6_turn (W : World) (b : Nat) (u0 u1 u2 u3 u4 u5 : Value) : Turn W (set6 W b u0 u1 u2 u3 u4 u5) b := ((((((Turn.of_below (Below.refl _ _)).set 0 _).set 1 _).set 2 _).set 3 _).set 4 _).set 5 _
theorem set6_far {W : World} {b g : Nat} {o : Obj} (h : W.heap[g]? = some o) (hne : g ≠ b) (u0 u1 u2 u3 u4 u5 : Value) : (set6 W b u0 u1 u2 u3 u4 u5).heap[g]? = some o := ((set6_turn W b u0 u1 u2 u3 u4 u5).other g (Array.getElem?_eq_some_iff.1 h).1 hne).trans h
theorem set6_put {W : World} {b : Nat} (h : W.heap[b]? = some (.cells stZ 33 (0, 0))) (u0 u1 u2 u3 u4 u5 : Value) : (set6 W b u0 u1 u2 u3 u4 u5).heap[b]? = some (.cells #[u0, u1, u2, u3, u4, u5] 33 (0, 0)) :=
  blk_put (blk_put (blk_put (blk_put (blk_put (blk_put h 0 _ rfl) 1 _ rfl) 2 _ rfl) 3 _ rfl) 4 _ rfl) 5 _ rfl
theorem keep6 {W : World} {b g : Nat} {A : Option Addr} {n c keep gen : Nat} (h : W.heap[b]? = some (.cells (stV A n c keep gen) 33 (0, 0))) (hne : b ≠ g) (u0 u1 u2 u3 u4 u5 : Value) :
    ((((((W.setCell ⟨g, 0, none⟩ u0).setCell ⟨g, 1, none⟩ u1).setCell ⟨g, 2, none⟩ u2).setCell ⟨g, 3, none⟩ u3).setCell ⟨g, 4, none⟩ u4).setCell ⟨g, 5, none⟩ u5).cell? ⟨b, 0, none⟩ = some (.slice A n c) ∧ ((((((W.setCell ⟨g, 0, none⟩ u0).setCell ⟨g, 1, none⟩ u1).setCell ⟨g, 2, none⟩ u2).setCell ⟨g, 3, none⟩ u3).setCell ⟨g, 4, none⟩ u4).setCell ⟨g, 5, none⟩ u5).cell? ⟨b, 1, none⟩ = some (.int .i64 keep) ∧ ((((((W.setCell ⟨g, 0, none⟩ u0).setCell ⟨g, 1, none⟩ u1).setCell ⟨g, 2, none⟩ u2).setCell ⟨g, 3, none⟩ u3).setCell ⟨g, 4, none⟩ u4).setCell ⟨g, 5, none⟩ u5).cell? ⟨b, 2, none⟩ = some (.slice none 0 0) ∧ ((((((W.setCell ⟨g, 0, none⟩ u0).setCell ⟨g, 1, none⟩ u1).setCell ⟨g, 2, none⟩ u2).setCell ⟨g, 3, none⟩ u3).setCell ⟨g, 4, none⟩ u4).setCell ⟨g, 5, none⟩ u5).cell? ⟨b, 3, none⟩ = some (.slice none 0 0) ∧ ((((((W.setCell ⟨g, 0, none⟩ u0).setCell ⟨g, 1, none⟩ u1).setCell ⟨g, 2, none⟩ u2).setCell ⟨g, 3, none⟩ u3).setCell ⟨g, 4, none⟩ u4).setCell ⟨g, 5, none⟩ u5).cell? ⟨b, 4, none⟩ = some (.int .i64 1) ∧ ((((((W.setCell ⟨g, 0, none⟩ u0).setCell ⟨g, 1, none⟩ u1).setCell ⟨g, 2, none⟩ u2).setCell ⟨g, 3, none⟩ u3).setCell ⟨g, 4, none⟩ u4).setCell ⟨g, 5, none⟩ u5).cell? ⟨b, 5, none⟩ = some (.int .i64 gen) := stC_blk (set6_far h hne u0 u1 u2 u3 u4 u5)
theorem keep6d {W : World} {b g : Nat} {A : Option Addr} {n c keep gen : Nat} (h : W.heap[b]? = some (.cells (stV A n c keep gen) 33 (0, 0))) (hne : b ≠ g) (u0 u1 u2 u3 u4 u5 : Value) :
    ((((((W.setCell ⟨g, 0, none⟩ u0).setCell ⟨g, 1, none⟩ u1).setCell ⟨g, 2, none⟩ u2).setCell ⟨g, 3, none⟩ u3).setCell ⟨g, 4, none⟩ u4).setCell ⟨g, 5, none⟩ u5).drew.cell? ⟨b, 0, none⟩ = some (.slice A n c) ∧ ((((((W.setCell ⟨g, 0, none⟩ u0).setCell ⟨g, 1, none⟩ u1).setCell ⟨g, 2, none⟩ u2).setCell ⟨g, 3, none⟩ u3).setCell ⟨g, 4, none⟩ u4).setCell ⟨g, 5, none⟩ u5).drew.cell? ⟨b, 1, none⟩ = some (.int .i64 keep) ∧ ((((((W.setCell ⟨g, 0, none⟩ u0).setCell ⟨g, 1, none⟩ u1).setCell ⟨g, 2, none⟩ u2).setCell ⟨g, 3, none⟩ u3).setCell ⟨g, 4, none⟩ u4).setCell ⟨g, 5, none⟩ u5).drew.cell? ⟨b, 2, none⟩ = some (.slice none 0 0) ∧ ((((((W.setCell ⟨g, 0, none⟩ u0).setCell ⟨g, 1, none⟩ u1).setCell ⟨g, 2, none⟩ u2).setCell ⟨g, 3, none⟩ u3).setCell ⟨g, 4, none⟩ u4).setCell ⟨g, 5, none⟩ u5).drew.cell? ⟨b, 3, none⟩ = some (.slice none 0 0) ∧ ((((((W.setCell ⟨g, 0, none⟩ u0).setCell ⟨g, 1, none⟩ u1).setCell ⟨g, 2, none⟩ u2).setCell ⟨g, 3, none⟩ u3).setCell ⟨g, 4, none⟩ u4).setCell ⟨g, 5, none⟩ u5).drew.cell? ⟨b, 4, none⟩ = some (.int .i64 1) ∧ ((((((W.setCell ⟨g, 0, none⟩ u0).setCell ⟨g, 1, none⟩ u1).setCell ⟨g, 2, none⟩ u2).setCell ⟨g, 3, none⟩ u3).setCell ⟨g, 4, none⟩ u4).setCell ⟨g, 5, none⟩ u5).drew.cell? ⟨b, 5, none⟩ = some (.int .i64 gen) := stC_blk (blk_drew (set6_far h hne u0 u1 u2 u3 u4 u5))
set_option maxHeartbeats 4000000 in
set_option maxRecDepth 100000 in
theorem settled_walk (A : Option Addr) (n c keep gen : Nat) (w : World) (hz : ZC w A n) (hl : n ≤ 2000) (hg : gen ≤ 1000000) :
    Calls Tryz.prog 40 #[.agg #[.slice A n c, .int .i64 keep, .slice none 0 0, .slice none 0 0, .int .i64 1, .int .i64 gen]] w fun e w' => e = .returned (.agg #[.slice A n c, .int .i64 keep, .slice none 0 0, .slice none 0 0, .int .i64 1, .int .i64 ((gen + 1 : Nat) : Int)]) ∧ Below w.heap.size w w' := by
  obtain ⟨W1, hW1⟩ : ∃ W1, W1 = (w.alloc (.cells #[.slice A n c, .int .i64 keep, .slice none 0 0, .slice none 0 0, .int .i64 1, .int .i64 gen] 33)).alloc (.cells #[.slice none 0 0, .int .i64 0, .slice none 0 0, .slice none 0 0, .int .i64 0, .int .i64 0] 33) := ⟨_, rfl⟩
  have S1 := Aside0.mk (show SdSt w W1 A n c keep gen by rw [hW1]; exact ⟨below_alloc (below_alloc (Below.refl _ _) _) _, blk_alloc (blk_new w _) _, blk2 w _ _⟩)
  have HS := Aside0.mk (fun (W : World) (hb : Below W1.heap.size W1 W) => refSettle_walk A n c keep W (ZC_below (ZC_below hz S1.out.b0) hb) hl)
  obtain ⟨G, hG⟩ : ∃ G : Nat, G = gen + 1 := ⟨_, rfl⟩
  have hw2 : IntKind.i64.wrap ((gen : Int) + 1) = (G : Int) := by rw [hG]; simp only [IntKind.wrap_i64]; omega
  have hw3 : wrap64 ((gen : Int) + 1) = (G : Int) := by rw [hG]; unfold wrap64; omega
  rw [← hG]
  have hW1' := Aside0.mk hW1
  (have s0 := (blk_cell S1.out.hs 0).trans (show _ = some (Value.slice A n c) from rfl); have s1 := (blk_cell S1.out.hs 1).trans (show _ = some (Value.int .i64 keep) from rfl); have s2 := (blk_cell S1.out.hs 2).trans (show _ = some (Value.slice none 0 0) from rfl); have s3 := (blk_cell S1.out.hs 3).trans (show _ = some (Value.slice none 0 0) from rfl); have s4 := (blk_cell S1.out.hs 4).trans (show _ = some (Value.int .i64 1) from rfl); have s5 := (blk_cell S1.out.hs 5).trans (show _ = some (Value.int .i64 gen) from rfl))
  clear hW1 hz hl hg hG
  go_enter Tryz.func40, Tryz.ntmps40
  go_upto_region 1 with (fail)
  rw [← hW1'.out]
  go_region_held3 (fun w' => w'.cell? ⟨w.heap.size, 0, none⟩ = some (.slice A n c) ∧ w'.cell? ⟨w.heap.size, 1, none⟩ = some (.int .i64 keep) ∧ w'.cell? ⟨w.heap.size, 2, none⟩ = some (.slice none 0 0) ∧ w'.cell? ⟨w.heap.size, 3, none⟩ = some (.slice none 0 0) ∧ w'.cell? ⟨w.heap.size, 4, none⟩ = some (.int .i64 1) ∧ w'.cell? ⟨w.heap.size, 5, none⟩ = some (.int .i64 gen)) (first | with_reducible exact ⟨s0, s1, s2, s3, s4, s5⟩ | with_reducible exact K2.out | with_reducible exact K3.out | exact (fun (H : Below W1.heap.size W1 _) => ⟨bcell H s0, bcell H s1, bcell H s2, bcell H s3, bcell H s4, bcell H s5⟩) (by repeat (first | (with_reducible exact Below.refl _ _) | (with_reducible refine below_alloc ?_ _) | (with_reducible refine below_drew1 ?_) | (with_reducible refine pw_below_drewN ?_ _) | (with_reducible exact HB2.out)))) (first | (go_at_call 67; (with_reducible refine (HS.out _ (by repeat (first | (with_reducible exact Below.refl _ _) | (with_reducible refine below_alloc ?_ _) | (with_reducible refine below_drew1 ?_) | (with_reducible refine pw_below_drewN ?_ _) | (with_reducible exact Below.refl _ _)))).mono ?_); rintro e w2 ⟨rfl, hb⟩; have HB2 := Aside0.mk (show Below W1.heap.size W1 w2 from below_step (by repeat (first | (with_reducible exact Below.refl _ _) | (with_reducible refine below_alloc ?_ _) | (with_reducible refine below_drew1 ?_) | (with_reducible refine pw_below_drewN ?_ _) | (with_reducible exact Below.refl _ _))) hb); have S2 := Aside0.mk (S1.out.step HB2.out); (have f0 := blk_frozen S2.out.hr 0; have f1 := blk_frozen S2.out.hr 1; have f2 := blk_frozen S2.out.hr 2; have f3 := blk_frozen S2.out.hr 3; have f4 := blk_frozen S2.out.hr 4; have f5 := blk_frozen S2.out.hr 5; have e0 := (blk_cell S2.out.hr 0).trans (show _ = some (Value.slice none 0 0) from rfl); have e1 := (blk_cell S2.out.hr 1).trans (show _ = some (Value.int .i64 0) from rfl); have e2 := (blk_cell S2.out.hr 2).trans (show _ = some (Value.slice none 0 0) from rfl); have e3 := (blk_cell S2.out.hr 3).trans (show _ = some (Value.slice none 0 0) from rfl); have e4 := (blk_cell S2.out.hr 4).trans (show _ = some (Value.int .i64 0) from rfl); have e5 := (blk_cell S2.out.hr 5).trans (show _ = some (Value.int .i64 0) from rfl)); have K2 := Aside0.mk (keep6 S2.out.hs (Nat.ne_of_lt (Nat.lt_succ_self _)) (.slice A n c) (.int .i64 keep) (.slice none 0 0) (.slice none 0 0) (.int .i64 1) (.int .i64 (G : Int))); have K3 := Aside0.mk (keep6d S2.out.hs (Nat.ne_of_lt (Nat.lt_succ_self _)) (.slice A n c) (.int .i64 keep) (.slice none 0 0) (.slice none 0 0) (.int .i64 1) (.int .i64 (G : Int))); clear hb) | fail)
  all_goals
    obtain ⟨W9, hW9⟩ : ∃ W9, W9 = (((((w2.setCell ⟨w.heap.size + 1, 0, none⟩ (.slice A n c)).setCell ⟨w.heap.size + 1, 1, none⟩ (.int .i64 keep)).setCell ⟨w.heap.size + 1, 2, none⟩ (.slice none 0 0)).setCell ⟨w.heap.size + 1, 3, none⟩ (.slice none 0 0)).setCell ⟨w.heap.size + 1, 4, none⟩ (.int .i64 1)).setCell ⟨w.heap.size + 1, 5, none⟩ (.int .i64 G) := ⟨_, rfl⟩
    have E9 : W9.heap[w.heap.size + 1]? = some (.cells #[.slice A n c, .int .i64 keep, .slice none 0 0, .slice none 0 0, .int .i64 1, .int .i64 G] 33 (0, 0)) := by rw [hW9]; exact set6_put S2.out.hr _ _ _ _ _ _
    have T9 : Turn w2 W9 (w.heap.size + 1) := by rw [hW9]; exact set6_turn _ _ _ _ _ _ _ _
    rw [← hW9]
    clear hW9 f0 f1 f2 f3 f4 f5 e0 e1 e2 e3 e4 e5 s0 s1 s2 s3 s4 s5 K2 K3
    go_wp2
    refine bodyPost_ret (results_c1 rfl _ _ (w.heap.size + 1) 33 _ (0, 0) _ rfl E9 Tryz.underlying33 rfl (by kernel_rfl)) rfl ?_
    exact ⟨rfl, T9.low w (by omega) S2.out.b0⟩
end Go.Proofs.YtodejilhgpejnaaGreat.Q
namespace Go.Proofs.YtodejilhgpejnaaGreat.Q
open Go.RowKit Go.Proofs.YtodejilhgpejnaaGreatW.PrintWords Go.Proofs.YtodejilhgpejnaaGreatW.PrintLast Go.Proofs.YtodejilhgpejnaaGreatW.PrintMore
attribute [local go_sem] max2_int min2_int max_two min_two max_three min_three max_four min_four
set_option linter.unusedVariables false
set_option linter.unusedSimpArgs false
theorem cut8 {W : World} {b jb : Nat} {D : Option Addr} {N m : Nat} {A : Option Addr} {n c keep gen : Nat} {t t' : TypeId} (h0 : W.heap[jb]? = some (.cells #[.slice D N m, .slice none 0 0] t (0, 0))) (h1 : W.heap[b]? = some (.cells (stV A n c keep gen) t' (0, 0))) : W.cell? ⟨jb, 0, none⟩ = some (.slice D N m) ∧ W.cell? ⟨jb, 1, none⟩ = some (.slice none 0 0) ∧ W.cell? ⟨b, 0, none⟩ = some (.slice A n c) ∧ W.cell? ⟨b, 1, none⟩ = some (.int .i64 keep) ∧ W.cell? ⟨b, 2, none⟩ = some (.slice none 0 0) ∧ W.cell? ⟨b, 3, none⟩ = some (.slice none 0 0) ∧ W.cell? ⟨b, 4, none⟩ = some (.int .i64 1) ∧ W.cell? ⟨b, 5, none⟩ = some (.int .i64 gen) :=
  ⟨(blk_cell h0 0).trans rfl, (blk_cell h0 1).trans rfl, (blk_cell h1 0).trans rfl, (blk_cell h1 1).trans rfl, (blk_cell h1 2).trans rfl, (blk_cell h1 3).trans rfl, (blk_cell h1 4).trans rfl, (blk_cell h1 5).trans rfl⟩
theorem far2 {W : World} {b g : Nat} {o : Obj} (h : W.heap[g]? = some o) (hne : g ≠ b) (v0 v1 : Value) : ((W.setCell ⟨b, 0, none⟩ v0).setCell ⟨b, 1, none⟩ v1).heap[g]? = some o := ((((Turn.of_below (Below.refl _ _)).set 0 v0).set 1 v1).other g (Array.getElem?_eq_some_iff.1 h).1 hne).trans h
theorem kpA {W : World} {b jb : Nat} {D : Option Addr} {N m : Nat} {A : Option Addr} {n c keep gen : Nat} {t t' : TypeId} (h0 : W.heap[jb]? = some (.cells #[.slice D N m, .slice none 0 0] t (0, 0))) (h1 : W.heap[b + 1]? = some (.cells (stV A n c keep gen) t' (0, 0))) (hj : b + 1 + 1 + 1 < jb) (v0 v1 : Value) : ((W.setCell ⟨b + 1 + 1, 0, none⟩ v0).setCell ⟨b + 1 + 1, 1, none⟩ v1).cell? ⟨jb, 0, none⟩ = some (.slice D N m) ∧ ((W.setCell ⟨b + 1 + 1, 0, none⟩ v0).setCell ⟨b + 1 + 1, 1, none⟩ v1).cell? ⟨jb, 1, none⟩ = some (.slice none 0 0) ∧ ((W.setCell ⟨b + 1 + 1, 0, none⟩ v0).setCell ⟨b + 1 + 1, 1, none⟩ v1).cell? ⟨b + 1, 0, none⟩ = some (.slice A n c) ∧ ((W.setCell ⟨b + 1 + 1, 0, none⟩ v0).setCell ⟨b + 1 + 1, 1, none⟩ v1).cell? ⟨b + 1, 1, none⟩ = some (.int .i64 keep) ∧ ((W.setCell ⟨b + 1 + 1, 0, none⟩ v0).setCell ⟨b + 1 + 1, 1, none⟩ v1).cell? ⟨b + 1, 2, none⟩ = some (.slice none 0 0) ∧ ((W.setCell ⟨b + 1 + 1, 0, none⟩ v0).setCell ⟨b + 1 + 1, 1, none⟩ v1).cell? ⟨b + 1, 3, none⟩ = some (.slice none 0 0) ∧ ((W.setCell ⟨b + 1 + 1, 0, none⟩ v0).setCell ⟨b + 1 + 1, 1, none⟩ v1).cell? ⟨b + 1, 4, none⟩ = some (.int .i64 1) ∧ ((W.setCell ⟨b + 1 + 1, 0, none⟩ v0).setCell ⟨b + 1 + 1, 1, none⟩ v1).cell? ⟨b + 1, 5, none⟩ = some (.int .i64 gen) := cut8 (far2 h0 (show jb ≠ b + 1 + 1 by omega) v0 v1) (far2 h1 (show b + 1 ≠ b + 1 + 1 by omega) v0 v1)
theorem kpAd {W : World} {b jb : Nat} {D : Option Addr} {N m : Nat} {A : Option Addr} {n c keep gen : Nat} {t t' : TypeId} (h0 : W.heap[jb]? = some (.cells #[.slice D N m, .slice none 0 0] t (0, 0))) (h1 : W.heap[b + 1]? = some (.cells (stV A n c keep gen) t' (0, 0))) (hj : b + 1 + 1 + 1 < jb) (v0 v1 : Value) : ((W.setCell ⟨b + 1 + 1, 0, none⟩ v0).setCell ⟨b + 1 + 1, 1, none⟩ v1).drew.cell? ⟨jb, 0, none⟩ = some (.slice D N m) ∧ ((W.setCell ⟨b + 1 + 1, 0, none⟩ v0).setCell ⟨b + 1 + 1, 1, none⟩ v1).drew.cell? ⟨jb, 1, none⟩ = some (.slice none 0 0) ∧ ((W.setCell ⟨b + 1 + 1, 0, none⟩ v0).setCell ⟨b + 1 + 1, 1, none⟩ v1).drew.cell? ⟨b + 1, 0, none⟩ = some (.slice A n c) ∧ ((W.setCell ⟨b + 1 + 1, 0, none⟩ v0).setCell ⟨b + 1 + 1, 1, none⟩ v1).drew.cell? ⟨b + 1, 1, none⟩ = some (.int .i64 keep) ∧ ((W.setCell ⟨b + 1 + 1, 0, none⟩ v0).setCell ⟨b + 1 + 1, 1, none⟩ v1).drew.cell? ⟨b + 1, 2, none⟩ = some (.slice none 0 0) ∧ ((W.setCell ⟨b + 1 + 1, 0, none⟩ v0).setCell ⟨b + 1 + 1, 1, none⟩ v1).drew.cell? ⟨b + 1, 3, none⟩ = some (.slice none 0 0) ∧ ((W.setCell ⟨b + 1 + 1, 0, none⟩ v0).setCell ⟨b + 1 + 1, 1, none⟩ v1).drew.cell? ⟨b + 1, 4, none⟩ = some (.int .i64 1) ∧ ((W.setCell ⟨b + 1 + 1, 0, none⟩ v0).setCell ⟨b + 1 + 1, 1, none⟩ v1).drew.cell? ⟨b + 1, 5, none⟩ = some (.int .i64 gen) := cut8 (blk_drew (far2 h0 (show jb ≠ b + 1 + 1 by omega) v0 v1)) (blk_drew (far2 h1 (show b + 1 ≠ b + 1 + 1 by omega) v0 v1))
theorem kpB {W : World} {b jb : Nat} {D : Option Addr} {N m : Nat} {A : Option Addr} {n c keep gen : Nat} {t t' : TypeId} (h0 : W.heap[jb]? = some (.cells #[.slice D N m, .slice none 0 0] t (0, 0))) (h1 : W.heap[b + 1]? = some (.cells (stV A n c keep gen) t' (0, 0))) (hj : b + 1 + 1 + 1 < jb) (v0 v1 u0 u1 u2 u3 u4 u5 : Value) : ((((((((W.setCell ⟨b + 1 + 1, 0, none⟩ v0).setCell ⟨b + 1 + 1, 1, none⟩ v1).setCell ⟨b + 1 + 1 + 1, 0, none⟩ u0).setCell ⟨b + 1 + 1 + 1, 1, none⟩ u1).setCell ⟨b + 1 + 1 + 1, 2, none⟩ u2).setCell ⟨b + 1 + 1 + 1, 3, none⟩ u3).setCell ⟨b + 1 + 1 + 1, 4, none⟩ u4).setCell ⟨b + 1 + 1 + 1, 5, none⟩ u5).cell? ⟨jb, 0, none⟩ = some (.slice D N m) ∧ ((((((((W.setCell ⟨b + 1 + 1, 0, none⟩ v0).setCell ⟨b + 1 + 1, 1, none⟩ v1).setCell ⟨b + 1 + 1 + 1, 0, none⟩ u0).setCell ⟨b + 1 + 1 + 1, 1, none⟩ u1).setCell ⟨b + 1 + 1 + 1, 2, none⟩ u2).setCell ⟨b + 1 + 1 + 1, 3, none⟩ u3).setCell ⟨b + 1 + 1 + 1, 4, none⟩ u4).setCell ⟨b + 1 + 1 + 1, 5, none⟩ u5).cell? ⟨jb, 1, none⟩ = some (.slice none 0 0) ∧ ((((((((W.setCell ⟨b + 1 + 1, 0, none⟩ v0).setCell ⟨b + 1 + 1, 1, none⟩ v1).setCell ⟨b + 1 + 1 + 1, 0, none⟩ u0).setCell ⟨b + 1 + 1 + 1, 1, none⟩ u1).setCell ⟨b + 1 + 1 + 1, 2, none⟩ u2).setCell ⟨b + 1 + 1 + 1, 3, none⟩ u3).setCell ⟨b + 1 + 1 + 1, 4, none⟩ u4).setCell ⟨b + 1 + 1 + 1, 5, none⟩ u5).cell? ⟨b + 1, 0, none⟩ = some (.slice A n c) ∧ ((((((((W.setCell ⟨b + 1 + 1, 0, none⟩ v0).setCell ⟨b + 1 + 1, 1, none⟩ v1).setCell ⟨b + 1 + 1 + 1, 0, none⟩ u0).setCell ⟨b + 1 + 1 + 1, 1, none⟩ u1).setCell ⟨b + 1 + 1 + 1, 2, none⟩ u2).setCell ⟨b + 1 + 1 + 1, 3, none⟩ u3).setCell ⟨b + 1 + 1 + 1, 4, none⟩ u4).setCell ⟨b + 1 + 1 + 1, 5, none⟩ u5).cell? ⟨b + 1, 1, none⟩ = some (.int .i64 keep) ∧ ((((((((W.setCell ⟨b + 1 + 1, 0, none⟩ v0).setCell ⟨b + 1 + 1, 1, none⟩ v1).setCell ⟨b + 1 + 1 + 1, 0, none⟩ u0).setCell ⟨b + 1 + 1 + 1, 1, none⟩ u1).setCell ⟨b + 1 + 1 + 1, 2, none⟩ u2).setCell ⟨b + 1 + 1 + 1, 3, none⟩ u3).setCell ⟨b + 1 + 1 + 1, 4, none⟩ u4).setCell ⟨b + 1 + 1 + 1, 5, none⟩ u5).cell? ⟨b + 1, 2, none⟩ = some (.slice none 0 0) ∧ ((((((((W.setCell ⟨b + 1 + 1, 0, none⟩ v0).setCell ⟨b + 1 + 1, 1, none⟩ v1).setCell ⟨b + 1 + 1 + 1, 0, none⟩ u0).setCell ⟨b + 1 + 1 + 1, 1, none⟩ u1).setCell ⟨b + 1 + 1 + 1, 2, none⟩ u2).setCell ⟨b + 1 + 1 + 1, 3, none⟩ u3).setCell ⟨b + 1 + 1 + 1, 4, none⟩ u4).setCell ⟨b + 1 + 1 + 1, 5, none⟩ u5).cell? ⟨b + 1, 3, none⟩ = some (.slice none 0 0) ∧ ((((((((W.setCell ⟨b + 1 + 1, 0, none⟩ v0).setCell ⟨b + 1 + 1, 1, none⟩ v1).setCell ⟨b + 1 + 1 + 1, 0, none⟩ u0).setCell ⟨b + 1 + 1 + 1, 1, none⟩ u1).setCell ⟨b + 1 + 1 + 1, 2, none⟩ u2).setCell ⟨b + 1 + 1 + 1, 3, none⟩ u3).setCell ⟨b + 1 + 1 + 1, 4, none⟩ u4).setCell ⟨b + 1 + 1 + 1, 5, none⟩ u5).cell? ⟨b + 1, 4, none⟩ = some (.int .i64 1) ∧ ((((((((W.setCell ⟨b + 1 + 1, 0, none⟩ v0).setCell ⟨b + 1 + 1, 1, none⟩ v1).setCell ⟨b + 1 + 1 + 1, 0, none⟩ u0).setCell ⟨b + 1 + 1 + 1, 1, none⟩ u1).setCell ⟨b + 1 + 1 + 1, 2, none⟩ u2).setCell ⟨b + 1 + 1 + 1, 3, none⟩ u3).setCell ⟨b + 1 + 1 + 1, 4, none⟩ u4).setCell ⟨b + 1 + 1 + 1, 5, none⟩ u5).cell? ⟨b + 1, 5, none⟩ = some (.int .i64 gen) := cut8 (set6_far (far2 h0 (show jb ≠ b + 1 + 1 by omega) v0 v1) (show jb ≠ b + 1 + 1 + 1 by omega) u0 u1 u2 u3 u4 u5) (set6_far (far2 h1 (show b + 1 ≠ b + 1 + 1 by omega) v0 v1) (show b + 1 ≠ b + 1 + 1 + 1 by omega) u0 u1 u2 u3 u4 u5)
theorem kpBd {W : World} {b jb : Nat} {D : Option Addr} {N m : Nat} {A : Option Addr} {n c keep gen : Nat} {t t' : TypeId} (h0 : W.heap[jb]? = some (.cells #[.slice D N m, .slice none 0 0] t (0, 0))) (h1 : W.heap[b + 1]? = some (.cells (stV A n c keep gen) t' (0, 0))) (hj : b + 1 + 1 + 1 < jb) (v0 v1 u0 u1 u2 u3 u4 u5 : Value) : ((((((((W.setCell ⟨b + 1 + 1, 0, none⟩ v0).setCell ⟨b + 1 + 1, 1, none⟩ v1).setCell ⟨b + 1 + 1 + 1, 0, none⟩ u0).setCell ⟨b + 1 + 1 + 1, 1, none⟩ u1).setCell ⟨b + 1 + 1 + 1, 2, none⟩ u2).setCell ⟨b + 1 + 1 + 1, 3, none⟩ u3).setCell ⟨b + 1 + 1 + 1, 4, none⟩ u4).setCell ⟨b + 1 + 1 + 1, 5, none⟩ u5).drew.cell? ⟨jb, 0, none⟩ = some (.slice D N m) ∧ ((((((((W.setCell ⟨b + 1 + 1, 0, none⟩ v0).setCell ⟨b + 1 + 1, 1, none⟩ v1).setCell ⟨b + 1 + 1 + 1, 0, none⟩ u0).setCell ⟨b + 1 + 1 + 1, 1, none⟩ u1).setCell ⟨b + 1 + 1 + 1, 2, none⟩ u2).setCell ⟨b + 1 + 1 + 1, 3, none⟩ u3).setCell ⟨b + 1 + 1 + 1, 4, none⟩ u4).setCell ⟨b + 1 + 1 + 1, 5, none⟩ u5).drew.cell? ⟨jb, 1, none⟩ = some (.slice none 0 0) ∧ ((((((((W.setCell ⟨b + 1 + 1, 0, none⟩ v0).setCell ⟨b + 1 + 1, 1, none⟩ v1).setCell ⟨b + 1 + 1 + 1, 0, none⟩ u0).setCell ⟨b + 1 + 1 + 1, 1, none⟩ u1).setCell ⟨b + 1 + 1 + 1, 2, none⟩ u2).setCell ⟨b + 1 + 1 + 1, 3, none⟩ u3).setCell ⟨b + 1 + 1 + 1, 4, none⟩ u4).setCell ⟨b + 1 + 1 + 1, 5, none⟩ u5).drew.cell? ⟨b + 1, 0, none⟩ = some (.slice A n c) ∧ ((((((((W.setCell ⟨b + 1 + 1, 0, none⟩ v0).setCell ⟨b + 1 + 1, 1, none⟩ v1).setCell ⟨b + 1 + 1 + 1, 0, none⟩ u0).setCell ⟨b + 1 + 1 + 1, 1, none⟩ u1).setCell ⟨b + 1 + 1 + 1, 2, none⟩ u2).setCell ⟨b + 1 + 1 + 1, 3, none⟩ u3).setCell ⟨b + 1 + 1 + 1, 4, none⟩ u4).setCell ⟨b + 1 + 1 + 1, 5, none⟩ u5).drew.cell? ⟨b + 1, 1, none⟩ = some (.int .i64 keep) ∧ ((((((((W.setCell ⟨b + 1 + 1, 0, none⟩ v0).setCell ⟨b + 1 + 1, 1, none⟩ v1).setCell ⟨b + 1 + 1 + 1, 0, none⟩ u0).setCell ⟨b + 1 + 1 + 1, 1, none⟩ u1).setCell ⟨b + 1 + 1 + 1, 2, none⟩ u2).setCell ⟨b + 1 + 1 + 1, 3, none⟩ u3).setCell ⟨b + 1 + 1 + 1, 4, none⟩ u4).setCell ⟨b + 1 + 1 + 1, 5, none⟩ u5).drew.cell? ⟨b + 1, 2, none⟩ = some (.slice none 0 0) ∧ ((((((((W.setCell ⟨b + 1 + 1, 0, none⟩ v0).setCell ⟨b + 1 + 1, 1, none⟩ v1).setCell ⟨b + 1 + 1 + 1, 0, none⟩ u0).setCell ⟨b + 1 + 1 + 1, 1, none⟩ u1).setCell ⟨b + 1 + 1 + 1, 2, none⟩ u2).setCell ⟨b + 1 + 1 + 1, 3, none⟩ u3).setCell ⟨b + 1 + 1 + 1, 4, none⟩ u4).setCell ⟨b + 1 + 1 + 1, 5, none⟩ u5).drew.cell? ⟨b + 1, 3, none⟩ = some (.slice none 0 0) ∧ ((((((((W.setCell ⟨b + 1 + 1, 0, none⟩ v0).setCell ⟨b + 1 + 1, 1, none⟩ v1).setCell ⟨b + 1 + 1 + 1, 0, none⟩ u0).setCell ⟨b + 1 + 1 + 1, 1, none⟩ u1).setCell ⟨b + 1 + 1 + 1, 2, none⟩ u2).setCell ⟨b + 1 + 1 + 1, 3, none⟩ u3).setCell ⟨b + 1 + 1 + 1, 4, none⟩ u4).setCell ⟨b + 1 + 1 + 1, 5, none⟩ u5).drew.cell? ⟨b + 1, 4, none⟩ = some (.int .i64 1) ∧ ((((((((W.setCell ⟨b + 1 + 1, 0, none⟩ v0).setCell ⟨b + 1 + 1, 1, none⟩ v1).setCell ⟨b + 1 + 1 + 1, 0, none⟩ u0).setCell ⟨b + 1 + 1 + 1, 1, none⟩ u1).setCell ⟨b + 1 + 1 + 1, 2, none⟩ u2).setCell ⟨b + 1 + 1 + 1, 3, none⟩ u3).setCell ⟨b + 1 + 1 + 1, 4, none⟩ u4).setCell ⟨b + 1 + 1 + 1, 5, none⟩ u5).drew.cell? ⟨b + 1, 5, none⟩ = some (.int .i64 gen) := cut8 (blk_drew (set6_far (far2 h0 (show jb ≠ b + 1 + 1 by omega) v0 v1) (show jb ≠ b + 1 + 1 + 1 by omega) u0 u1 u2 u3 u4 u5)) (blk_drew (set6_far (far2 h1 (show b + 1 ≠ b + 1 + 1 by omega) v0 v1) (show b + 1 ≠ b + 1 + 1 + 1 by omega) u0 u1 u2 u3 u4 u5))
abbrev RPlanC (A0 : Option Addr) (N c0 : Nat) (A : Option Addr) (n c keep gen : Nat) (a : Nat) (S : ByteArray) (q : Nat) (T : ByteArray) (w : World) : Prop := ∀ W : World, Below w.heap.size w W → Calls Tryz.prog 38 #[.agg #[.slice A0 N c0, .slice none 0 0], .agg #[.slice A n c, .int .i64 keep, .slice none 0 0, .slice none 0 0, .int .i64 1, .int .i64 gen]] W fun e w' => ∃ g cb, e = .returned (.tuple #[.slice (some ⟨g, 0, none⟩) 4 cb, .int .i64 0]) ∧ g < w'.heap.size ∧ (∀ j u, (plan4 a S q T)[j]? = some u → w'.cell? ⟨g, j, none⟩ = some u) ∧ Below W.heap.size W w'
set_option maxHeartbeats 8000000 in
set_option maxRecDepth 100000 in
theorem rcdo_walk (A0 : Option Addr) (N c0 : Nat) (l0 : List ByteArray) (A : Option Addr) (n c keep gen : Nat) (a : Nat) (S : ByteArray) (q : Nat) (T : ByteArray) (w : World) (hN : l0.length = N) (hr : Kd.C Kd.string w A0 N l0) (hz : ZC w A n) (hn : n ≤ 2000) (hg : gen ≤ 1000000) (hbig : N ≤ 100000) (ha : a < N) (hq : q < N) (hS : S.size = 40) (hT : T.size = 40) (hpl : RPlanC A0 N c0 A n c keep gen a S q T w) :
    Calls Tryz.prog 20 #[.agg #[.slice A0 N c0, .slice none 0 0], .agg #[.slice A n c, .int .i64 keep, .slice none 0 0, .slice none 0 0, .int .i64 1, .int .i64 gen], .int .i64 (-1)] w fun e w' => ∃ D m, e = .returned (.tuple #[.agg #[.slice D N m, .slice none 0 0], .agg #[.slice A n c, .int .i64 keep, .slice none 0 0, .slice none 0 0, .int .i64 1, .int .i64 ((gen + 1 : Nat) : Int)], .int .i64 0]) ∧ N ≤ m ∧ Kd.C Kd.string w' D N ((l0.set a S).set q T) ∧ ZC w' A n ∧ Below w.heap.size w w' := by
  obtain ⟨W1, hW1⟩ : ∃ W1, W1 = (((w.alloc (.cells #[.slice A0 N c0, .slice none 0 0] 26)).alloc (.cells #[.slice A n c, .int .i64 keep, .slice none 0 0, .slice none 0 0, .int .i64 1, .int .i64 gen] 33)).alloc (.cells #[.slice none 0 0, .slice none 0 0] 26)).alloc (.cells #[.slice none 0 0, .int .i64 0, .slice none 0 0, .slice none 0 0, .int .i64 0, .int .i64 0] 33) := ⟨_, rfl⟩
  have S1 := Aside0.mk (show CdSt w W1 A0 N c0 l0 A n c keep gen by
    have hb : Below w.heap.size w W1 := by rw [hW1]; exact below_alloc (below_alloc (below_alloc (below_alloc (Below.refl _ _) _) _) _) _
    exact ⟨hb, by rw [hW1]; exact blk_alloc (blk_alloc (blk_alloc (blk_new w _) _) _) _, by rw [hW1]; exact blk_alloc (blk_alloc (blk2 w _ _) _) _, by rw [hW1]; exact blk_alloc (blk3 w _ _ _) _, by rw [hW1]; exact blk4 w _ _ _ _, Kd.C_below hr hb, ZC_below hz hb⟩)
  have HPL := Aside0.mk (fun (W : World) (hb : Below W1.heap.size W1 W) => hpl W (below_step S1.out.b0 hb))
  have HDO := Aside0.mk (fun (g cb : Nat) (W : World) (hr : Kd.C Kd.string W A0 N l0) (hg : g < W.heap.size) (hrow : ∀ j u, (plan4 a S q T)[j]? = some u → W.cell? ⟨g, j, none⟩ = some u) => rdo4_walk A0 N c0 l0 g cb a S q T W hN hr hbig ha hq hS hT hg hrow)
  obtain ⟨G, hG⟩ : ∃ G : Nat, G = gen + 1 := ⟨_, rfl⟩
  have HSD := Aside0.mk (fun (W : World) (hz : ZC W A n) => settled_walk A n c keep gen W hz hn hg)
  rw [← hG] at HSD
  rw [← hG]
  have hW1' := Aside0.mk hW1
  have HH := Aside0.mk (show N = N from rfl)
  have d0 := (blk_cell S1.out.hd 0).trans (show _ = some (Value.slice A0 N c0) from rfl)
  have d1 := (blk_cell S1.out.hd 1).trans (show _ = some (Value.slice none 0 0) from rfl)
  (have s0 := (blk_cell S1.out.hs 0).trans (show _ = some (Value.slice A n c) from rfl); have s1 := (blk_cell S1.out.hs 1).trans (show _ = some (Value.int .i64 keep) from rfl); have s2 := (blk_cell S1.out.hs 2).trans (show _ = some (Value.slice none 0 0) from rfl); have s3 := (blk_cell S1.out.hs 3).trans (show _ = some (Value.slice none 0 0) from rfl); have s4 := (blk_cell S1.out.hs 4).trans (show _ = some (Value.int .i64 1) from rfl); have s5 := (blk_cell S1.out.hs 5).trans (show _ = some (Value.int .i64 gen) from rfl))
  clear hW1 hN hr hz hn hg hbig ha hq hS hT hpl hG
  go_enter Tryz.func20, Tryz.ntmps20
  go_upto_region 1 with (fail)
  rw [← hW1'.out]
  go_upto_region 4 with (first | (go_at_call 38; (with_reducible refine (HPL.out _ (by repeat (first | (with_reducible exact Below.refl _ _) | (with_reducible refine below_alloc ?_ _) | (with_reducible refine below_drew1 ?_) | (with_reducible refine pw_below_drewN ?_ _) | (with_reducible exact Below.refl _ _)))).mono ?_); rintro e w2 ⟨g, cb, rfl, hg, hrow, hb2⟩; have HG := Aside0.mk (And.intro hg hrow); have S2 := Aside0.mk (S1.out.step hb2); clear hg hrow hb2) | fail)
  clear d0 d1 s0 s1 s2 s3 s4 s5
  have d0 := (blk_cell S2.out.hd 0).trans (show _ = some (Value.slice A0 N c0) from rfl)
  have d1 := (blk_cell S2.out.hd 1).trans (show _ = some (Value.slice none 0 0) from rfl)
  go_upto_region 7 with (first | (go_at_call 39; (with_reducible refine (HDO.out _ _ _ S2.out.str HG.out.1 HG.out.2).mono ?_); rintro e w3 ⟨D, m, rfl, hm, hC, hb⟩; have HR3 := Aside0.mk (And.intro hm hC); have S3 := Aside0.mk (S2.out.step hb); clear hm hC hb) | fail)
  obtain ⟨W4, hW4⟩ : ∃ W4, W4 = w3.alloc (.cells #[.slice D N m, .slice none 0 0] 26) := ⟨_, rfl⟩
  obtain ⟨jb, hjb⟩ : ∃ jb, jb = w3.heap.size := ⟨_, rfl⟩
  have HJ4 := Aside0.mk (show W4.heap[jb]? = some (.cells #[.slice D N m, .slice none 0 0] 26 (0, 0)) by rw [hW4, hjb]; exact blk_new _ _)
  have S4 := Aside0.mk (show CdSt w W4 A0 N c0 l0 A n c keep gen by rw [hW4]; exact S3.out.step (below_alloc (Below.refl _ _) _))
  have HR4 := Aside0.mk (show N ≤ m ∧ Kd.C Kd.string W4 D N ((l0.set a S).set q T) by rw [hW4]; exact ⟨HR3.out.1, Kd.C_alloc HR3.out.2 _⟩)
  have HLT := Aside0.mk (show w.heap.size + 1 + 1 + 1 < jb by rw [hjb]; exact blk_lt S3.out.rs)
  rw [← hW4, ← hjb]
  clear hW4 hjb d0 d1 HR3 S3
  have HC4 := Aside0.mk (cut8 HJ4.out S4.out.hs)
  have HC4d := Aside0.mk (cut8 (blk_drew HJ4.out) (blk_drew S4.out.hs))
  obtain ⟨k0, k1, s0, s1, s2, s3, s4, s5⟩ := HC4.out
  go_region_held3 (fun w' => w'.cell? ⟨jb, 0, none⟩ = some (.slice D N m) ∧ w'.cell? ⟨jb, 1, none⟩ = some (.slice none 0 0) ∧ w'.cell? ⟨w.heap.size + 1, 0, none⟩ = some (.slice A n c) ∧ w'.cell? ⟨w.heap.size + 1, 1, none⟩ = some (.int .i64 keep) ∧ w'.cell? ⟨w.heap.size + 1, 2, none⟩ = some (.slice none 0 0) ∧ w'.cell? ⟨w.heap.size + 1, 3, none⟩ = some (.slice none 0 0) ∧ w'.cell? ⟨w.heap.size + 1, 4, none⟩ = some (.int .i64 1) ∧ w'.cell? ⟨w.heap.size + 1, 5, none⟩ = some (.int .i64 gen)) (first | with_reducible exact ⟨k0, k1, s0, s1, s2, s3, s4, s5⟩ | with_reducible exact HC4d.out | with_reducible exact HC5.out | with_reducible exact K1.out | with_reducible exact K2.out | with_reducible exact K3.out | with_reducible exact K4.out) (first | (go_at_call 40; (with_reducible refine (HSD.out _ (by first | (with_reducible exact S4.out.zc) | (exact ZC_below S4.out.zc (below_drew1 (Below.refl _ _))))).mono ?_); rintro e w5 ⟨rfl, hb⟩; have HB5 := Aside0.mk (show Below W4.heap.size W4 w5 from below_step (by repeat (first | (with_reducible exact Below.refl _ _) | (with_reducible refine below_alloc ?_ _) | (with_reducible refine below_drew1 ?_) | (with_reducible refine pw_below_drewN ?_ _) | (with_reducible exact Below.refl _ _))) hb); have S5 := Aside0.mk (S4.out.step HB5.out); have HJ5 := Aside0.mk (blk_below HJ4.out HB5.out); have HC5 := Aside0.mk (cut8 HJ5.out S5.out.hs); (have f0 := blk_frozen S5.out.rs 0; have f1 := blk_frozen S5.out.rs 1; have f2 := blk_frozen S5.out.rs 2; have f3 := blk_frozen S5.out.rs 3; have f4 := blk_frozen S5.out.rs 4; have f5 := blk_frozen S5.out.rs 5; have e0 := (blk_cell S5.out.rs 0).trans (show _ = some (Value.slice none 0 0) from rfl); have e1 := (blk_cell S5.out.rs 1).trans (show _ = some (Value.int .i64 0) from rfl); have e2 := (blk_cell S5.out.rs 2).trans (show _ = some (Value.slice none 0 0) from rfl); have e3 := (blk_cell S5.out.rs 3).trans (show _ = some (Value.slice none 0 0) from rfl); have e4 := (blk_cell S5.out.rs 4).trans (show _ = some (Value.int .i64 0) from rfl); have e5 := (blk_cell S5.out.rs 5).trans (show _ = some (Value.int .i64 0) from rfl)); (have g0 := blk_frozen S5.out.rd 0; have g1 := blk_frozen S5.out.rd 1; have r0 := (blk_cell S5.out.rd 0).trans (show _ = some (Value.slice none 0 0) from rfl); have r1 := (blk_cell S5.out.rd 1).trans (show _ = some (Value.slice none 0 0) from rfl)); have K1 := Aside0.mk (kpA HJ5.out S5.out.hs HLT.out (.slice D N m) (.slice none 0 0)); have K2 := Aside0.mk (kpAd HJ5.out S5.out.hs HLT.out (.slice D N m) (.slice none 0 0)); have K3 := Aside0.mk (kpB HJ5.out S5.out.hs HLT.out (.slice D N m) (.slice none 0 0) (.slice A n c) (.int .i64 keep) (.slice none 0 0) (.slice none 0 0) (.int .i64 1) (.int .i64 G)); have K4 := Aside0.mk (kpBd HJ5.out S5.out.hs HLT.out (.slice D N m) (.slice none 0 0) (.slice A n c) (.int .i64 keep) (.slice none 0 0) (.slice none 0 0) (.int .i64 1) (.int .i64 G)); clear hb) | fail)
  all_goals
    obtain ⟨W8, hW8⟩ : ∃ W8, W8 = (w5.setCell ⟨w.heap.size + 1 + 1, 0, none⟩ (.slice D N m)).setCell ⟨w.heap.size + 1 + 1, 1, none⟩ (.slice none 0 0) := ⟨_, rfl⟩
    have T8 : Turn w5 W8 (w.heap.size + 1 + 1) := by rw [hW8]; exact ((Turn.of_below (Below.refl _ _)).set 0 _).set 1 _
    have D8 : W8.heap[w.heap.size + 1 + 1]? = some (.cells #[.slice D N m, .slice none 0 0] 26 (0, 0)) := by rw [hW8]; exact blk_put (blk_put S5.out.rd 0 _ rfl) 1 _ rfl
    have E8 := (T8.other _ (blk_lt S5.out.rs) (by omega)).trans S5.out.rs
    have Z8 := zc_no S5.out.zc ⟨_, _, S5.out.rd, rfl⟩ T8.other
    have R8 := str_no (Kd.C_below HR4.out.2 HB5.out) ⟨_, _, S5.out.rd, rfl⟩ T8.other
    have B8 := T8.low w (by omega) S5.out.b0
    rw [← hW8]
    obtain ⟨W9, hW9⟩ : ∃ W9, W9 = (((((W8.setCell ⟨w.heap.size + 1 + 1 + 1, 0, none⟩ (.slice A n c)).setCell ⟨w.heap.size + 1 + 1 + 1, 1, none⟩ (.int .i64 keep)).setCell ⟨w.heap.size + 1 + 1 + 1, 2, none⟩ (.slice none 0 0)).setCell ⟨w.heap.size + 1 + 1 + 1, 3, none⟩ (.slice none 0 0)).setCell ⟨w.heap.size + 1 + 1 + 1, 4, none⟩ (.int .i64 1)).setCell ⟨w.heap.size + 1 + 1 + 1, 5, none⟩ (.int .i64 G) := ⟨_, rfl⟩
    have T9 : Turn W8 W9 (w.heap.size + 1 + 1 + 1) := by rw [hW9]; exact set6_turn _ _ _ _ _ _ _ _
    have E9 : W9.heap[w.heap.size + 1 + 1 + 1]? = some (.cells #[.slice A n c, .int .i64 keep, .slice none 0 0, .slice none 0 0, .int .i64 1, .int .i64 G] 33 (0, 0)) := by rw [hW9]; exact set6_put E8 _ _ _ _ _ _
    have D9 := (T9.other _ (blk_lt D8) (by omega)).trans D8
    have Z9 := zc_no Z8 ⟨_, _, E8, rfl⟩ T9.other
    have R9 := str_no R8 ⟨_, _, E8, rfl⟩ T9.other
    have B9 := T9.low w (by omega) B8
    rw [← hW9]
    clear hW8 hW9 K1 K2 K3 K4 HC4 HC4d HC5 k0 k1 s0 s1 s2 s3 s4 s5 f0 f1 f2 f3 f4 f5 e0 e1 e2 e3 e4 e5 g0 g1 r0 r1
    go_wp2
    refine bodyPost_ret (results_cct rfl _ _ (w.heap.size + 1 + 1) (w.heap.size + 1 + 1 + 1) 26 33 _ _ (0, 0) (0, 0) _ _ rfl D9 Tryz.underlying26 rfl (by kernel_rfl) rfl E9 Tryz.underlying33 rfl (by kernel_rfl)) rfl ?_
    exact ⟨D, m, rfl, HR4.out.1, R9, Z9, B9⟩
end Go.Proofs.YtodejilhgpejnaaGreat.Q
namespace Go.Proofs.YtodejilhgpejnaaGreat.Q
open Go.RowKit Go.Proofs.YtodejilhgpejnaaGreatW.PrintWords Go.Proofs.YtodejilhgpejnaaGreatW.PrintLast Go.Proofs.YtodejilhgpejnaaGreatW.PrintMore
attribute [local go_sem] max2_int min2_int max_two min_two max_three min_three max_four min_four
set_option linter.unusedVariables false
set_option linter.unusedSimpArgs false
theorem rplanC_of {A0 : Option Addr} {N c0 : Nat} {l0 : List ByteArray} {A : Option Addr} {n c keep gen : Nat} {w : World} (hl : l0.length = N) (hz : ZC w A n) (h1 : 1 ≤ n) (hn : n ≤ 2000) (hk : keep ≤ n) (hg : gen ≤ 1000000) (hr0 : Kd.C Kd.string w A0 N l0) (hN : N ≤ 4000) (hcells : cellsF N = n) (hzero : ∀ j, j < areaF n → rdOf ByteArray.empty l0 ((atF n gen j : Nat) : Int) = zero40) :
    RPlanC A0 N c0 A n c keep gen (atF n gen 0) (chunkS (bookB 1 keep n) 0) ((gen + 1) % 2) (slotS keep n gen) w := by
  intro W hb
  refine (refPlan_walk A n c keep gen A0 N c0 l0 W hl (ZC_below hz hb) h1 hn hk hg (Kd.C_below hr0 hb) hN hcells hzero).mono ?_
  rintro e w' ⟨B, cb, rfl, _, hrow, hbe⟩
  exact ⟨B, cb, rfl, World.block_lt_of_cell? w' ⟨B, 0, none⟩ (hrow 0 _ rfl), hrow, hbe⟩
set_option maxHeartbeats 8000000 in
set_option maxRecDepth 100000 in
theorem rformat_walk (N keep n : Nat) (w : World) (h1 : 1 ≤ N) (h2 : N ≤ 200) (hn : cellsF N = n) (h0 : 1 ≤ n) (hk : keep ≤ n) :
    Calls Tryz.prog 6 #[.int .i64 N, .int .i64 keep] w fun e w' => ∃ D m B, e = .returned (.tuple #[.agg #[.slice D N m, .slice none 0 0], .agg #[.slice B n n, .int .i64 keep, .slice none 0 0, .slice none 0 0, .int .i64 1, .int .i64 1], .int .i64 0]) ∧ N ≤ m ∧ Kd.C Kd.string w' D N (fmtL N keep n) ∧ ZC w' B n ∧ Below w.heap.size w w' := by
  have hn2 : n ≤ 2000 := by rw [← hn]; exact (cells_spec N).1
  obtain ⟨W1, hW1⟩ : ∃ W1, W1 = (w.alloc (.cells #[.slice none 0 0, .slice none 0 0] 26)).alloc (.cells #[.slice none 0 0, .int .i64 0, .slice none 0 0, .slice none 0 0, .int .i64 0, .int .i64 0] 33) := ⟨_, rfl⟩
  have S1 := Aside0.mk (show RsSt w W1 by rw [hW1]; exact rsst w)
  have HDN := Aside0.mk (fun W => new_walk N W h1 (by omega))
  have HCE := Aside0.mk (show ∀ W, Calls Tryz.prog 10 #[.int .i64 N] W fun e w' => e = .returned (.int .i64 (n : Nat)) ∧ Below W.heap.size W w' from fun W => hn ▸ (refCells_walk N W (by omega)).mono (by rintro e w' ⟨rfl, rfl⟩; exact ⟨rfl, Below.refl _ _⟩))
  have HSN := Aside0.mk (fun W => rstateNew_walk n keep W h0 hn2 hk)
  have HDO := Aside0.mk (fun (A0 : Option Addr) (c0 : Nat) (A : Option Addr) (W : World) (hr : Kd.C Kd.string W A0 N (List.replicate N zero40)) (hz : ZC W A n) => show Calls Tryz.prog 20 #[.agg #[.slice A0 N c0, .slice none 0 0], .agg #[.slice A n n, .int .i64 keep, .slice none 0 0, .slice none 0 0, .int .i64 1, .int .i64 0], .int .i64 (-1)] W (fun e w' => ∃ D m, e = .returned (.tuple #[.agg #[.slice D N m, .slice none 0 0], .agg #[.slice A n n, .int .i64 keep, .slice none 0 0, .slice none 0 0, .int .i64 1, .int .i64 1], .int .i64 0]) ∧ N ≤ m ∧ Kd.C Kd.string w' D N (fmtL N keep n) ∧ ZC w' A n ∧ Below W.heap.size W w') from rcdo_walk A0 N c0 (List.replicate N zero40) A n n keep 0 (atF n 0 0) (chunkS (bookB 1 keep n) 0) ((0 + 1) % 2) (slotS keep n 0) W (List.length_replicate) hr hz hn2 (by decide) (by omega) (at_lt hn h0 (area_pos n)) (by have h3 := (cells_spec N).2.1; rw [hn] at h3; have := h3 h0; unfold baseF at this; omega) (chunk0_size keep n) (slotS_size keep n 0) (rplanC_of (List.length_replicate) hz h0 hn2 hk (by decide) hr (by omega) hn (fun j hj => rd_rep N _ (at_lt hn h0 hj))))
  have hW1' := Aside0.mk hW1
  clear hW1 h1 h2 hn h0 hk hn2
  go_enter Tryz.func6, Tryz.ntmps6
  go_upto_region 1 with (fail)
  rw [← hW1'.out]
  go_upto_region 2 with (first | (go_at_call 18; (with_reducible refine (HDN.out _).mono ?_); rintro e w2 ⟨A0, c0, rfl, hc, hs, hb⟩; have HR2 := Aside0.mk (And.intro hc hs); have S2 := Aside0.mk (S1.out.step hb); clear hc hs hb) | fail)
  obtain ⟨W3, hW3⟩ : ∃ W3, W3 = w2.alloc (.cells #[.slice A0 N c0, .slice none 0 0] 26) := ⟨_, rfl⟩
  obtain ⟨db, hdb⟩ : ∃ db, db = w2.heap.size := ⟨_, rfl⟩
  have HD3 := Aside0.mk (show W3.heap[db]? = some (.cells #[.slice A0 N c0, .slice none 0 0] 26 (0, 0)) by rw [hW3, hdb]; exact blk_new _ _)
  have S3 := Aside0.mk (show RsSt w W3 by rw [hW3]; exact S2.out.step (below_alloc (Below.refl _ _) _))
  have HR3 := Aside0.mk (show N ≤ c0 ∧ Kd.C Kd.string W3 A0 N (List.replicate N zero40) by rw [hW3]; exact ⟨HR2.out.1, Kd.C_alloc HR2.out.2 _⟩)
  rw [← hW3, ← hdb]
  clear hW3 hdb HR2
  go_upto_region 5 with (first | (go_at_call 10; (with_reducible refine (HCE.out _).mono ?_); rintro e w4 ⟨rfl, hb⟩; have HB4 := Aside0.mk hb; clear hb) | (go_at_call 19; (with_reducible refine (HSN.out _).mono ?_); rintro e w5 ⟨A, rfl, hz, hb⟩; have HZ5 := Aside0.mk hz; have HB5 := Aside0.mk (below_step HB4.out hb); clear hz hb) | fail)
  obtain ⟨W6, hW6⟩ : ∃ W6, W6 = w5.alloc (.cells #[.slice A n n, .int .i64 keep, .slice none 0 0, .slice none 0 0, .int .i64 1, .int .i64 0] 33) := ⟨_, rfl⟩
  obtain ⟨sb, hsb⟩ : ∃ sb, sb = w5.heap.size := ⟨_, rfl⟩
  have HB6 := Aside0.mk (show Below W3.heap.size W3 W6 by rw [hW6]; exact below_alloc HB5.out _)
  have HS6 := Aside0.mk (show W6.heap[sb]? = some (.cells #[.slice A n n, .int .i64 keep, .slice none 0 0, .slice none 0 0, .int .i64 1, .int .i64 0] 33 (0, 0)) by rw [hW6, hsb]; exact blk_new _ _)
  have HZ6 := Aside0.mk (show ZC W6 A n by rw [hW6]; exact ZC_below HZ5.out (below_alloc (Below.refl _ _) _))
  rw [← hW6, ← hsb]
  clear hW6 hsb HZ5 HB5 HB4
  have HD7 := Aside0.mk (blk_below HD3.out HB6.out)
  have HS7 := HS6
  have HZ7 := HZ6
  have HR7 := Aside0.mk (And.intro HR3.out.1 (Kd.C_below HR3.out.2 HB6.out))
  have S7 := Aside0.mk (S3.out.step HB6.out)
  have d0 := (blk_cell HD7.out 0).trans (show _ = some (Value.slice A0 N c0) from rfl)
  have d1 := (blk_cell HD7.out 1).trans (show _ = some (Value.slice none 0 0) from rfl)
  have s0 := (blk_cell HS7.out 0).trans (show _ = some (Value.slice A n n) from rfl)
  have s1 := (blk_cell HS7.out 1).trans (show _ = some (Value.int .i64 keep) from rfl)
  have s2 := (blk_cell HS7.out 2).trans (show _ = some (Value.slice none 0 0) from rfl)
  have s3 := (blk_cell HS7.out 3).trans (show _ = some (Value.slice none 0 0) from rfl)
  have s4 := (blk_cell HS7.out 4).trans (show _ = some (Value.int .i64 1) from rfl)
  have s5 := (blk_cell HS7.out 5).trans (show _ = some (Value.int .i64 0) from rfl)
  have HDO7 := Aside0.mk (HDO.out A0 c0 A W6 HR7.out.2 HZ7.out)
  go_wp2_with (first | (go_at_call 20; (with_reducible refine HDO7.out.mono ?_); rintro e w8 ⟨D, m, rfl, hm, hs, hz, hb⟩; have HR8 := Aside0.mk (And.intro hm hs); have HZ8 := Aside0.mk hz; have S8 := Aside0.mk (S7.out.step hb); (have f0 := blk_frozen S8.out.rs 0; have f1 := blk_frozen S8.out.rs 1; have f2 := blk_frozen S8.out.rs 2; have f3 := blk_frozen S8.out.rs 3; have f4 := blk_frozen S8.out.rs 4; have f5 := blk_frozen S8.out.rs 5; have e0 := (blk_cell S8.out.rs 0).trans (show _ = some (Value.slice none 0 0) from rfl); have e1 := (blk_cell S8.out.rs 1).trans (show _ = some (Value.int .i64 0) from rfl); have e2 := (blk_cell S8.out.rs 2).trans (show _ = some (Value.slice none 0 0) from rfl); have e3 := (blk_cell S8.out.rs 3).trans (show _ = some (Value.slice none 0 0) from rfl); have e4 := (blk_cell S8.out.rs 4).trans (show _ = some (Value.int .i64 0) from rfl); have e5 := (blk_cell S8.out.rs 5).trans (show _ = some (Value.int .i64 0) from rfl)); (have g0 := blk_frozen S8.out.rd 0; have g1 := blk_frozen S8.out.rd 1; have r0 := (blk_cell S8.out.rd 0).trans (show _ = some (Value.slice none 0 0) from rfl); have r1 := (blk_cell S8.out.rd 1).trans (show _ = some (Value.slice none 0 0) from rfl)); clear hm hs hz hb) | fail)
  obtain ⟨W9, hW9⟩ : ∃ W9, W9 = (w8.setCell ⟨w.heap.size, 0, none⟩ (.slice D N m)).setCell ⟨w.heap.size, 1, none⟩ (.slice none 0 0) := ⟨_, rfl⟩
  obtain ⟨W10, hW10⟩ : ∃ W10, W10 = (((((W9.setCell ⟨w.heap.size + 1, 0, none⟩ (.slice A n n)).setCell ⟨w.heap.size + 1, 1, none⟩ (.int .i64 keep)).setCell ⟨w.heap.size + 1, 2, none⟩ (.slice none 0 0)).setCell ⟨w.heap.size + 1, 3, none⟩ (.slice none 0 0)).setCell ⟨w.heap.size + 1, 4, none⟩ (.int .i64 1)).setCell ⟨w.heap.size + 1, 5, none⟩ (.int .i64 1) := ⟨_, rfl⟩
  obtain ⟨q1, q2, q3, q4, q5⟩ := rs_store S8.out hW9 hW10
  rw [← hW9, ← hW10]
  refine bodyPost_ret (results_cct rfl _ _ w.heap.size (w.heap.size + 1) 26 33 _ _ (0, 0) (0, 0) _ _ rfl q1 Tryz.underlying26 rfl (by kernel_rfl) rfl q2 Tryz.underlying33 rfl (by kernel_rfl)) rfl ?_
  exact ⟨D, m, A, rfl, HR8.out.1, q4 HR8.out.2, q5 HZ8.out, q3⟩
end Go.Proofs.YtodejilhgpejnaaGreat.Q
namespace Go.Proofs.YtodejilhgpejnaaGreat.Q
open Go.RowKit Go.Proofs.YtodejilhgpejnaaGreatW.PrintWords Go.Proofs.YtodejilhgpejnaaGreatW.PrintLast Go.Proofs.YtodejilhgpejnaaGreatW.PrintMore
attribute [local go_sem] max2_int min2_int max_two min_two max_three min_three max_four min_four
set_option linter.unusedVariables false
set_option linter.unusedSimpArgs false
set_option maxHeartbeats 8000000 in
set_option maxRecDepth 100000 in
theorem rnewNo_walk (n : Int) (w : World) (h1 : n < 1) : Calls Tryz.prog 18 #[.int .i64 n] w fun e w' => e = .returned (.tuple #[.agg #[.slice none 0 0, .slice none 0 0], .int .i64 1]) ∧ Below w.heap.size w w' := by
  have q1 : decide (n < 1) = true := decide_eq_true h1
  have HR0 := Aside0.mk (blk_new w (.cells #[.slice none 0 0, .slice none 0 0] 26))
  clear h1
  go_enter Tryz.func18, Tryz.ntmps18
  go_wp2
  refine bodyPost_ret (results_ct rfl _ _ w.heap.size 26 #[.slice none 0 0, .slice none 0 0] (0, 0) _ rfl (by first | exact blk_put (blk_put HR0.out 0 _ rfl) 1 _ rfl | exact blk_new w _) Tryz.underlying26 rfl (by kernel_rfl)) rfl ?_
  exact ⟨rfl, by first | exact below_set (below_set (below_alloc (Below.refl _ _) _) (Nat.le_refl _)) (Nat.le_refl _) | exact below_alloc (Below.refl _ _) _⟩
set_option maxHeartbeats 8000000 in
set_option maxRecDepth 100000 in
theorem rformatNo_a (blocks keep : Int) (w : World) (h : blocks < 1) : Calls Tryz.prog 6 #[.int .i64 blocks, .int .i64 keep] w fun e w' => e = .returned (.tuple #[.agg #[.slice none 0 0, .slice none 0 0], .agg #[.slice none 0 0, .int .i64 0, .slice none 0 0, .slice none 0 0, .int .i64 0, .int .i64 0], .int .i64 1]) ∧ Below w.heap.size w w' := by
  obtain ⟨W1, hW1⟩ : ∃ W1, W1 = (w.alloc (.cells #[.slice none 0 0, .slice none 0 0] 26)).alloc (.cells #[.slice none 0 0, .int .i64 0, .slice none 0 0, .slice none 0 0, .int .i64 0, .int .i64 0] 33) := ⟨_, rfl⟩
  have S1 := Aside0.mk (show RsSt w W1 by rw [hW1]; exact rsst w)
  have HDN := Aside0.mk (fun W => rnewNo_walk blocks W h)
  have hW1' := Aside0.mk hW1
  clear hW1 h
  go_enter Tryz.func6, Tryz.ntmps6
  go_upto_region 1 with (fail)
  rw [← hW1'.out]
  go_upto_region 2 with (first | (go_at_call 18; (with_reducible refine (HDN.out _).mono ?_); rintro e w2 ⟨rfl, hb⟩; have S2 := Aside0.mk (S1.out.step hb); clear hb) | fail)
  obtain ⟨W3, hW3⟩ : ∃ W3, W3 = w2.alloc (.cells #[.slice none 0 0, .slice none 0 0] 26) := ⟨_, rfl⟩
  have S3 := Aside0.mk (show RsSt w W3 by rw [hW3]; exact S2.out.step (below_alloc (Below.refl _ _) _))
  rw [← hW3]
  clear hW3
  (have f0 := blk_frozen S3.out.rs 0; have f1 := blk_frozen S3.out.rs 1; have f2 := blk_frozen S3.out.rs 2; have f3 := blk_frozen S3.out.rs 3; have f4 := blk_frozen S3.out.rs 4; have f5 := blk_frozen S3.out.rs 5; have e0 := (blk_cell S3.out.rs 0).trans (show _ = some (Value.slice none 0 0) from rfl); have e1 := (blk_cell S3.out.rs 1).trans (show _ = some (Value.int .i64 0) from rfl); have e2 := (blk_cell S3.out.rs 2).trans (show _ = some (Value.slice none 0 0) from rfl); have e3 := (blk_cell S3.out.rs 3).trans (show _ = some (Value.slice none 0 0) from rfl); have e4 := (blk_cell S3.out.rs 4).trans (show _ = some (Value.int .i64 0) from rfl); have e5 := (blk_cell S3.out.rs 5).trans (show _ = some (Value.int .i64 0) from rfl))
  (have g0 := blk_frozen S3.out.rd 0; have g1 := blk_frozen S3.out.rd 1; have r0 := (blk_cell S3.out.rd 0).trans (show _ = some (Value.slice none 0 0) from rfl); have r1 := (blk_cell S3.out.rd 1).trans (show _ = some (Value.slice none 0 0) from rfl))
  go_wp2
  obtain ⟨W9, hW9⟩ : ∃ W9, W9 = (W3.setCell ⟨w.heap.size, 0, none⟩ (.slice none 0 0)).setCell ⟨w.heap.size, 1, none⟩ (.slice none 0 0) := ⟨_, rfl⟩
  obtain ⟨W10, hW10⟩ : ∃ W10, W10 = (((((W9.setCell ⟨w.heap.size + 1, 0, none⟩ (.slice none 0 0)).setCell ⟨w.heap.size + 1, 1, none⟩ (.int .i64 0)).setCell ⟨w.heap.size + 1, 2, none⟩ (.slice none 0 0)).setCell ⟨w.heap.size + 1, 3, none⟩ (.slice none 0 0)).setCell ⟨w.heap.size + 1, 4, none⟩ (.int .i64 0)).setCell ⟨w.heap.size + 1, 5, none⟩ (.int .i64 0) := ⟨_, rfl⟩
  obtain ⟨q1, q2, q3, _, _⟩ := rs_store S3.out hW9 hW10
  rw [← hW9, ← hW10]
  refine bodyPost_ret (results_cct rfl _ _ w.heap.size (w.heap.size + 1) 26 33 _ _ (0, 0) (0, 0) _ _ rfl q1 Tryz.underlying26 rfl (by kernel_rfl) rfl q2 Tryz.underlying33 rfl (by kernel_rfl)) rfl ?_
  exact ⟨rfl, q3⟩
set_option maxHeartbeats 8000000 in
set_option maxRecDepth 100000 in
theorem rformatNo_b (N k : Nat) (keep : Int) (w : World) (h1 : 1 ≤ N) (h2 : N ≤ 200) (hn : cellsF N = k) (h : (k : Int) < 1 ∨ (2000 : Int) < (k : Int) ∨ keep < 0 ∨ (k : Int) < keep) : Calls Tryz.prog 6 #[.int .i64 N, .int .i64 keep] w fun e w' => e = .returned (.tuple #[.agg #[.slice none 0 0, .slice none 0 0], .agg #[.slice none 0 0, .int .i64 0, .slice none 0 0, .slice none 0 0, .int .i64 0, .int .i64 0], .int .i64 1]) ∧ Below w.heap.size w w' := by
  obtain ⟨W1, hW1⟩ : ∃ W1, W1 = (w.alloc (.cells #[.slice none 0 0, .slice none 0 0] 26)).alloc (.cells #[.slice none 0 0, .int .i64 0, .slice none 0 0, .slice none 0 0, .int .i64 0, .int .i64 0] 33) := ⟨_, rfl⟩
  have S1 := Aside0.mk (show RsSt w W1 by rw [hW1]; exact rsst w)
  have HDN := Aside0.mk (fun W => new_walk N W h1 (by omega))
  have HCE := Aside0.mk (show ∀ W, Calls Tryz.prog 10 #[.int .i64 N] W fun e w' => e = .returned (.int .i64 (k : Nat)) ∧ Below W.heap.size W w' from fun W => hn ▸ (refCells_walk N W (by omega)).mono (by rintro e w' ⟨rfl, rfl⟩; exact ⟨rfl, Below.refl _ _⟩))
  have HSN := Aside0.mk (fun W => rstateNo_walk k keep W h)
  have hW1' := Aside0.mk hW1
  clear hW1 h h1 h2 hn
  go_enter Tryz.func6, Tryz.ntmps6
  go_upto_region 1 with (fail)
  rw [← hW1'.out]
  go_upto_region 2 with (first | (go_at_call 18; (with_reducible refine (HDN.out _).mono ?_); rintro e w2 ⟨A0, c0, rfl, _, _, hb⟩; have S2 := Aside0.mk (S1.out.step hb); clear hb) | fail)
  obtain ⟨W3, hW3⟩ : ∃ W3, W3 = w2.alloc (.cells #[.slice A0 N c0, .slice none 0 0] 26) := ⟨_, rfl⟩
  have S3 := Aside0.mk (show RsSt w W3 by rw [hW3]; exact S2.out.step (below_alloc (Below.refl _ _) _))
  rw [← hW3]
  clear hW3
  go_upto_region 5 with (first | (go_at_call 10; (with_reducible refine (HCE.out _).mono ?_); rintro e w4 ⟨rfl, hb⟩; have HB4 := Aside0.mk hb; clear hb) | (go_at_call 19; (with_reducible refine (HSN.out _).mono ?_); rintro e w5 ⟨rfl, hb⟩; have HB5 := Aside0.mk (below_step HB4.out hb); clear hb) | fail)
  obtain ⟨W6, hW6⟩ : ∃ W6, W6 = w5.alloc (.cells #[.slice none 0 0, .int .i64 0, .slice none 0 0, .slice none 0 0, .int .i64 0, .int .i64 0] 33) := ⟨_, rfl⟩
  have S6 := Aside0.mk (show RsSt w W6 by rw [hW6]; exact S3.out.step (below_alloc HB5.out _))
  rw [← hW6]
  clear hW6 HB5 HB4
  (have f0 := blk_frozen S6.out.rs 0; have f1 := blk_frozen S6.out.rs 1; have f2 := blk_frozen S6.out.rs 2; have f3 := blk_frozen S6.out.rs 3; have f4 := blk_frozen S6.out.rs 4; have f5 := blk_frozen S6.out.rs 5; have e0 := (blk_cell S6.out.rs 0).trans (show _ = some (Value.slice none 0 0) from rfl); have e1 := (blk_cell S6.out.rs 1).trans (show _ = some (Value.int .i64 0) from rfl); have e2 := (blk_cell S6.out.rs 2).trans (show _ = some (Value.slice none 0 0) from rfl); have e3 := (blk_cell S6.out.rs 3).trans (show _ = some (Value.slice none 0 0) from rfl); have e4 := (blk_cell S6.out.rs 4).trans (show _ = some (Value.int .i64 0) from rfl); have e5 := (blk_cell S6.out.rs 5).trans (show _ = some (Value.int .i64 0) from rfl))
  (have g0 := blk_frozen S6.out.rd 0; have g1 := blk_frozen S6.out.rd 1; have r0 := (blk_cell S6.out.rd 0).trans (show _ = some (Value.slice none 0 0) from rfl); have r1 := (blk_cell S6.out.rd 1).trans (show _ = some (Value.slice none 0 0) from rfl))
  go_wp2
  obtain ⟨W9, hW9⟩ : ∃ W9, W9 = (W6.setCell ⟨w.heap.size, 0, none⟩ (.slice none 0 0)).setCell ⟨w.heap.size, 1, none⟩ (.slice none 0 0) := ⟨_, rfl⟩
  obtain ⟨W10, hW10⟩ : ∃ W10, W10 = (((((W9.setCell ⟨w.heap.size + 1, 0, none⟩ (.slice none 0 0)).setCell ⟨w.heap.size + 1, 1, none⟩ (.int .i64 0)).setCell ⟨w.heap.size + 1, 2, none⟩ (.slice none 0 0)).setCell ⟨w.heap.size + 1, 3, none⟩ (.slice none 0 0)).setCell ⟨w.heap.size + 1, 4, none⟩ (.int .i64 0)).setCell ⟨w.heap.size + 1, 5, none⟩ (.int .i64 0) := ⟨_, rfl⟩
  obtain ⟨q1, q2, q3, _, _⟩ := rs_store S6.out hW9 hW10
  rw [← hW9, ← hW10]
  refine bodyPost_ret (results_cct rfl _ _ w.heap.size (w.heap.size + 1) 26 33 _ _ (0, 0) (0, 0) _ _ rfl q1 Tryz.underlying26 rfl (by kernel_rfl) rfl q2 Tryz.underlying33 rfl (by kernel_rfl)) rfl ?_
  exact ⟨rfl, q3⟩
theorem rformatNo_walk (blocks keep : Int) (w : World) (hb : blocks ≤ 200) (h : blocks < 1 ∨ (cellsF blocks.toNat : Int) < 1 ∨ keep < 0 ∨ (cellsF blocks.toNat : Int) < keep) : Calls Tryz.prog 6 #[.int .i64 blocks, .int .i64 keep] w fun e w' => e = .returned (.tuple #[.agg #[.slice none 0 0, .slice none 0 0], .agg #[.slice none 0 0, .int .i64 0, .slice none 0 0, .slice none 0 0, .int .i64 0, .int .i64 0], .int .i64 1]) ∧ Below w.heap.size w w' := by
  by_cases h1 : blocks < 1
  · exact rformatNo_a blocks keep w h1
  · obtain ⟨N, rfl⟩ : ∃ N : Nat, blocks = (N : Int) := ⟨blocks.toNat, by omega⟩
    rw [Int.toNat_natCast] at h
    exact rformatNo_b N (cellsF N) keep w (by omega) (by omega) rfl (by omega)
end Go.Proofs.YtodejilhgpejnaaGreat.Q
namespace Go.Proofs.YtodejilhgpejnaaGreat.Q
open Go.RowKit Go.Proofs.YtodejilhgpejnaaGreatW.PrintWords Go.Proofs.YtodejilhgpejnaaGreatW.PrintLast Go.Proofs.YtodejilhgpejnaaGreatW.PrintMore
attribute [local go_sem] max2_int min2_int max_two min_two max_three min_three max_four min_four
set_option linter.unusedVariables false
set_option linter.unusedSimpArgs false
theorem sitems0_walk (w : World) : Calls Tryz.prog 68 #[.slice none 0 0, .slice none 0 0] w fun e w' => e = .returned (.bool true) ∧ Below w.heap.size w w' := by
  go_enter Tryz.func68, Tryz.ntmps68
  go_wp2
  refine wp_loop_rounds 1 ?_
  rw [rounds_succ]
  go_wp2
  go_ret
  exact ⟨rfl, Below.refl _ _⟩
theorem svols0_walk (w : World) : Calls Tryz.prog 22 #[.slice none 0 0, .slice none 0 0] w fun e w' => e = .returned (.bool true) ∧ Below w.heap.size w w' := by
  go_enter Tryz.func22, Tryz.ntmps22
  go_wp2
  refine wp_loop_rounds 1 ?_
  rw [rounds_succ]
  go_wp2
  go_ret
  exact ⟨rfl, Below.refl _ _⟩
theorem sclaims0_walk (w : World) : Calls Tryz.prog 23 #[.slice none 0 0, .slice none 0 0] w fun e w' => e = .returned (.bool true) ∧ Below w.heap.size w w' := by
  go_enter Tryz.func23, Tryz.ntmps23
  go_wp2
  refine wp_loop_rounds 1 ?_
  rw [rounds_succ]
  go_wp2
  go_ret
  exact ⟨rfl, Below.refl _ _⟩
theorem snode0_walk (w : World) : Calls Tryz.prog 41 #[.agg #[.bool false, .slice none 0 0], .agg #[.bool false, .slice none 0 0]] w fun e w' => e = .returned (.bool true) ∧ Below w.heap.size w w' := by
  have HI := Aside0.mk sitems0_walk
  go_enter Tryz.func41, Tryz.ntmps41
  go_wp2_with (first | (go_at_call 68; (with_reducible refine (HI.out _).mono ?_); rintro e w2 ⟨rfl, hb⟩; have HB := Aside0.mk (show Below w.heap.size w w2 from below_step (below_alloc (below_alloc (Below.refl _ _) _) _) hb); clear hb) | fail)
  go_ret
  exact ⟨rfl, HB.out⟩
theorem acell {W w1 : World} (hb : Below W.heap.size W w1) {p : Addr} {v : Value} (h : W.cell? p = some v) : w1.cell? p = some v := (hb.cell (World.block_lt_of_cell? W _ h)).trans h
structure ShSt (w W : World) (A : Option Addr) (n c : Nat) (A' : Option Addr) (c' keep : Nat) : Prop where
  b0 : Below w.heap.size w W
  h1 : W.heap[w.heap.size]? = some (.cells #[.slice A n c, .int .i64 keep] 29 (0, 0))
  h2 : W.heap[w.heap.size + 1]? = some (.cells #[.slice A' n c', .int .i64 keep] 29 (0, 0))
  z1 : ZC W A n
  z2 : ZC W A' n
theorem ShSt.step {w W W' : World} {A : Option Addr} {n c : Nat} {A' : Option Addr} {c' keep : Nat} (s : ShSt w W A n c A' c' keep) (hb : Below W.heap.size W W') : ShSt w W' A n c A' c' keep := ⟨below_step s.b0 hb, blk_below s.h1 hb, blk_below s.h2 hb, ZC_below s.z1 hb, ZC_below s.z2 hb⟩
set_option maxHeartbeats 8000000 in
set_option maxRecDepth 100000 in
theorem sheap_walk (A : Option Addr) (n c : Nat) (A' : Option Addr) (c' keep : Nat) (w : World) (hz : ZC w A n) (hz' : ZC w A' n) (hn : n ≤ 2000) :
    Calls Tryz.prog 21 #[.agg #[.slice A n c, .int .i64 keep], .agg #[.slice A' n c', .int .i64 keep]] w fun e w' => e = .returned (.bool true) ∧ Below w.heap.size w w' := by
  obtain ⟨W1, hW1⟩ : ∃ W1, W1 = (w.alloc (.cells #[.slice A n c, .int .i64 keep] 29)).alloc (.cells #[.slice A' n c', .int .i64 keep] 29) := ⟨_, rfl⟩
  have S1 := Aside0.mk (show ShSt w W1 A n c A' c' keep by
    have hb : Below w.heap.size w W1 := by rw [hW1]; exact below_alloc (below_alloc (Below.refl _ _) _) _
    exact ⟨hb, by rw [hW1]; exact blk_alloc (blk_new w _) _, by rw [hW1]; exact blk2 w _ _, ZC_below hz hb, ZC_below hz' hb⟩)
  have HN := Aside0.mk hn
  have hW1' := Aside0.mk hW1
  (have a0 := (blk_cell S1.out.h1 0).trans (show _ = some (Value.slice A n c) from rfl); have a1 := (blk_cell S1.out.h1 1).trans (show _ = some (Value.int .i64 keep) from rfl); have b0 := (blk_cell S1.out.h2 0).trans (show _ = some (Value.slice A' n c') from rfl); have b1 := (blk_cell S1.out.h2 1).trans (show _ = some (Value.int .i64 keep) from rfl))
  clear hW1 hz hz' hn
  go_enter Tryz.func21, Tryz.ntmps21
  go_upto_region 1 with (fail)
  rw [← hW1'.out]
  go_wp2
  go_loopg [5] n (fun g s5 wr => ∃ k : Nat, s5 = .int .i64 k ∧ k + g = n ∧ Aside0 (ShSt w wr A n c A' c' keep))
  case atStart => exact ⟨0, rfl, by omega, S1⟩
  case round =>
    clear a0 a1 b0 b1
    obtain ⟨k, rfl, hk, S2⟩ := hrel
    (have a0 := (blk_cell S2.out.h1 0).trans (show _ = some (Value.slice A n c) from rfl); have a1 := (blk_cell S2.out.h1 1).trans (show _ = some (Value.int .i64 keep) from rfl); have b0 := (blk_cell S2.out.h2 0).trans (show _ = some (Value.slice A' n c') from rfl); have b1 := (blk_cell S2.out.h2 1).trans (show _ = some (Value.int .i64 keep) from rfl))
    by_cases hlt : k < n
    · have r1 : decide (k < n) = true := decide_eq_true hlt
      have r2 : (k < n) = True := eq_true hlt
      have r3 : decide ((k : Int) < (n : Int)) = true := decide_eq_true (by omega)
      obtain ⟨g1, rfl⟩ : ∃ g1, gk = g1 + 1 := ⟨gk - 1, by omega⟩
      obtain ⟨ad, rfl, y0, y1, y2, y3⟩ := at_Z S2.out.z1 k hlt
      obtain ⟨ad', rfl, u0, u1, u2, u3⟩ := at_Z S2.out.z2 k hlt
      have HY := Aside0.mk (And.intro y0 (And.intro y1 (And.intro u0 u1)))
      have HW := Aside0.mk (show wrap64 ((k : Int) + 1) = ((k + 1 : Nat) : Int) by have := HN.out; unfold wrap64; omega)
      have HK := Aside0.mk hk
      have HSN := Aside0.mk snode0_walk
      clear hk hlt
      go_upto_region 6 with (fail)
      go_still_tail 12, (by kernel_rfl)
      go_upto_region 7 with (first | (go_at_call 41; (with_reducible refine (HSN.out _).mono ?_); rintro e w2 ⟨rfl, hb2⟩; have HB2 := Aside0.mk (show Below wr.heap.size wr w2 from below_step (by repeat (first | (with_reducible exact Below.refl _ _) | (with_reducible refine below_alloc ?_ _) | (with_reducible refine below_drew1 ?_) | (with_reducible refine pw_below_drewN ?_ _) | (with_reducible exact Below.refl _ _))) hb2); have S3 := Aside0.mk (S2.out.step HB2.out); clear hb2 a0 a1 b0 b1 y0 y1 y2 y3 u0 u1 u2 u3) | fail)
      (have a0 := (blk_cell S3.out.h1 0).trans (show _ = some (Value.slice (some ad) n c) from rfl); have a1 := (blk_cell S3.out.h1 1).trans (show _ = some (Value.int .i64 keep) from rfl); have b0 := (blk_cell S3.out.h2 0).trans (show _ = some (Value.slice (some ad') n c') from rfl); have b1 := (blk_cell S3.out.h2 1).trans (show _ = some (Value.int .i64 keep) from rfl))
      have y0 := acell HB2.out HY.out.1
      have y1 := bcell HB2.out HY.out.2.1
      have u0 := acell HB2.out HY.out.2.2.1
      have u1 := bcell HB2.out HY.out.2.2.2
      go_quiet (fail)
      go_wp2
      go_roundg g1
      case measure => omega
      case rel => exact ⟨k + 1, by rw [HW.out], by have := HK.out; omega, ⟨S3.out.step (by repeat (first | (with_reducible exact Below.refl _ _) | (with_reducible refine below_alloc ?_ _) | (with_reducible refine below_drew1 ?_) | (with_reducible refine pw_below_drewN ?_ _) | (with_reducible exact Below.refl _ _)))⟩⟩
    · have r1 : decide (k < n) = false := decide_eq_false hlt
      have r3 : decide ((k : Int) < (n : Int)) = false := decide_eq_false (by omega)
      clear hk hlt
      go_wp2
      go_ret
      exact ⟨rfl, S2.out.b0⟩
end Go.Proofs.YtodejilhgpejnaaGreat.Q
namespace Go.Proofs.YtodejilhgpejnaaGreat.Q
open Go.RowKit Go.Proofs.YtodejilhgpejnaaGreatW.PrintWords Go.Proofs.YtodejilhgpejnaaGreatW.PrintLast Go.Proofs.YtodejilhgpejnaaGreatW.PrintMore
attribute [local go_sem] max2_int min2_int max_two min_two max_three min_three max_four min_four
set_option linter.unusedVariables false
set_option linter.unusedSimpArgs false
def stW (A : Option Addr) (n c keep : Nat) (nx gn : Int) : Array Value := #[.slice A n c, .int .i64 keep, .slice none 0 0, .slice none 0 0, .int .i64 nx, .int .i64 gn]
structure SsSt (w W : World) (A : Option Addr) (n c : Nat) (A' : Option Addr) (c' keep : Nat) (nx gn : Int) : Prop where
  b0 : Below w.heap.size w W
  h1 : W.heap[w.heap.size]? = some (.cells (stW A n c keep nx gn) 33 (0, 0))
  h2 : W.heap[w.heap.size + 1]? = some (.cells (stW A' n c' keep nx gn) 33 (0, 0))
theorem SsSt.step {w W W' : World} {A : Option Addr} {n c : Nat} {A' : Option Addr} {c' keep : Nat} {nx gn : Int} (s : SsSt w W A n c A' c' keep nx gn) (hb : Below W.heap.size W W') : SsSt w W' A n c A' c' keep nx gn := ⟨below_step s.b0 hb, blk_below s.h1 hb, blk_below s.h2 hb⟩
set_option maxHeartbeats 8000000 in
set_option maxRecDepth 100000 in
theorem sstate_walk (A : Option Addr) (n c : Nat) (A' : Option Addr) (c' keep : Nat) (nx gn : Int) (w : World) (hz : ZC w A n) (hz' : ZC w A' n) (hn : n ≤ 2000) :
    Calls Tryz.prog 8 #[.agg #[.slice A n c, .int .i64 keep, .slice none 0 0, .slice none 0 0, .int .i64 nx, .int .i64 gn], .agg #[.slice A' n c', .int .i64 keep, .slice none 0 0, .slice none 0 0, .int .i64 nx, .int .i64 gn]] w fun e w' => e = .returned (.bool true) ∧ Below w.heap.size w w' := by
  obtain ⟨W1, hW1⟩ : ∃ W1, W1 = (w.alloc (.cells #[.slice A n c, .int .i64 keep, .slice none 0 0, .slice none 0 0, .int .i64 nx, .int .i64 gn] 33)).alloc (.cells #[.slice A' n c', .int .i64 keep, .slice none 0 0, .slice none 0 0, .int .i64 nx, .int .i64 gn] 33) := ⟨_, rfl⟩
  have S1 := Aside0.mk (show SsSt w W1 A n c A' c' keep nx gn by
    have hb : Below w.heap.size w W1 := by rw [hW1]; exact below_alloc (below_alloc (Below.refl _ _) _) _
    exact ⟨hb, by rw [hW1]; exact blk_alloc (blk_new w _) _, by rw [hW1]; exact blk2 w _ _⟩)
  have HH := Aside0.mk (sheap_walk A n c A' c' keep W1 (ZC_below hz S1.out.b0) (ZC_below hz' S1.out.b0) hn)
  have HV := Aside0.mk svols0_walk
  have HC := Aside0.mk sclaims0_walk
  have hW1' := Aside0.mk hW1
  (have xa := (blk_cell S1.out.h1 0).trans (show _ = some (Value.slice A n c) from rfl); have xb := (blk_cell S1.out.h1 1).trans (show _ = some (Value.int .i64 keep) from rfl); have xc := (blk_cell S1.out.h1 2).trans (show _ = some (Value.slice none 0 0) from rfl); have xd := (blk_cell S1.out.h1 3).trans (show _ = some (Value.slice none 0 0) from rfl); have xe := (blk_cell S1.out.h1 4).trans (show _ = some (Value.int .i64 nx) from rfl); have xf := (blk_cell S1.out.h1 5).trans (show _ = some (Value.int .i64 gn) from rfl))
  (have ya := (blk_cell S1.out.h2 0).trans (show _ = some (Value.slice A' n c') from rfl); have yb := (blk_cell S1.out.h2 1).trans (show _ = some (Value.int .i64 keep) from rfl); have yc := (blk_cell S1.out.h2 2).trans (show _ = some (Value.slice none 0 0) from rfl); have yd := (blk_cell S1.out.h2 3).trans (show _ = some (Value.slice none 0 0) from rfl); have ye := (blk_cell S1.out.h2 4).trans (show _ = some (Value.int .i64 nx) from rfl); have yf := (blk_cell S1.out.h2 5).trans (show _ = some (Value.int .i64 gn) from rfl))
  clear hW1 hz hz' hn
  go_enter Tryz.func8, Tryz.ntmps8
  go_upto_region 1 with (fail)
  rw [← hW1'.out]
  go_upto_region 2 with (first | (go_at_call 21; (with_reducible refine HH.out.mono ?_); rintro e w2 ⟨rfl, hb2⟩; have S2 := Aside0.mk (S1.out.step hb2); clear hb2) | fail)
  clear xa xb xc xd xe xf ya yb yc yd ye yf
  (have xa := (blk_cell S2.out.h1 0).trans (show _ = some (Value.slice A n c) from rfl); have xb := (blk_cell S2.out.h1 1).trans (show _ = some (Value.int .i64 keep) from rfl); have xc := (blk_cell S2.out.h1 2).trans (show _ = some (Value.slice none 0 0) from rfl); have xd := (blk_cell S2.out.h1 3).trans (show _ = some (Value.slice none 0 0) from rfl); have xe := (blk_cell S2.out.h1 4).trans (show _ = some (Value.int .i64 nx) from rfl); have xf := (blk_cell S2.out.h1 5).trans (show _ = some (Value.int .i64 gn) from rfl))
  (have ya := (blk_cell S2.out.h2 0).trans (show _ = some (Value.slice A' n c') from rfl); have yb := (blk_cell S2.out.h2 1).trans (show _ = some (Value.int .i64 keep) from rfl); have yc := (blk_cell S2.out.h2 2).trans (show _ = some (Value.slice none 0 0) from rfl); have yd := (blk_cell S2.out.h2 3).trans (show _ = some (Value.slice none 0 0) from rfl); have ye := (blk_cell S2.out.h2 4).trans (show _ = some (Value.int .i64 nx) from rfl); have yf := (blk_cell S2.out.h2 5).trans (show _ = some (Value.int .i64 gn) from rfl))
  go_upto_region 3 with (first | (go_at_call 22; (with_reducible refine (HV.out _).mono ?_); rintro e w3 ⟨rfl, hb2⟩; have S3 := Aside0.mk (S2.out.step hb2); clear hb2) | fail)
  clear xa xb xc xd xe xf ya yb yc yd ye yf
  (have xa := (blk_cell S3.out.h1 0).trans (show _ = some (Value.slice A n c) from rfl); have xb := (blk_cell S3.out.h1 1).trans (show _ = some (Value.int .i64 keep) from rfl); have xc := (blk_cell S3.out.h1 2).trans (show _ = some (Value.slice none 0 0) from rfl); have xd := (blk_cell S3.out.h1 3).trans (show _ = some (Value.slice none 0 0) from rfl); have xe := (blk_cell S3.out.h1 4).trans (show _ = some (Value.int .i64 nx) from rfl); have xf := (blk_cell S3.out.h1 5).trans (show _ = some (Value.int .i64 gn) from rfl))
  (have ya := (blk_cell S3.out.h2 0).trans (show _ = some (Value.slice A' n c') from rfl); have yb := (blk_cell S3.out.h2 1).trans (show _ = some (Value.int .i64 keep) from rfl); have yc := (blk_cell S3.out.h2 2).trans (show _ = some (Value.slice none 0 0) from rfl); have yd := (blk_cell S3.out.h2 3).trans (show _ = some (Value.slice none 0 0) from rfl); have ye := (blk_cell S3.out.h2 4).trans (show _ = some (Value.int .i64 nx) from rfl); have yf := (blk_cell S3.out.h2 5).trans (show _ = some (Value.int .i64 gn) from rfl))
  go_upto_region 4 with (first | (go_at_call 23; (with_reducible refine (HC.out _).mono ?_); rintro e w4 ⟨rfl, hb2⟩; have S4 := Aside0.mk (S3.out.step hb2); clear hb2) | fail)
  clear xa xb xc xd xe xf ya yb yc yd ye yf
  (have xa := (blk_cell S4.out.h1 0).trans (show _ = some (Value.slice A n c) from rfl); have xb := (blk_cell S4.out.h1 1).trans (show _ = some (Value.int .i64 keep) from rfl); have xc := (blk_cell S4.out.h1 2).trans (show _ = some (Value.slice none 0 0) from rfl); have xd := (blk_cell S4.out.h1 3).trans (show _ = some (Value.slice none 0 0) from rfl); have xe := (blk_cell S4.out.h1 4).trans (show _ = some (Value.int .i64 nx) from rfl); have xf := (blk_cell S4.out.h1 5).trans (show _ = some (Value.int .i64 gn) from rfl))
  (have ya := (blk_cell S4.out.h2 0).trans (show _ = some (Value.slice A' n c') from rfl); have yb := (blk_cell S4.out.h2 1).trans (show _ = some (Value.int .i64 keep) from rfl); have yc := (blk_cell S4.out.h2 2).trans (show _ = some (Value.slice none 0 0) from rfl); have yd := (blk_cell S4.out.h2 3).trans (show _ = some (Value.slice none 0 0) from rfl); have ye := (blk_cell S4.out.h2 4).trans (show _ = some (Value.int .i64 nx) from rfl); have yf := (blk_cell S4.out.h2 5).trans (show _ = some (Value.int .i64 gn) from rfl))
  go_wp2
  go_ret
  exact ⟨by first | rfl | simp, S4.out.b0⟩
structure SkSt (w W : World) (A : Option Addr) (N c : Nat) (A' : Option Addr) (c' : Nat) (l : List ByteArray) : Prop where
  b0 : Below w.heap.size w W
  h1 : W.heap[w.heap.size]? = some (.cells #[.slice A N c, .slice none 0 0] 26 (0, 0))
  h2 : W.heap[w.heap.size + 1]? = some (.cells #[.slice A' N c', .slice none 0 0] 26 (0, 0))
  z1 : Kd.C Kd.string W A N l
  z2 : Kd.C Kd.string W A' N l
theorem SkSt.step {w W W' : World} {A : Option Addr} {N c : Nat} {A' : Option Addr} {c' : Nat} {l : List ByteArray} (s : SkSt w W A N c A' c' l) (hb : Below W.heap.size W W') : SkSt w W' A N c A' c' l := ⟨below_step s.b0 hb, blk_below s.h1 hb, blk_below s.h2 hb, Kd.C_below s.z1 hb, Kd.C_below s.z2 hb⟩
set_option maxHeartbeats 8000000 in
set_option maxRecDepth 100000 in
theorem sdisk_walk (A : Option Addr) (N c : Nat) (A' : Option Addr) (c' : Nat) (l : List ByteArray) (w : World) (hz : Kd.C Kd.string w A N l) (hz' : Kd.C Kd.string w A' N l) (hn : N ≤ 100000) :
    Calls Tryz.prog 7 #[.agg #[.slice A N c, .slice none 0 0], .agg #[.slice A' N c', .slice none 0 0]] w fun e w' => e = .returned (.bool true) ∧ Below w.heap.size w w' := by
  obtain ⟨W1, hW1⟩ : ∃ W1, W1 = (w.alloc (.cells #[.slice A N c, .slice none 0 0] 26)).alloc (.cells #[.slice A' N c', .slice none 0 0] 26) := ⟨_, rfl⟩
  have S1 := Aside0.mk (show SkSt w W1 A N c A' c' l by
    have hb : Below w.heap.size w W1 := by rw [hW1]; exact below_alloc (below_alloc (Below.refl _ _) _) _
    exact ⟨hb, by rw [hW1]; exact blk_alloc (blk_new w _) _, by rw [hW1]; exact blk2 w _ _, Kd.C_below hz hb, Kd.C_below hz' hb⟩)
  have HN := Aside0.mk hn
  have hW1' := Aside0.mk hW1
  (have a0 := (blk_cell S1.out.h1 0).trans (show _ = some (Value.slice A N c) from rfl); have a1 := (blk_cell S1.out.h1 1).trans (show _ = some (Value.slice none 0 0) from rfl); have b0 := (blk_cell S1.out.h2 0).trans (show _ = some (Value.slice A' N c') from rfl); have b1 := (blk_cell S1.out.h2 1).trans (show _ = some (Value.slice none 0 0) from rfl))
  clear hW1 hz hz' hn
  go_enter Tryz.func7, Tryz.ntmps7
  go_upto_region 1 with (fail)
  rw [← hW1'.out]
  go_wp2
  go_loopg [5] N (fun g s5 wr => ∃ k : Nat, s5 = .int .i64 k ∧ k + g = N ∧ Aside0 (SkSt w wr A N c A' c' l))
  case atStart => exact ⟨0, rfl, by omega, S1⟩
  case round =>
    clear a0 a1 b0 b1
    obtain ⟨k, rfl, hk, S2⟩ := hrel
    (have a0 := (blk_cell S2.out.h1 0).trans (show _ = some (Value.slice A N c) from rfl); have a1 := (blk_cell S2.out.h1 1).trans (show _ = some (Value.slice none 0 0) from rfl); have b0 := (blk_cell S2.out.h2 0).trans (show _ = some (Value.slice A' N c') from rfl); have b1 := (blk_cell S2.out.h2 1).trans (show _ = some (Value.slice none 0 0) from rfl))
    by_cases hlt : k < N
    · have r1 : decide (k < N) = true := decide_eq_true hlt
      have r2 : (k < N) = True := eq_true hlt
      have r3 : decide ((k : Int) < (N : Int)) = true := decide_eq_true (by omega)
      obtain ⟨g1, rfl⟩ : ∃ g1, gk = g1 + 1 := ⟨gk - 1, by omega⟩
      obtain ⟨ad, rfl, y0⟩ := Kd.at_string S2.out.z1 (k : Int) (by omega) (by omega)
      obtain ⟨ad', rfl, u0⟩ := Kd.at_string S2.out.z2 (k : Int) (by omega) (by omega)
      rw [Int.toNat_natCast] at y0 u0
      generalize rdOf ByteArray.empty l (k : Int) = s at y0 u0
      have HW := Aside0.mk (show wrap64 ((k : Int) + 1) = ((k + 1 : Nat) : Int) by have := HN.out; unfold wrap64; omega)
      have HK := Aside0.mk hk
      clear hk hlt
      go_wp2
      go_quiet (fail)
      go_wp2
      go_roundg g1
      case measure => omega
      case rel => exact ⟨k + 1, by rw [HW.out], by have := HK.out; omega, ⟨S2.out.step (by repeat (first | (with_reducible exact Below.refl _ _) | (with_reducible refine below_alloc ?_ _) | (with_reducible refine below_drew1 ?_) | (with_reducible refine pw_below_drewN ?_ _) | (with_reducible exact Below.refl _ _)))⟩⟩
    · have r1 : decide (k < N) = false := decide_eq_false hlt
      have r3 : decide ((k : Int) < (N : Int)) = false := decide_eq_false (by omega)
      clear hk hlt
      go_wp2
      refine wp_loop_rounds 1 ?_
      rw [rounds_succ]
      go_wp2
      go_ret
      exact ⟨rfl, S2.out.b0⟩
end Go.Proofs.YtodejilhgpejnaaGreat.Q
namespace Go.Proofs.YtodejilhgpejnaaGreat.Q
open Go.RowKit Go.Proofs.YtodejilhgpejnaaGreatW.PrintWords Go.Proofs.YtodejilhgpejnaaGreatW.PrintLast Go.Proofs.YtodejilhgpejnaaGreatW.PrintMore
attribute [local go_sem] max2_int min2_int max_two min_two max_three min_three max_four min_four
set_option linter.unusedVariables false
set_option linter.unusedSimpArgs false
set_option maxHeartbeats 8000000 in
set_option maxRecDepth 100000 in
theorem right_walk (A : Option Addr) (N c : Nat) (l : List ByteArray) (w : World) (hz : Kd.C Kd.string w A N l) (h0 : 1 ≤ N) (hn : N ≤ 4000) (hs : ∀ k, k < N → (rdOf ByteArray.empty l (k : Int)).size = 40) :
    Calls Tryz.prog 9 #[.agg #[.slice A N c, .slice none 0 0]] w fun e w' => e = .returned (.bool true) ∧ Below w.heap.size w w' := by
  obtain ⟨W1, hW1⟩ : ∃ W1, W1 = w.alloc (.cells #[.slice A N c, .slice none 0 0] 26) := ⟨_, rfl⟩
  have HB := Aside0.mk (show Below w.heap.size w W1 by rw [hW1]; exact below_alloc (Below.refl _ _) _)
  have HD := Aside0.mk (show W1.heap[w.heap.size]? = some (.cells #[.slice A N c, .slice none 0 0] 26 (0, 0)) by rw [hW1]; exact blk_new w _)
  have HZ := Aside0.mk (Kd.C_below hz HB.out)
  have HN := Aside0.mk hn
  have HS := Aside0.mk hs
  have hW1' := Aside0.mk hW1
  have a0 := (blk_cell HD.out 0).trans (show _ = some (Value.slice A N c) from rfl)
  have a1 := (blk_cell HD.out 1).trans (show _ = some (Value.slice none 0 0) from rfl)
  have q0 : decide (N < 1) = false := decide_eq_false (by omega)
  have q1 : decide ((N : Int) < 1) = false := decide_eq_false (by omega)
  have q2 : decide (4000 < N) = false := decide_eq_false (by omega)
  have q3 : decide ((4000 : Int) < (N : Int)) = false := decide_eq_false (by omega)
  clear hW1 hz hn h0 hs
  go_enter Tryz.func9, Tryz.ntmps9
  go_upto_region 1 with (fail)
  rw [← hW1'.out]
  go_wp2
  go_loopg [3] N (fun g s3 wr => ∃ k : Nat, s3 = .int .i64 k ∧ k + g = N ∧ wr = W1)
  case atStart => exact ⟨0, rfl, by omega, rfl⟩
  case round =>
    obtain ⟨k, rfl, hk, rfl⟩ := hrel
    by_cases hlt : k < N
    · have r1 : decide (k < N) = true := decide_eq_true hlt
      have r2 : (k < N) = True := eq_true hlt
      have r3 : decide ((k : Int) < (N : Int)) = true := decide_eq_true (by omega)
      obtain ⟨g1, rfl⟩ : ∃ g1, gk = g1 + 1 := ⟨gk - 1, by omega⟩
      obtain ⟨ad, rfl, y0⟩ := Kd.at_string HZ.out (k : Int) (by omega) (by omega)
      have hsz := HS.out k hlt
      rw [Int.toNat_natCast] at y0
      generalize rdOf ByteArray.empty l (k : Int) = s at y0 hsz
      have HW := Aside0.mk (show wrap64 ((k : Int) + 1) = ((k + 1 : Nat) : Int) by have := HN.out; unfold wrap64; omega)
      have HK := Aside0.mk hk
      clear hk hlt
      go_wp2
      go_roundg g1
      case measure => omega
      case rel => exact ⟨k + 1, by rw [HW.out], by have := HK.out; omega, rfl⟩
    · have r1 : decide (k < N) = false := decide_eq_false hlt
      have r3 : decide ((k : Int) < (N : Int)) = false := decide_eq_false (by omega)
      clear hk hlt
      go_wp2
      refine wp_loop_rounds 1 ?_
      rw [rounds_succ]
      go_wp2
      go_ret
      exact ⟨rfl, HB.out⟩
theorem fmt_size (N keep n : Nat) (k : Nat) (hk : k < N) : (rdOf ByteArray.empty (fmtL N keep n) (k : Int)).size = 40 := by
  have hl : (fmtL N keep n).length = N := by simp [fmtL]
  rw [getElem_rdOf _ _ _ (by rw [hl]; exact hk)]
  unfold fmtL
  rw [List.getElem_set]
  split
  · exact slotS_size keep n 0
  · rw [List.getElem_set]
    split
    · exact chunk0_size keep n
    · rw [List.getElem_replicate]
      decide +kernel
end Go.Proofs.YtodejilhgpejnaaGreat.Q
namespace Go.Proofs.YtodejilhgpejnaaGreat.Q
open Go.RowKit Go.Proofs.YtodejilhgpejnaaGreatW.PrintWords Go.Proofs.YtodejilhgpejnaaGreatW.PrintLast Go.Proofs.YtodejilhgpejnaaGreatW.PrintMore
attribute [local go_sem] max2_int min2_int max_two min_two max_three min_three max_four min_four
set_option linter.unusedVariables false
set_option linter.unusedSimpArgs false
set_option maxHeartbeats 8000000 in
set_option maxRecDepth 100000 in
theorem many_walk (A0 : Option Addr) (N c0 : Nat) (A : Option Addr) (n c keep gen a : Nat) (S : ByteArray) (q : Nat) (T : ByteArray) (w : World) (hpl : PlanC A0 N c0 A n c keep gen a S q T w) :
    Calls Tryz.prog 11 #[.agg #[.slice A0 N c0, .slice none 0 0], .agg #[.slice A n c, .int .i64 keep, .slice none 0 0, .slice none 0 0, .int .i64 1, .int .i64 gen]] w fun e w' => e = .returned (.tuple #[.int .i64 4, .int .i64 0]) ∧ Below w.heap.size w w' := by
  have HPL := Aside0.mk hpl
  clear hpl
  go_enter Tryz.func11, Tryz.ntmps11
  go_wp2_with (first | (go_at_call 26; (with_reducible refine (HPL.out _ (by repeat (first | (with_reducible exact Below.refl _ _) | (with_reducible refine below_alloc ?_ _) | (with_reducible refine below_drew1 ?_) | (with_reducible refine pw_below_drewN ?_ _) | (with_reducible exact Below.refl _ _)))).mono ?_); rintro e w2 ⟨g, cb, rfl, hg, hrow, hb2⟩; have HB := Aside0.mk (show Below w.heap.size w w2 from below_step (below_alloc (below_alloc (Below.refl _ _) _) _) hb2); clear hg hrow hb2) | fail)
  go_ret2
  exact ⟨rfl, HB.out⟩
structure FoSt (w W : World) (A : Option Addr) (n c keep : Nat) (gn : Int) (A' : Option Addr) (c' keep' : Nat) (gn' : Int) : Prop where
  b0 : Below w.heap.size w W
  h1 : W.heap[w.heap.size]? = some (.cells (stW A n c keep 1 gn) 33 (0, 0))
  h2 : W.heap[w.heap.size + 1]? = some (.cells (stW A' n c' keep' 1 gn') 33 (0, 0))
  z1 : ZC W A n
  z2 : ZC W A' n
theorem FoSt.step {w W W' : World} {A : Option Addr} {n c keep : Nat} {gn : Int} {A' : Option Addr} {c' keep' : Nat} {gn' : Int} (s : FoSt w W A n c keep gn A' c' keep' gn') (hb : Below W.heap.size W W') : FoSt w W' A n c keep gn A' c' keep' gn' := ⟨below_step s.b0 hb, blk_below s.h1 hb, blk_below s.h2 hb, ZC_below s.z1 hb, ZC_below s.z2 hb⟩
set_option maxHeartbeats 8000000 in
set_option maxRecDepth 100000 in
theorem follows_walk (A : Option Addr) (n c keep : Nat) (gn : Int) (A' : Option Addr) (c' keep' : Nat) (gn' : Int) (w : World) (hz : ZC w A n) (hz' : ZC w A' n) (hn : n ≤ 2000) :
    Calls Tryz.prog 13 #[.agg #[.slice A n c, .int .i64 keep, .slice none 0 0, .slice none 0 0, .int .i64 1, .int .i64 gn], .agg #[.slice A' n c', .int .i64 keep', .slice none 0 0, .slice none 0 0, .int .i64 1, .int .i64 gn']] w fun e w' => e = .returned (.bool true) ∧ Below w.heap.size w w' := by
  obtain ⟨W1, hW1⟩ : ∃ W1, W1 = (w.alloc (.cells #[.slice A n c, .int .i64 keep, .slice none 0 0, .slice none 0 0, .int .i64 1, .int .i64 gn] 33)).alloc (.cells #[.slice A' n c', .int .i64 keep', .slice none 0 0, .slice none 0 0, .int .i64 1, .int .i64 gn'] 33) := ⟨_, rfl⟩
  have S1 := Aside0.mk (show FoSt w W1 A n c keep gn A' c' keep' gn' by
    have hb : Below w.heap.size w W1 := by rw [hW1]; exact below_alloc (below_alloc (Below.refl _ _) _) _
    exact ⟨hb, by rw [hW1]; exact blk_alloc (blk_new w _) _, by rw [hW1]; exact blk2 w _ _, ZC_below hz hb, ZC_below hz' hb⟩)
  have HN := Aside0.mk hn
  have hW1' := Aside0.mk hW1
  have a0 := (blk_cell S1.out.h1 0).trans (show _ = some (Value.slice A n c) from rfl)
  have b0 := (blk_cell S1.out.h2 0).trans (show _ = some (Value.slice A' n c') from rfl)
  clear hW1 hz hz' hn
  go_enter Tryz.func13, Tryz.ntmps13
  go_upto_region 1 with (fail)
  rw [← hW1'.out]
  go_wp2
  go_loopg [21] n (fun g s21 wr => ∃ k : Nat, s21 = .int .i64 k ∧ k + g = n ∧ Aside0 (FoSt w wr A n c keep gn A' c' keep' gn'))
  case atStart => exact ⟨0, rfl, by omega, S1⟩
  case round =>
    clear a0 b0
    obtain ⟨k, rfl, hk, S2⟩ := hrel
    by_cases hlt : k < n
    · have r1 : decide (k < n) = true := decide_eq_true hlt
      have r2 : (k < n) = True := eq_true hlt
      have r3 : decide ((k : Int) < (n : Int)) = true := decide_eq_true (by omega)
      obtain ⟨g1, rfl⟩ : ∃ g1, gk = g1 + 1 := ⟨gk - 1, by omega⟩
      obtain ⟨W3, hW3⟩ : ∃ W3, W3 = wr.alloc (.cells #[.int .i64 0, .bool false, .bool false, .slice none 0 0] 75) := ⟨_, rfl⟩
      have S3 := Aside0.mk (show FoSt w W3 A n c keep gn A' c' keep' gn' by rw [hW3]; exact S2.out.step (below_alloc (Below.refl _ _) _))
      have HB3 := Aside0.mk (show Below wr.heap.size wr W3 by rw [hW3]; exact below_alloc (Below.refl _ _) _)
      have b0 := (blk_cell S3.out.h2 0).trans (show _ = some (Value.slice A' n c') from rfl)
      rw [hW3] at b0
      obtain ⟨ad, rfl, y0, y1, y2, y3⟩ := at_Z S2.out.z1 k hlt
      obtain ⟨ad', rfl, u0, u1, u2, u3⟩ := at_Z S3.out.z2 k hlt
      rw [hW3] at u0 u1 u2 u3
      have HW := Aside0.mk (show wrap64 ((k : Int) + 1) = ((k + 1 : Nat) : Int) by have := HN.out; unfold wrap64; omega)
      have HK := Aside0.mk hk
      clear hk hlt hW3
      go_wp2
      go_roundg g1
      case measure => omega
      case rel => exact ⟨k + 1, by rw [HW.out], by have := HK.out; omega, ⟨S2.out.step (by repeat (first | (with_reducible exact Below.refl _ _) | (with_reducible refine below_alloc ?_ _) | (with_reducible refine below_drew1 ?_) | (with_reducible refine pw_below_drewN ?_ _) | (with_reducible exact Below.refl _ _)))⟩⟩
    · have r1 : decide (k < n) = false := decide_eq_false hlt
      have r3 : decide ((k : Int) < (n : Int)) = false := decide_eq_false (by omega)
      clear hk hlt
      go_wp2
      go_ret
      exact ⟨rfl, S2.out.b0⟩
end Go.Proofs.YtodejilhgpejnaaGreat.Q
namespace Go.Proofs.YtodejilhgpejnaaGreat.Q
open Go.RowKit Go.Proofs.YtodejilhgpejnaaGreatW.PrintWords Go.Proofs.YtodejilhgpejnaaGreatW.PrintLast Go.Proofs.YtodejilhgpejnaaGreatW.PrintMore
attribute [local go_sem] max2_int min2_int max_two min_two max_three min_three max_four min_four
set_option linter.unusedVariables false
set_option linter.unusedSimpArgs false
theorem cells135' : cellsF 135 = 45 := by decide +kernel
theorem fmt_len (N keep n : Nat) : (fmtL N keep n).length = N := by simp [fmtL]
theorem fmt_zero (j : Nat) (hj : j < areaF 45) : rdOf ByteArray.empty (fmtL 135 2 45) ((atF 45 1 j : Nat) : Int) = zero40 := by
  have h1 : atF 45 1 j < 135 := at_lt cells135' (by decide) hj
  rw [getElem_rdOf _ _ _ (by rw [fmt_len]; exact h1)]
  have e1 : atF 45 1 j = 2 + j := by unfold atF; simp
  have e0 : atF 45 0 0 = 2 + areaF 45 := by unfold atF; simp
  unfold fmtL
  rw [List.getElem_set_ne (by omega), List.getElem_set_ne (by omega), List.getElem_replicate]
/-- The example's disk and its state. -/
structure ExSt (W0 W : World) (db sb : Nat) (D : Option Addr) (m : Nat) (B : Option Addr) : Prop where
  b0 : Below W0.heap.size W0 W
  hd : W.heap[db]? = some (.cells #[.slice D 135 m, .slice none 0 0] 26 (0, 0))
  hs : W.heap[sb]? = some (.cells (stV B 45 45 2 1) 33 (0, 0))
  hc : 135 ≤ m
  str : Kd.C Kd.string W D 135 (fmtL 135 2 45)
  zc : ZC W B 45
theorem ExSt.step {W0 W W' : World} {db sb : Nat} {D : Option Addr} {m : Nat} {B : Option Addr} (s : ExSt W0 W db sb D m B) (hb : Below W.heap.size W W') : ExSt W0 W' db sb D m B := ⟨below_step s.b0 hb, blk_below s.hd hb, blk_below s.hs hb, s.hc, Kd.C_below s.str hb, ZC_below s.zc hb⟩
theorem ExSt.plan {W0 W : World} {db sb : Nat} {D : Option Addr} {m : Nat} {B : Option Addr} (s : ExSt W0 W db sb D m B) : PlanC D 135 m B 45 45 2 1 (atF 45 1 0) (chunkS (bookB 1 2 45) 0) ((1 + 1) % 2) (slotS 2 45 1) W :=
  planC_of (fmt_len _ _ _) s.zc (by decide) (by decide) (by decide) (by decide) s.str s.hc (by decide) cells135' fmt_zero
set_option maxHeartbeats 8000000 in
set_option maxRecDepth 100000 in
theorem shown15_walk (w : World) : Calls Tryz.prog 4 #[] w fun e w' => e = .returned (.bool true) ∧ Below w.heap.size w w' := by
  have HF := Aside0.mk (show Calls Tryz.prog 5 #[.int .i64 135, .int .i64 2] w fun e w' => ∃ D m B, e = .returned (.tuple #[.agg #[.slice D 135 m, .slice none 0 0], .agg #[.slice B 45 45, .int .i64 2, .slice none 0 0, .slice none 0 0, .int .i64 1, .int .i64 1], .int .i64 0]) ∧ 135 ≤ m ∧ Kd.C Kd.string w' D 135 (fmtL 135 2 45) ∧ ZC w' B 45 ∧ Below w.heap.size w w' from format_walk 135 2 45 w (by decide) (by decide) cells135' (by decide) (by decide))
  go_enter Tryz.func4, Tryz.ntmps4
  go_upto_region 2 with (first | (go_at_call 5; (with_reducible refine HF.out.mono ?_); rintro e w2 ⟨D, m, B, rfl, hm, hC, hz, hb⟩; have H2 := Aside0.mk (And.intro hm (And.intro hC (And.intro hz hb))); clear hm hC hz hb) | fail)
  obtain ⟨W3, hW3⟩ : ∃ W3, W3 = (w2.alloc (.cells #[.slice D 135 m, .slice none 0 0] 26)).alloc (.cells #[.slice B 45 45, .int .i64 2, .slice none 0 0, .slice none 0 0, .int .i64 1, .int .i64 1] 33) := ⟨_, rfl⟩
  obtain ⟨db, hdb⟩ : ∃ db, db = w2.heap.size := ⟨_, rfl⟩
  obtain ⟨sb, hsb⟩ : ∃ sb, sb = w2.heap.size + 1 := ⟨_, rfl⟩
  have S3 := Aside0.mk (show ExSt w W3 db sb D m B by
    have hb : Below w2.heap.size w2 W3 := by rw [hW3]; exact below_alloc (below_alloc (Below.refl _ _) _) _
    exact ⟨below_step H2.out.2.2.2 hb, by rw [hW3, hdb]; exact blk_alloc (blk_new _ _) _, by rw [hW3, hsb]; exact blk2 w2 _ _, H2.out.1, Kd.C_below H2.out.2.1 hb, ZC_below H2.out.2.2.1 hb⟩)
  rw [← hW3, ← hsb, ← hdb]
  clear hW3 hdb hsb HF H2
  (have d0 := (blk_cell S3.out.hd 0).trans (show _ = some (Value.slice D 135 m) from rfl); have d1 := (blk_cell S3.out.hd 1).trans (show _ = some (Value.slice none 0 0) from rfl); have s0 := (blk_cell S3.out.hs 0).trans (show _ = some (Value.slice B 45 45) from rfl); have s1 := (blk_cell S3.out.hs 1).trans (show _ = some (Value.int .i64 2) from rfl); have s2 := (blk_cell S3.out.hs 2).trans (show _ = some (Value.slice none 0 0) from rfl); have s3 := (blk_cell S3.out.hs 3).trans (show _ = some (Value.slice none 0 0) from rfl); have s4 := (blk_cell S3.out.hs 4).trans (show _ = some (Value.int .i64 1) from rfl); have s5 := (blk_cell S3.out.hs 5).trans (show _ = some (Value.int .i64 1) from rfl))
  have HM := Aside0.mk (show Calls Tryz.prog 11 #[.agg #[.slice D 135 m, .slice none 0 0], .agg #[.slice B 45 45, .int .i64 2, .slice none 0 0, .slice none 0 0, .int .i64 1, .int .i64 1]] W3 fun e w' => e = .returned (.tuple #[.int .i64 4, .int .i64 0]) ∧ Below W3.heap.size W3 w' from many_walk D 135 m B 45 45 2 1 _ _ _ _ W3 S3.out.plan)
  go_upto_region 3 with (first | (go_at_call 11; (with_reducible refine HM.out.mono ?_); rintro e w4 ⟨rfl, hb⟩; have S4 := Aside0.mk (S3.out.step hb); clear hb) | fail)
  clear d0 d1 s0 s1 s2 s3 s4 s5 HM
  (have d0 := (blk_cell S4.out.hd 0).trans (show _ = some (Value.slice D 135 m) from rfl); have d1 := (blk_cell S4.out.hd 1).trans (show _ = some (Value.slice none 0 0) from rfl); have s0 := (blk_cell S4.out.hs 0).trans (show _ = some (Value.slice B 45 45) from rfl); have s1 := (blk_cell S4.out.hs 1).trans (show _ = some (Value.int .i64 2) from rfl); have s2 := (blk_cell S4.out.hs 2).trans (show _ = some (Value.slice none 0 0) from rfl); have s3 := (blk_cell S4.out.hs 3).trans (show _ = some (Value.slice none 0 0) from rfl); have s4 := (blk_cell S4.out.hs 4).trans (show _ = some (Value.int .i64 1) from rfl); have s5 := (blk_cell S4.out.hs 5).trans (show _ = some (Value.int .i64 1) from rfl))
  have HD1 := Aside0.mk (show Calls Tryz.prog 12 #[.agg #[.slice D 135 m, .slice none 0 0], .agg #[.slice B 45 45, .int .i64 2, .slice none 0 0, .slice none 0 0, .int .i64 1, .int .i64 1], .int .i64 1] w4 fun e w' => ∃ D' m' B' d', e = .returned (.tuple #[.agg #[.slice D' 135 m', .slice B' 1 d'], .agg #[.slice B 45 45, .int .i64 2, .slice none 0 0, .slice none 0 0, .int .i64 1, .int .i64 1], .int .i64 8]) ∧ Below w4.heap.size w4 w' from (cdo1_walk D 135 m _ B 45 45 2 1 _ _ _ _ w4 (fmt_len _ _ _) S4.out.str S4.out.hc S4.out.zc (by decide) (by decide) (by decide) (by decide) (at_lt cells135' (by decide) (area_pos 45)) (by decide) (chunk0_size 2 45) (slotS_size 2 45 1) S4.out.plan).mono (by rintro e w' ⟨D', m', B', d', rfl, _, _, _, _, _, hb⟩; exact ⟨D', m', B', d', rfl, hb⟩))
  go_upto_region 4 with (first | (go_at_call 12; (with_reducible refine HD1.out.mono ?_); rintro e w5 ⟨D1, m1, B1, d1', rfl, hb⟩; have HB5 := Aside0.mk hb; clear hb) | fail)
  clear d0 d1 s0 s1 s2 s3 s4 s5 HD1
  obtain ⟨W6, hW6⟩ : ∃ W6, W6 = (w5.alloc (.cells #[.slice D1 135 m1, .slice B1 1 d1'] 26)).alloc (.cells #[.slice B 45 45, .int .i64 2, .slice none 0 0, .slice none 0 0, .int .i64 1, .int .i64 1] 33) := ⟨_, rfl⟩
  obtain ⟨db1, hdb⟩ : ∃ db, db = w5.heap.size := ⟨_, rfl⟩
  obtain ⟨sb1, hsb⟩ : ∃ sb, sb = w5.heap.size + 1 := ⟨_, rfl⟩
  have hb6 : Below w5.heap.size w5 W6 := by rw [hW6]; exact below_alloc (below_alloc (Below.refl _ _) _) _
  have S6 := Aside0.mk ((S4.out.step HB5.out).step hb6)
  have HDA := Aside0.mk (show W6.heap[db1]? = some (.cells #[.slice D1 135 m1, .slice B1 1 d1'] 26 (0, 0)) by rw [hW6, hdb]; exact blk_alloc (blk_new _ _) _)
  have HSA := Aside0.mk (show W6.heap[sb1]? = some (.cells (stV B 45 45 2 1) 33 (0, 0)) by rw [hW6, hsb]; exact blk2 w5 _ _)
  rw [← hW6, ← hsb, ← hdb]
  clear hW6 hdb hsb hb6 HB5 S4 S3
  (have d0 := (blk_cell S6.out.hd 0).trans (show _ = some (Value.slice D 135 m) from rfl); have d1 := (blk_cell S6.out.hd 1).trans (show _ = some (Value.slice none 0 0) from rfl); have s0 := (blk_cell S6.out.hs 0).trans (show _ = some (Value.slice B 45 45) from rfl); have s1 := (blk_cell S6.out.hs 1).trans (show _ = some (Value.int .i64 2) from rfl); have s2 := (blk_cell S6.out.hs 2).trans (show _ = some (Value.slice none 0 0) from rfl); have s3 := (blk_cell S6.out.hs 3).trans (show _ = some (Value.slice none 0 0) from rfl); have s4 := (blk_cell S6.out.hs 4).trans (show _ = some (Value.int .i64 1) from rfl); have s5 := (blk_cell S6.out.hs 5).trans (show _ = some (Value.int .i64 1) from rfl))
  have HD2 := Aside0.mk (show Calls Tryz.prog 12 #[.agg #[.slice D 135 m, .slice none 0 0], .agg #[.slice B 45 45, .int .i64 2, .slice none 0 0, .slice none 0 0, .int .i64 1, .int .i64 1], .int .i64 (-1)] W6 fun e w' => ∃ D' m' B', e = .returned (.tuple #[.agg #[.slice D' 135 m', .slice none 0 0], .agg #[.slice B' 45 45, .int .i64 2, .slice none 0 0, .slice none 0 0, .int .i64 1, .int .i64 2], .int .i64 0]) ∧ ZC w' B' 45 ∧ Below W6.heap.size W6 w' from (cdo_walk D 135 m _ B 45 45 2 1 _ _ _ _ W6 (fmt_len _ _ _) S6.out.str S6.out.hc S6.out.zc (by decide) (by decide) (by decide) (by decide) (at_lt cells135' (by decide) (area_pos 45)) (by decide) (chunk0_size 2 45) (slotS_size 2 45 1) S6.out.plan).mono (by rintro e w' ⟨D', m', B', rfl, _, _, hz, hb⟩; exact ⟨D', m', B', rfl, hz, hb⟩))
  go_upto_region 5 with (first | (go_at_call 12; (with_reducible refine HD2.out.mono ?_); rintro e w7 ⟨D2, m2, B2, rfl, hz, hb⟩; have HB7 := Aside0.mk (And.intro hz hb); clear hz hb) | fail)
  clear d0 d1 s0 s1 s2 s3 s4 s5 HD2
  obtain ⟨W8, hW8⟩ : ∃ W8, W8 = (w7.alloc (.cells #[.slice D2 135 m2, .slice none 0 0] 26)).alloc (.cells #[.slice B2 45 45, .int .i64 2, .slice none 0 0, .slice none 0 0, .int .i64 1, .int .i64 2] 33) := ⟨_, rfl⟩
  obtain ⟨db2, hdb⟩ : ∃ db, db = w7.heap.size := ⟨_, rfl⟩
  obtain ⟨sb2, hsb⟩ : ∃ sb, sb = w7.heap.size + 1 := ⟨_, rfl⟩
  have hb8 : Below w7.heap.size w7 W8 := by rw [hW8]; exact below_alloc (below_alloc (Below.refl _ _) _) _
  have S8 := Aside0.mk ((S6.out.step HB7.out.2).step hb8)
  have HDA8 := Aside0.mk (blk_below (blk_below HDA.out HB7.out.2) hb8)
  have HSA8 := Aside0.mk (blk_below (blk_below HSA.out HB7.out.2) hb8)
  have HZ8 := Aside0.mk (ZC_below HB7.out.1 hb8)
  have HDB := Aside0.mk (show W8.heap[db2]? = some (.cells #[.slice D2 135 m2, .slice none 0 0] 26 (0, 0)) by rw [hW8, hdb]; exact blk_alloc (blk_new _ _) _)
  have HSB := Aside0.mk (show W8.heap[sb2]? = some (.cells (stV B2 45 45 2 2) 33 (0, 0)) by rw [hW8, hsb]; exact blk2 w7 _ _)
  rw [← hW8, ← hsb, ← hdb]
  clear hW8 hdb hsb hb8 HB7 HDA HSA S6
  (have d0 := (blk_cell S8.out.hd 0).trans (show _ = some (Value.slice D 135 m) from rfl); have d1 := (blk_cell S8.out.hd 1).trans (show _ = some (Value.slice none 0 0) from rfl); have s0 := (blk_cell S8.out.hs 0).trans (show _ = some (Value.slice B 45 45) from rfl); have s1 := (blk_cell S8.out.hs 1).trans (show _ = some (Value.int .i64 2) from rfl); have s2 := (blk_cell S8.out.hs 2).trans (show _ = some (Value.slice none 0 0) from rfl); have s3 := (blk_cell S8.out.hs 3).trans (show _ = some (Value.slice none 0 0) from rfl); have s4 := (blk_cell S8.out.hs 4).trans (show _ = some (Value.int .i64 1) from rfl); have s5 := (blk_cell S8.out.hs 5).trans (show _ = some (Value.int .i64 1) from rfl))
  have p1 := (blk_cell HDA8.out 1).trans (show _ = some (Value.slice B1 1 d1') from rfl)
  have p5 := (blk_cell HSA8.out 5).trans (show _ = some (Value.int .i64 1) from rfl)
  have q1 := (blk_cell HDB.out 1).trans (show _ = some (Value.slice none 0 0) from rfl)
  have t0 := (blk_cell HSB.out 0).trans (show _ = some (Value.slice B2 45 45) from rfl)
  have t1 := (blk_cell HSB.out 1).trans (show _ = some (Value.int .i64 2) from rfl)
  have t2 := (blk_cell HSB.out 2).trans (show _ = some (Value.slice none 0 0) from rfl)
  have t3 := (blk_cell HSB.out 3).trans (show _ = some (Value.slice none 0 0) from rfl)
  have t4 := (blk_cell HSB.out 4).trans (show _ = some (Value.int .i64 1) from rfl)
  have t5 := (blk_cell HSB.out 5).trans (show _ = some (Value.int .i64 2) from rfl)
  have HFO := Aside0.mk (show Calls Tryz.prog 13 #[.agg #[.slice B 45 45, .int .i64 2, .slice none 0 0, .slice none 0 0, .int .i64 1, .int .i64 1], .agg #[.slice B2 45 45, .int .i64 2, .slice none 0 0, .slice none 0 0, .int .i64 1, .int .i64 2]] W8 fun e w' => e = .returned (.bool true) ∧ Below W8.heap.size W8 w' from follows_walk B 45 45 2 1 B2 45 2 2 W8 S8.out.zc HZ8.out (by decide))
  go_wp2_with (first | (go_at_call 13; (with_reducible refine HFO.out.mono ?_); rintro e w9 ⟨rfl, hb⟩; have HB9 := Aside0.mk (below_step S8.out.b0 hb); clear hb) | fail)
  go_ret
  exact ⟨by first | rfl | simp, HB9.out⟩
end Go.Proofs.YtodejilhgpejnaaGreat.Q
