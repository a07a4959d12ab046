import Derived.Test.YtdhbdomjlggfgaaP11
namespace Go.Proofs.Ytdhbdomjlggfgaa.Q
open Go.RowKit Go.Proofs.YtdhbdomjlggfgaaW.PrintWords Go.Proofs.YtdhbdomjlggfgaaW.PrintLast Go.Proofs.YtdhbdomjlggfgaaW.PrintMore
attribute [local go_sem] max2_int min2_int max_two min_two max_three min_three max_four min_four
set_option linter.unusedVariables false
set_option linter.unusedSimpArgs false
/-- Free cells in a row. -/
def zC (n : Nat) : List Value := (List.replicate n z4c).flatten
theorem zC_get (n : Nat) : ∀ j i, j < n → i < 4 → (zC n)[j * 4 + i]? = z4c[i]? := by
  induction n with
  | zero => intro j i hj; omega
  | succ n ih =>
    intro j i hj hi
    unfold zC at ih ⊢
    rw [List.replicate_succ, List.flatten_cons]
    cases j with
    | zero => rw [List.getElem?_append_left (by simp [z4c]; omega)]; simp
    | succ j => rw [List.getElem?_append_right (by simp [z4c]; omega), show (j + 1) * 4 + i - z4c.length = j * 4 + i by simp [z4c]; omega]; exact ih j i (by omega) hi
theorem zC_C (w : World) (n : Nat) (hn : n ≤ 100000) : ZC (w.alloc (.cells (zC n).toArray 93)) (some ⟨w.heap.size, 0, none⟩) n := by
  refine ⟨by simp, by omega, fun hn0 => ⟨⟨w.heap.size, 0, none⟩, rfl, fun j p hj => ?_⟩⟩
  have hjn : j < n := by have := (List.getElem?_eq_some_iff.1 hj).1; simpa using this
  have hp : p = z4c := by have := List.mem_of_getElem? hj; exact (List.mem_replicate.1 this).2
  subst hp
  refine ⟨z4c, rfl, ⟨rfl, by decide⟩, fun i u hu => ?_⟩
  have hi : i < 4 := (List.getElem?_eq_some_iff.1 hu).1
  have h := blk_cell (World.alloc_heap_new w (.cells (zC n).toArray 93)) (j * 4 + i)
  rw [show (Addr.add ⟨w.heap.size, 0, none⟩ (j * (Kd.raw 4).sz + i)) = ⟨w.heap.size, j * 4 + i, none⟩ by rw [show (Kd.raw 4).sz = 4 from rfl]; simp [Addr.add]; omega, h]
  have := zC_get n j i hjn hi
  rw [hu] at this
  simpa using this
theorem cells135 : cellsF 135 = 45 := by decide +kernel
theorem cells84 : cellsF 84 = 0 := by decide +kernel
theorem area45 : areaF 45 = 44 := by decide +kernel
theorem base45 : baseF 45 = 90 := by decide +kernel
theorem writes0 : writesF (List.replicate 135 zero40) (bookB 1 0 45) 45 0 (List.range (piecesN (bookB 1 0 45).length)) = [(46, chunkS (bookB 1 0 45) 0)] := by decide +kernel
theorem row_cells {w : World} {base n e sz : Nat} {v : Value} {cs : List Value} (hn : 0 < n) (h : w.ownsRow base e sz v n cs) : ∃ g cap, v = .slice (some ⟨g, 0, none⟩) n cap ∧ ∀ j u, cs[j]? = some u → w.cell? ⟨g, j, none⟩ = some u := by
  rcases h.2 with ⟨_, e0⟩ | ⟨g, cap, cur, rfl, _, hb, _, _, _, ht⟩
  · omega
  · refine ⟨g, cap, rfl, fun j u hu => ?_⟩
    rw [← ht] at hu
    rw [blk_cell hb j]
    have h1 := (List.getElem?_eq_some_iff.1 hu).1
    rw [List.getElem?_take_of_lt (by rw [List.length_take] at h1; omega)] at hu
    simpa using hu
theorem piece40 : (chunkS (List.replicate 41 0) 1).size = 40 := by decide +kernel
theorem pieces2 : (chunksF (List.replicate 41 0)).length = 2 := by decide +kernel
set_option maxHeartbeats 4000000 in
set_option maxRecDepth 100000 in
/-- The worked example comes out true. -/
theorem shown_walk (w : World) : Calls Try.prog 6 #[] w fun e w' => e = .returned (.bool true) ∧ Below w.heap.size w w' := by
  have hm : ∀ w : World, (Instr.makeSlice 36 (.int .i64 45) (.int .i64 45)).run Try.prog w = .ok (.slice (some ⟨w.heap.size, 0, none⟩) 45 45) (w.alloc (.cells (zC 45).toArray 93)) := fun w => by kernel_rfl
  have hm2 : ∀ w : World, (Instr.makeSlice 23 (.int .i64 41) (.int .i64 41)).run Try.prog w = .ok (.slice (some ⟨w.heap.size, 0, none⟩) 41 41) (w.alloc (.cells (zB 41) 5)) := fun w => by kernel_rfl
  have hnw : ∀ w : World, Calls Try.prog 15 #[.int .i64 135] w fun e w' => ∃ A c, e = .returned (.tuple #[.agg #[.slice A 135 c, .slice none 0 0], .int .i64 0]) ∧ 135 ≤ c ∧ Kd.C Kd.string w' A 135 (List.replicate 135 zero40) ∧ Below w.heap.size w w' := fun w => new_walk 135 w (by decide) (by decide)
  have hpl : ∀ (B : Addr) (A0 : Option Addr) (c0 : Nat) (w : World), ZC w (some B) 45 → Kd.C Kd.string w A0 135 (List.replicate 135 zero40) → 135 ≤ c0 → Calls Try.prog 16 #[.agg #[.slice A0 135 c0, .slice none 0 0], .agg #[.slice (some B) 45 45, .int .i64 0, .slice none 0 0, .slice none 0 0, .int .i64 1, .int .i64 0]] w fun e w' => ∃ v S, e = .returned (.tuple #[v, .int .i64 0]) ∧ w'.ownsRow w.heap.size 47 2 v 4 [.int .i64 46, .string (chunkS (bookB 1 0 45) 0), .int .i64 (-1), .string ⟨#[]⟩, .int .i64 1, .string S, .int .i64 (-1), .string ⟨#[]⟩] ∧ Below w.heap.size w w' := by
    intro B A0 c0 w hz hc h0
    have hl : (List.replicate 135 zero40).length = 135 := List.length_replicate
    have h := plan_walk (some B) 45 45 0 1 0 A0 c0 (List.replicate 135 zero40) w hz (by decide) (by decide) (by decide) (by decide) (by rw [hl]; exact hc) (by rw [hl]; exact h0) (by rw [hl]; decide) (by rw [hl]; exact cells135) (by rw [hl]; decide +kernel)
    rw [hl, writes0] at h
    exact h
  have hch : ∀ (B : Addr) (w : World), Kd.C (Kd.int .u8) w (some B) 41 (List.replicate 41 0) → Calls Try.prog 7 #[.slice (some B) 41 41] w fun e w' => ∃ v : Value, e = .returned v ∧ Kd.R Kd.string 9 w' w.heap.size (fun _ => True) v (chunksF (List.replicate 41 0)) ∧ Below w.heap.size w w' := by
    intro B w hc
    have hl : (List.replicate 41 (0 : Int)).length = 41 := List.length_replicate
    have h := chunks_walk (some B) 41 (List.replicate 41 0) w (by rw [hl]; exact hc) (by rw [hl]; decide) (by rw [hl]; decide) (by decide)
    rw [hl] at h
    exact h
  have ha : ∀ w : World, Calls Try.prog 9 #[.int .i64 45] w fun e w' => e = .returned (.int .i64 44) ∧ w = w' := fun w => by have h := area_walk 45 w (by decide); rw [area45] at h; exact h
  have hb : ∀ w : World, Calls Try.prog 11 #[.int .i64 45] w fun e w' => e = .returned (.int .i64 90) ∧ w = w' := fun w => by have h := base_walk 45 w (by decide); rw [base45] at h; exact h
  have hc1 : ∀ w : World, Calls Try.prog 13 #[.int .i64 135] w fun e w' => e = .returned (.int .i64 45) ∧ Below w.heap.size w w' := fun w => by have h := cells_walk 135 w (by decide); rw [cells135] at h; exact h
  have hc2 : ∀ w : World, Calls Try.prog 13 #[.int .i64 84] w fun e w' => e = .returned (.int .i64 0) ∧ Below w.heap.size w w' := fun w => by have h := cells_walk 84 w (by decide); rw [cells84] at h; exact h
  have HNW := Aside0.mk hnw
  have HPL := Aside0.mk hpl
  have HCH := Aside0.mk hch
  have HFA := Aside0.mk ha
  have HFB := Aside0.mk hb
  have HF1 := Aside0.mk hc1
  have HF2 := Aside0.mk hc2
  clear hnw hpl hch ha hb hc1 hc2
  go_enter Try.func6, Try.ntmps6
  go_upto_region 3 with (first | (go_at_call 15; (with_reducible refine (HNW.out _).mono ?_); rintro e w1 ⟨A0, c0, rfl, hc0, hC0, hb1⟩; have HC0 := Aside0.mk hc0; have HA0 := Aside0.mk hC0; have HB1 := Aside0.mk hb1; clear hc0 hC0 hb1) | fail)
  have Z0 := Aside0.mk (Kd.C_alloc (zC_C (w1.alloc (.cells #[.slice A0 135 c0, .slice none 0 0] 33)) 45 (by decide)) (.cells #[.slice (some ⟨w1.heap.size + 1, 0, none⟩) 45 45, .int .i64 0, .slice none 0 0, .slice none 0 0, .int .i64 1, .int .i64 0] 42))
  rw [World.size_alloc] at Z0
  generalize hW : ((w1.alloc _).alloc _).alloc _ = W at Z0 ⊢
  have K0 := Aside0.mk (show W.heap[w1.heap.size]? = some (.cells #[.slice A0 135 c0, .slice none 0 0] 33 (0, 0)) from hW ▸ blk_alloc (blk_alloc (blk_new _ _) _) _)
  have K2 := Aside0.mk (show W.heap[w1.heap.size + 1 + 1]? = some (.cells #[.slice (some ⟨w1.heap.size + 1, 0, none⟩) 45 45, .int .i64 0, .slice none 0 0, .slice none 0 0, .int .i64 1, .int .i64 0] 42 (0, 0)) from hW ▸ by
    have h := blk_new ((w1.alloc (.cells #[.slice A0 135 c0, .slice none 0 0] 33)).alloc (.cells (zC 45).toArray 93)) (.cells #[.slice (some ⟨w1.heap.size + 1, 0, none⟩) 45 45, .int .i64 0, .slice none 0 0, .slice none 0 0, .int .i64 1, .int .i64 0] 42)
    rw [World.size_alloc, World.size_alloc] at h
    exact h)
  have HB := Aside0.mk (show Below w1.heap.size w1 W from hW ▸ below_alloc (below_alloc (below_alloc (Below.refl _ _) _) _) _)
  have HBW := Aside0.mk (show Below w.heap.size w W from below_step HB1.out HB.out)
  have HA := Aside0.mk (Kd.C_below HA0.out HB.out)
  clear hW
  have d0 := (blk_cell K0.out 0).trans (show _ = some (Value.slice A0 135 c0) from rfl)
  have d1 := (blk_cell K0.out 1).trans (show _ = some (Value.slice none 0 0) from rfl)
  have s0 := (blk_cell K2.out 0).trans (show _ = some (Value.slice (some ⟨w1.heap.size + 1, 0, none⟩) 45 45) from rfl)
  have s1 := (blk_cell K2.out 1).trans (show _ = some (Value.int .i64 0) from rfl)
  have s2 := (blk_cell K2.out 2).trans (show _ = some (Value.slice none 0 0) from rfl)
  have s3 := (blk_cell K2.out 3).trans (show _ = some (Value.slice none 0 0) from rfl)
  have s4 := (blk_cell K2.out 4).trans (show _ = some (Value.int .i64 1) from rfl)
  have s5 := (blk_cell K2.out 5).trans (show _ = some (Value.int .i64 0) from rfl)
  have HPP := Aside0.mk (HPL.out ⟨w1.heap.size + 1, 0, none⟩ A0 c0 W Z0.out HA.out HC0.out)
  go_upto_region 4 with (first | (go_at_call 16; (with_reducible refine HPP.out.mono ?_); rintro e w3 ⟨v, S, rfl, hown, hb3⟩; obtain ⟨g, cap, rfl, hcells⟩ := row_cells (by decide) hown; have HCE := Aside0.mk hcells; have HB3 := Aside0.mk hb3; clear hcells hown hb3) | fail)
  clear d0 d1 s0 s1 s2 s3 s4 s5
  go_upto_region 5 with (first | (go_at_call 7; (with_reducible refine (HCH.out ⟨w3.heap.size, 0, none⟩ _ (zrow_C w3 41 (by decide))).mono ?_); rintro e w4 ⟨v2, rfl, hR, hb4⟩; obtain ⟨A2, c2, rfl⟩ := Kd.R_slice hR; rw [pieces2]; have hC2 := (Kd.R_reads' hR).2.2; rw [pieces2] at hC2; have HC2 := Aside0.mk hC2; have HR2 := Aside0.mk hR; have HB4 := Aside0.mk (show Below w3.heap.size w3 w4 from below_step (below_alloc (Below.refl _ _) _) hb4); clear hC2 hR hb4) | fail)
  obtain ⟨ad2, e2, hx⟩ := Kd.at_string HC2.out 1 (by decide) (by decide)
  subst e2
  obtain ⟨g2, rfl⟩ := Kd.R_head HR2.out
  clear HR2
  have hx2 : w4.cell? ⟨g2, 1, none⟩ = some (.string (chunkS (List.replicate 41 0) 1)) := by
    rw [show rdOf ByteArray.empty (chunksF (List.replicate 41 0)) 1 = chunkS (List.replicate 41 0) 1 by decide +kernel] at hx
    exact hx
  obtain ⟨x, hxx⟩ : ∃ x, x = chunkS (List.replicate 41 0) 1 := ⟨_, rfl⟩
  have h40 : x.size = 40 := by rw [hxx]; exact piece40
  rw [← hxx] at hx2
  have v0 := HCE.out 0 _ rfl
  have v2 := HCE.out 4 _ rfl
  have v3 := HCE.out 6 _ rfl
  have y0 := (HB4.out.cell (World.block_lt_of_cell? _ _ v0)).trans v0
  have y2 := (HB4.out.cell (World.block_lt_of_cell? _ _ v2)).trans v2
  have y3 := (HB4.out.cell (World.block_lt_of_cell? _ _ v3)).trans v3
  have Y0 := Aside0.mk y0
  have Y2 := Aside0.mk y2
  have Y3 := Aside0.mk y3
  have HX := Aside0.mk hx2
  have HBW4 := Aside0.mk (show Below w.heap.size w w4 from below_step (below_step HBW.out HB3.out) HB4.out)
  clear hx hxx v0 v2 v3 y0 y2 y3 hx2
  go_wp2_with (first | (go_at_call 9; (with_reducible refine (HFA.out _).mono ?_); rintro e w' ⟨rfl, rfl⟩) | (go_at_call 11; (with_reducible refine (HFB.out _).mono ?_); rintro e w' ⟨rfl, rfl⟩) | (go_at_call 13; (with_reducible refine (HF1.out _).mono ?_); rintro e w5 ⟨rfl, hb5⟩; have HB5 := Aside0.mk hb5; clear hb5) | (go_at_call 13; (with_reducible refine (HF2.out _).mono ?_); rintro e w6 ⟨rfl, hb6⟩; have HB6 := Aside0.mk (below_step HB5.out hb6); have y0 := (HB6.out.cell (World.block_lt_of_cell? _ _ Y0.out)).trans Y0.out; have y2 := (HB6.out.cell (World.block_lt_of_cell? _ _ Y2.out)).trans Y2.out; have y3 := (HB6.out.cell (World.block_lt_of_cell? _ _ Y3.out)).trans Y3.out; have y4 := (HB6.out.cell (World.block_lt_of_cell? _ _ HX.out)).trans HX.out; clear hb6) | fail)
  go_ret
  exact ⟨rfl, below_step HBW4.out HB6.out⟩
end Go.Proofs.Ytdhbdomjlggfgaa.Q
