import Derived.Test.YtodejilhgpejnaaGreatP4
namespace Go.Proofs.YtodejilhgpejnaaGreat.Q
open Go.RowKit Go.Proofs.YtodejilhgpejnaaGreatW.PrintWords Go.Proofs.YtodejilhgpejnaaGreatW.PrintLast Go.Proofs.YtodejilhgpejnaaGreatW.PrintMore
attribute [local go_sem] max2_int min2_int max_two min_two max_three min_three max_four min_four
set_option linter.unusedVariables false
set_option linter.unusedSimpArgs false
set_option maxHeartbeats 2000000 in
set_option maxRecDepth 100000 in
theorem grow11_walk (w : World) :
    Calls Tryz.prog 100 #[.slice none 0 0, .int .i64 11] w fun e w' => ∃ v, e = .returned v ∧ (Kd.int .u8).R 5 w' w.heap.size (fun _ => True) v [] ∧ Below w.heap.size w w' := by
  have hu27 := Tryz.underlying83
  obtain ⟨i0, hi, hzz⟩ := Option.map_eq_some_iff.1 info_u8
  simp only [Prod.mk.injEq] at hzz
  obtain ⟨hz0, hz1, hz2⟩ := hzz
  have happ := Lib.run_append_nil_zeros (P := Tryz.prog) w 83 3 83 5 i0 (.int .u8 0) .i64 .i64 Tryz.underlying83 Tryz.underlying3 hi hz0 11 (by omega) (by rw [hz1]; decide) (by omega) (by rw [hz2]; omega)
  generalize hcap : grownCap w 11 0 5 = cap2 at happ
  have hcapge : 11 ≤ cap2 := by rw [← hcap]; exact grownCap_ge w _ 0 5
  have hcaple : cap2 ≤ maxLen := by rw [← hcap]; exact grownCap_le_maxLen w _ 0 5 (by unfold maxLen; omega)
  generalize hZ : (Builtin.zeroCells (Value.int .u8 0).cells 11 ++ Builtin.zeroCells (Value.int .u8 0).cells (cap2 - 11)) = Z at happ
  have hZs : Z.size = cap2 * 1 := by rw [← hZ, Array.size_append, size_zeroCells, size_zeroCells, show (Value.int .u8 0).cells.size = 1 from rfl]; omega
  clear hcap hZ
  go_enter Tryz.func100, Tryz.ntmps100
  go_wp2_with (at_builtin; refine Lib.wpList_append_run _ rfl _ _ _ _ rfl _ _ rfl rfl _ _ happ ?_)
  go_ret
  exact ⟨_, rfl, ⟨fun _ _ => trivial, [], ⟨rfl, Or.inr ⟨w.heap.size, cap2, Z, rfl, Nat.le_refl _, blk_new w _, Nat.zero_le _, hcaple, hZs, by simp⟩⟩, Reps.none _ _⟩, pw_below_drewN (below_alloc (Below.refl _ _) _) 1⟩
set_option maxHeartbeats 2000000 in
set_option maxRecDepth 100000 in
theorem concat4_walk (g : Nat) (A1 A2 A3 A4 : Option Addr) (c1 c2 c3 c4 : Nat) (l1 l2 l3 l4 : List Int) (w : World) (hg : w.heap[g]? = some (.cells #[.slice A1 5 c1, .slice A2 2 c2, .slice A3 2 c3, .slice A4 2 c4] 83 (0, 0)))
    (hr1 : Kd.C (Kd.int .u8) w A1 5 l1) (hr2 : Kd.C (Kd.int .u8) w A2 2 l2) (hr3 : Kd.C (Kd.int .u8) w A3 2 l3) (hr4 : Kd.C (Kd.int .u8) w A4 2 l4) :
    Calls Tryz.prog 70 #[.slice (some ⟨g, 0, none⟩) 4 4] w fun e w' => ∃ v, e = .returned v ∧ (Kd.int .u8).R 5 w' w.heap.size (fun _ => True) v (l1 ++ l2 ++ l3 ++ l4) ∧ Below w.heap.size w w' := by
  have d0 := (blk_cell hg 0).trans (show _ = some (Value.slice A1 5 c1) from rfl)
  have d1 := (blk_cell hg 1).trans (show _ = some (Value.slice A2 2 c2) from rfl)
  have d2 := (blk_cell hg 2).trans (show _ = some (Value.slice A3 2 c3) from rfl)
  have d3 := (blk_cell hg 3).trans (show _ = some (Value.slice A4 2 c4) from rfl)
  go_enter Tryz.func70, Tryz.ntmps70
  go_wp2
  have G := Aside0.mk (grow11_walk w)
  have HL := Aside0.mk (And.intro hr1.1 (And.intro hr2.1 (And.intro hr3.1 hr4.1)))
  have D0 := Aside0.mk d0
  have D1 := Aside0.mk d1
  have D2 := Aside0.mk d2
  have D3 := Aside0.mk d3
  have HR1 := Aside0.mk hr1
  have HR2 := Aside0.mk hr2
  have HR3 := Aside0.mk hr3
  have HR4 := Aside0.mk hr4
  clear hg hr1 hr2 hr3 hr4
  refine wp_loop_rounds 5 ?_
  rw [rounds_succ]; go_wp2
  rw [rounds_succ]; go_wp2
  rw [rounds_succ]; go_wp2
  rw [rounds_succ]; go_wp2
  rw [rounds_succ]
  go_wp2_with (first | (go_at_call 100; (with_reducible refine G.out.mono ?_); rintro e W0 ⟨v0, rfl, ho, hb⟩; have HO0 := Aside0.mk ho; have HB0 := Aside0.mk hb; have d0 := (hb.cell (World.block_lt_of_cell? w _ D0.out)).trans D0.out; have d1 := (hb.cell (World.block_lt_of_cell? w _ D1.out)).trans D1.out; have d2 := (hb.cell (World.block_lt_of_cell? w _ D2.out)).trans D2.out; have d3 := (hb.cell (World.block_lt_of_cell? w _ D3.out)).trans D3.out; clear ho hb))
  refine wp_loop_rounds 5 ?_
  rw [rounds_succ]
  go_wp2_with (first | ((with_reducible refine gate_builtin (b := .append) (xs := #[.tmp 31, .tmp 32]) rfl ?_); at_builtin; refine Kd.R_append_rows (Kd.int .u8) (w0 := w) w.heap.size rfl (.tmp 31) (.tmp 32) 83 5 (.int .u8 0) 1 rfl Tryz.underlying83 info_u8 rfl (by decide) (by omega) v0 [] l1 A1 5 c1 (fun _ => True) (fun _ => False) rfl rfl HO0.out (Kd.C_below HR1.out HB0.out) (fun _ _ h => h) (fun _ h => h.elim) (fun _ _ => trivial) HB0.out (below_size HB0.out) (by have := HL.out; simp only [List.length_append, List.length_nil]; omega) ?_; intro v1 w1 ho hb hg hat; have HO1 := Aside0.mk ho; have HB1 := Aside0.mk hb; have d0 := (hb.cell (World.block_lt_of_cell? w _ D0.out)).trans D0.out; have d1 := (hb.cell (World.block_lt_of_cell? w _ D1.out)).trans D1.out; have d2 := (hb.cell (World.block_lt_of_cell? w _ D2.out)).trans D2.out; have d3 := (hb.cell (World.block_lt_of_cell? w _ D3.out)).trans D3.out; clear ho hb hg hat))
  rw [rounds_succ]
  go_wp2_with (first | ((with_reducible refine gate_builtin (b := .append) (xs := #[.tmp 31, .tmp 32]) rfl ?_); at_builtin; refine Kd.R_append_rows (Kd.int .u8) (w0 := w) w.heap.size rfl (.tmp 31) (.tmp 32) 83 5 (.int .u8 0) 1 rfl Tryz.underlying83 info_u8 rfl (by decide) (by omega) v1 ([] ++ l1) l2 A2 2 c2 (fun _ => True) (fun _ => False) rfl rfl HO1.out (Kd.C_below HR2.out HB1.out) (fun _ _ h => h) (fun _ h => h.elim) (fun _ _ => trivial) HB1.out (below_size HB1.out) (by have := HL.out; simp only [List.length_append, List.length_nil]; omega) ?_; intro v2 w2 ho hb hg hat; have HO2 := Aside0.mk ho; have HB2 := Aside0.mk hb; have d0 := (hb.cell (World.block_lt_of_cell? w _ D0.out)).trans D0.out; have d1 := (hb.cell (World.block_lt_of_cell? w _ D1.out)).trans D1.out; have d2 := (hb.cell (World.block_lt_of_cell? w _ D2.out)).trans D2.out; have d3 := (hb.cell (World.block_lt_of_cell? w _ D3.out)).trans D3.out; clear ho hb hg hat))
  rw [rounds_succ]
  go_wp2_with (first | ((with_reducible refine gate_builtin (b := .append) (xs := #[.tmp 31, .tmp 32]) rfl ?_); at_builtin; refine Kd.R_append_rows (Kd.int .u8) (w0 := w) w.heap.size rfl (.tmp 31) (.tmp 32) 83 5 (.int .u8 0) 1 rfl Tryz.underlying83 info_u8 rfl (by decide) (by omega) v2 ([] ++ l1 ++ l2) l3 A3 2 c3 (fun _ => True) (fun _ => False) rfl rfl HO2.out (Kd.C_below HR3.out HB2.out) (fun _ _ h => h) (fun _ h => h.elim) (fun _ _ => trivial) HB2.out (below_size HB2.out) (by have := HL.out; simp only [List.length_append, List.length_nil]; omega) ?_; intro v3 w3 ho hb hg hat; have HO3 := Aside0.mk ho; have HB3 := Aside0.mk hb; have d0 := (hb.cell (World.block_lt_of_cell? w _ D0.out)).trans D0.out; have d1 := (hb.cell (World.block_lt_of_cell? w _ D1.out)).trans D1.out; have d2 := (hb.cell (World.block_lt_of_cell? w _ D2.out)).trans D2.out; have d3 := (hb.cell (World.block_lt_of_cell? w _ D3.out)).trans D3.out; clear ho hb hg hat))
  rw [rounds_succ]
  go_wp2_with (first | ((with_reducible refine gate_builtin (b := .append) (xs := #[.tmp 31, .tmp 32]) rfl ?_); at_builtin; refine Kd.R_append_rows (Kd.int .u8) (w0 := w) w.heap.size rfl (.tmp 31) (.tmp 32) 83 5 (.int .u8 0) 1 rfl Tryz.underlying83 info_u8 rfl (by decide) (by omega) v3 ([] ++ l1 ++ l2 ++ l3) l4 A4 2 c4 (fun _ => True) (fun _ => False) rfl rfl HO3.out (Kd.C_below HR4.out HB3.out) (fun _ _ h => h) (fun _ h => h.elim) (fun _ _ => trivial) HB3.out (below_size HB3.out) (by have := HL.out; simp only [List.length_append, List.length_nil]; omega) ?_; intro v4 w4 ho hb hg hat; have HO4 := Aside0.mk ho; have HB4 := Aside0.mk hb; have d0 := (hb.cell (World.block_lt_of_cell? w _ D0.out)).trans D0.out; have d1 := (hb.cell (World.block_lt_of_cell? w _ D1.out)).trans D1.out; have d2 := (hb.cell (World.block_lt_of_cell? w _ D2.out)).trans D2.out; have d3 := (hb.cell (World.block_lt_of_cell? w _ D3.out)).trans D3.out; clear ho hb hg hat))
  rw [rounds_succ]; go_wp2
  go_ret
  exact ⟨_, rfl, HO4.out, HB4.out⟩
set_option maxHeartbeats 2000000 in
set_option maxRecDepth 100000 in
theorem todoPrint_walk (A : Option Addr) (c : Nat) (w : World) :
    Calls Tryz.prog 71 #[.slice A 0 c] w fun e w' => e = .returned (.slice (some ⟨w.heap.size, 0, none⟩) 2 2) ∧ w' = w.alloc (.cells #[.int .u8 0, .int .u8 0] 5) := by
  have hp := put2_walk 0 w (by decide)
  rw [show ((0 : Nat) : Int) = 0 from rfl] at hp
  have HP := Aside0.mk hp
  clear hp
  go_enter Tryz.func71, Tryz.ntmps71
  go_wp2_with (first | (go_at_call 69; (with_reducible refine HP.out.mono ?_); rintro e w' ⟨rfl, rfl⟩))
  refine wp_loop_rounds 1 ?_
  rw [rounds_succ]; go_wp2
  go_ret
  exact ⟨rfl, rfl⟩
end Go.Proofs.YtodejilhgpejnaaGreat.Q
