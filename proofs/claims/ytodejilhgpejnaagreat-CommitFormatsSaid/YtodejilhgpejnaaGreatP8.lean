import Derived.Test.YtodejilhgpejnaaGreatPC
namespace Go.Proofs.YtodejilhgpejnaaGreat.Q
open Go.RowKit Go.Proofs.YtodejilhgpejnaaGreatW.PrintWords Go.Proofs.YtodejilhgpejnaaGreatW.PrintLast Go.Proofs.YtodejilhgpejnaaGreatW.PrintMore
attribute [local go_sem] max2_int min2_int max_two min_two max_three min_three max_four min_four
set_option linter.unusedVariables false
set_option linter.unusedSimpArgs false
attribute [local go_sem] Oper.semAt_some
theorem backward_walk (A : Option Addr) (n c : Nat) (w : World) : Calls Tryz.prog 77 #[.slice A n c] w fun e w' => e = .returned (.func (.func 105) #[] #[.pointer (some ⟨w.heap.size, 0, none⟩)]) ∧ w' = w.alloc (.cells #[.slice A n c] 24) := by
  go_enter Tryz.func77, Tryz.ntmps77
  go_wp2
  go_ret
  exact ⟨rfl, rfl⟩
set_option maxHeartbeats 2000000 in
set_option maxRecDepth 100000 in
/-- Over an empty row nothing comes. -/
theorem backIter0 (n : Nat) (Bs : Nat) (A1 : Option Addr) (c1 : Nat) (w : World) (hlt : Bs < w.heap.size)
    (c0 : w.heap[Bs]? = some (.cells #[.slice A1 0 c1] 24 (0, 0))) :
    SeqSt Fence.wide n Tryz.prog 105 #[.pointer (some ⟨Bs, 0, none⟩)] (fun _ : Unit => #[.int .i64 0, .agg #[.int .i64 0, .string ⟨#[]⟩]])
      (fun _ _ => True) (fun A B => B = A) (fun xs => xs = []) (fun _ => False) 0 w := by
  intro l J Jx W hb hsz2 hJ hJx hJs hY h0
  have hro : Fence.wide.round = none := rfl
  refine callsIn_of_wp Tryz.func105 rfl trivial ?_ hro
  simp only [Tryz.ntmps105, List.size_toArray, List.length_cons, List.length_nil, Nat.reduceAdd, Nat.reduceSub, Array.replicate_succ, Array.replicate_zero, List.push_toArray, List.append_toArray, List.nil_append, List.cons_append]
  have d0 := (blk_cell ((hb.block Bs hlt).trans c0) 0).trans (show _ = some (Value.slice A1 0 c1) from rfl)
  clear hY
  gi_wp2
  gi_loopw [3] (fun v3 wr => v3 = .int .i64 (-1) ∧ J [] wr) (fun _ _ => 0)
  case atStart => exact ⟨rfl, h0⟩
  case round =>
    obtain ⟨rfl, hj⟩ := hrel
    gi_wp2
    refine bodyPost_end (results_none rfl _ _ _) rfl ?_
    exact ⟨⟨_, rfl⟩, .inl ⟨[], rfl, hj⟩⟩
theorem read_out2 {tmps : Array Value} {b D : Nat} {s : ByteArray} {r : Int} {W : World} {R : Ending → World → Prop} (h2 : tmps[4]?.getD undef = .pointer (some ⟨b, 0, none⟩)) (h3 : tmps[5]?.getD undef = .pointer (some ⟨b + 1, 0, none⟩))
    (c2 : Boxed W b 9 (.string s)) (c3 : Boxed W (b + 1) 34 (.int .i64 r)) (hD : b + 1 < D) (hK : W.heap[D]? = some (.deferred (some []))) (hR : R (.returned (.tuple #[.string s, .int .i64 r])) (W.putObj D (.deferred none))) :
    bodyPostM Fence.wide 10 Tryz.prog Tryz.f45 R .ret { tmps := tmps, defers := [{ target := .collected D, args := #[] }] } W := by
  have c2 : Boxed (W.putObj D (.deferred none)) b 9 (.string s) := (World.putObj_heap_other (by omega)).trans c2
  have c3 : Boxed (W.putObj D (.deferred none)) (b + 1) 34 (.int .i64 r) := (World.putObj_heap_other (by omega)).trans c3
  have c2 := c2.cell
  have c3 := c3.cell
  unfold bodyPostM LeavesInM
  refine ⟨by simp, .inl ⟨D, _, rfl, run_takeDeferred hK, ?_⟩⟩
  unfold LeavesInM
  refine ⟨_, ?_, hR⟩
  simp [results, go_sem, h2, h3, c2, c3]
theorem read4 (w : World) (v0 v1 : Value) (a : Int) : ∃ W, ((((w.alloc (.cells #[v0, v1] 26)).alloc (.cells #[.int .i64 a] 3)).alloc (.cells #[.string ⟨#[]⟩] 9)).alloc (.cells #[.int .i64 0] 34)) = W ∧ W.heap[w.heap.size]? = some (.cells #[v0, v1] 26 (0, 0)) ∧ Boxed W (w.heap.size + 1) 3 (.int .i64 a) ∧ Boxed W (w.heap.size + 2) 9 (.string ⟨#[]⟩) ∧ Boxed W (w.heap.size + 3) 34 (.int .i64 0) ∧ Below w.heap.size w W ∧ W.heap.size = w.heap.size + 4 := by
  refine ⟨_, rfl, blk_alloc (blk_alloc (blk_alloc (blk_new _ _) _) _) _, ?_, ?_, ?_, below_alloc (below_alloc (below_alloc (below_alloc (Below.refl _ _) _) _) _) _, by simp⟩
  · exact ((boxed_next (by simp) 3 (.int .i64 a)).1.alloc _).alloc _
  · exact (boxed_next (by simp) 9 (.string ⟨#[]⟩)).1.alloc _
  · exact (boxed_next (by simp) 34 (.int .i64 0)).1
def ReadI (w : World) (A0 : Option Addr) (n0 c0 : Nat) (a : Int) (_ : List Unit) (W : World) : Prop :=
  W.heap[w.heap.size]? = some (.cells #[.slice A0 n0 c0, .slice none 0 0] 26 (0, 0)) ∧ Boxed W (w.heap.size + 1) 3 (.int .i64 a) ∧ Below w.heap.size w W ∧ w.heap.size + 5 ≤ W.heap.size ∧ Boxed W (w.heap.size + 2) 9 (.string ⟨#[]⟩) ∧ Boxed W (w.heap.size + 3) 34 (.int .i64 0)
theorem readI_own (w : World) (A0 : Option Addr) (n0 c0 : Nat) (a : Int) {B : Nat} (hB : w.heap.size + 5 = B) : OwnFrom B (ReadI w A0 n0 c0 a) := by
  rintro pre W W' row ⟨h1, h2, h3, h4, h5, h6⟩ hg hr
  refine ⟨blk_grown h1 hg (fun e => by have := (hr _ e.symm).1; omega), h2.kept hg (fun e => by have := (hr _ e.symm).1; omega), h3.grown hg h3.size (fun k e => by have := (hr k e).1; omega), by have := hg.size; omega, h5.kept hg (fun e => by have := (hr _ e.symm).1; omega), h6.kept hg (fun e => by have := (hr _ e.symm).1; omega)⟩
set_option maxHeartbeats 4000000 in
set_option maxRecDepth 100000 in
/-- disk.Read of a disk with nothing written since. -/
theorem read_walk (A0 : Option Addr) (c0 : Nat) (l0 : List ByteArray) (a : Int) (w : World) (hr0 : Kd.C Kd.string w A0 l0.length l0) (hc0 : l0.length ≤ c0) (h0 : 0 ≤ a) (h1 : a < l0.length) :
    Calls Tryz.prog 45 #[.agg #[.slice A0 l0.length c0, .slice none 0 0], .int .i64 a] w fun e w' => e = .returned (.tuple #[.string (rdOf ByteArray.empty l0 a), .int .i64 0]) ∧ Below w.heap.size w w' := by
  refine (callsIn_wide (n := 10)).1 ?_
  refine callsIn_of_wp_marks Tryz.func45 rfl trivial ?_ rfl
  simp only [Tryz.ntmps45, List.size_toArray, List.length_cons, List.length_nil, Nat.reduceAdd, Nat.reduceSub, Array.replicate_succ, Array.replicate_zero, List.push_toArray, List.append_toArray, List.nil_append, List.cons_append]
  have b1 : decide (a < 0) = false := decide_eq_false (by omega)
  have b2 : decide ((l0.length : Int) ≤ a) = false := decide_eq_false (by omega)
  have HR0 := Aside0.mk hr0
  have H0 := Aside0.mk h0
  have H1 := Aside0.mk h1
  have HC0 := Aside0.mk hc0
  clear hr0 hc0 h0 h1
  gi_wp2_with fail
  refine ⟨trivial, ?_⟩
  refine (callsIn_wide.2 (backward_walk none 0 0 _)).mono ?_
  rintro e w2 ⟨rfl, rfl⟩
  obtain ⟨W, hW, g0, g1, g2, g3, gB, gz⟩ := read4 w (.slice A0 l0.length c0) (.slice none 0 0) a
  rw [hW]
  clear hW
  have k0 := blk_alloc g0 (.cells #[.slice none 0 0] 24)
  have k1 := g1.alloc (.cells #[.slice none 0 0] 24)
  have k2 := g2.alloc (.cells #[.slice none 0 0] 24)
  have k3 := g3.alloc (.cells #[.slice none 0 0] 24)
  have k4 := boxed_next gz 24 (.slice none 0 0)
  have kB := below_alloc gB (.cells #[.slice none 0 0] 24)
  rw [gz]
  clear g0 g1 g2 g3 gB gz
  revert k0 k1 k2 k3 k4 kB
  generalize W.alloc (.cells #[.slice none 0 0] 24) = W5
  intro k0 k1 k2 k3 k4 kB
  gi_wp2
  refine range_sa (F := Fence.wide) (n := 10) rfl (by decide) (gf := 105) (lb := #[.pointer (some ⟨w.heap.size + 4, 0, none⟩)]) rfl trivial (enters_of Tryz.func105 (by kernel_rfl) rfl)
    (backIter0 9 (w.heap.size + 4) none 0 W5 (by omega) k4.1) (fun _ _ => trivial) (fun _ _ _ _ => trivial) (fun _ => rfl) ?hst (ReadI w A0 l0.length c0 a) (fun _ _ _ => False) (readI_own w A0 l0.length c0 a k4.2.symm) (fun s A B h e => by subst e; exact h) (fun _ _ _ _ _ h => h.elim) ?h0
    (fun _ blk => { tmps := #[.agg #[.slice A0 l0.length c0, .slice none 0 0], .int .i64 a, .pointer (some ⟨w.heap.size, 0, none⟩), .pointer (some ⟨w.heap.size + 1, 0, none⟩), .pointer (some ⟨w.heap.size + 1 + 1, 0, none⟩), .pointer (some ⟨w.heap.size + 1 + 1 + 1, 0, none⟩), undef, .pointer (some ⟨blk, 0, none⟩), .int .i64 a, .bool false, .bool false, .int .i64 a, .pointer (some ⟨w.heap.size, 0, none⟩), .slice A0 l0.length c0, .int .i64 l0.length, .bool false, .bool false, .pointer (some ⟨w.heap.size, 1, none⟩), .slice none 0 0, .func (.func 105) #[] #[.pointer (some ⟨w.heap.size + 4, 0, none⟩)], .int .i64 0, .agg #[.int .i64 0, .string ⟨#[]⟩], undef, undef, undef, undef, undef, undef, undef, undef, undef, undef, undef], defers := [] }) (fun _ => .cells #[.int .i64 0, .string ⟨#[]⟩] 58) (fun _ _ _ => trivial) ?assign ?body ?done ?stop
  case hst =>
    rintro A B l o rfl ho hl
    exact ho
  case h0 => exact ⟨k0, k1, kB, by rw [k4.2]; omega, k2, k3⟩
  case assign =>
    intro l x W K hK
    gi_wp2
    exact hK
  case body => exact fun l pre x W blk hI hlen => absurd hlen (Nat.not_lt_zero _)
  case stop => exact fun D c pre W hD hs h => h.elim
  case done =>
    rintro D ys W hD rfl ⟨h1, h2, h3, h4, h5, h6⟩ hK
    have d0 := (blk_cell h1 0).trans (show _ = some (Value.slice A0 l0.length c0) from rfl)
    have d1 := h2.cell
    have d2 := h5.cell
    have d3 := h6.cell
    have f2 := h5.frozen
    have f3 := h6.frozen
    obtain ⟨ad, e1, hx⟩ := Kd.at_string (Kd.C_below HR0.out h3) a H0.out H1.out
    subst e1
    have p1 : (0 ≤ a) = True := eq_true H0.out
    have p2 : (a < (l0.length : Int)) = True := eq_true H1.out
    have P5 := Aside0.mk h5
    have P6 := Aside0.mk h6
    clear h1 h2 h5 h6
    gi_wp2
    have hk2 : ((W.setCell ⟨w.heap.size + 1 + 1, 0, none⟩ (.string (rdOf ByteArray.empty l0 a))).setCell ⟨w.heap.size + 1 + 1 + 1, 0, none⟩ (.int .i64 0)).heap[D]? = some (.deferred (some [])) := (KeepsOthers.setCell _ _ _).same D _ ((KeepsOthers.setCell _ _ _).same D _ hK rfl) rfl
    refine read_out2 (b := w.heap.size + 1 + 1) rfl rfl (Boxed.other (P5.out.set _) (by omega) _) ((P6.out.other (by omega) _).set _) (by omega) hk2 ⟨rfl, ?_⟩
    have hB2 := (h3.setCell (p := ⟨w.heap.size + 1 + 1, 0, none⟩) (by show w.heap.size ≤ w.heap.size + 1 + 1; omega) (.string (rdOf ByteArray.empty l0 a))).setCell (p := ⟨w.heap.size + 1 + 1 + 1, 0, none⟩) (by show w.heap.size ≤ w.heap.size + 1 + 1 + 1; omega) (.int .i64 0)
    exact hB2.trans (belowK_b (w := W5) (by omega) _ D _ _ (by omega) hk2 rfl rfl)
end Go.Proofs.YtodejilhgpejnaaGreat.Q
