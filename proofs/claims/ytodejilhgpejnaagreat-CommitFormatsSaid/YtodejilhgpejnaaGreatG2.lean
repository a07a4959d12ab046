import Derived.Test.YtodejilhgpejnaaGreatG1
import Derived.StillTailTactics
namespace Go.Proofs.YtodejilhgpejnaaGreat.Q
open Go.RowKit Go.Proofs.YtodejilhgpejnaaGreatW.PrintWords Go.Proofs.YtodejilhgpejnaaGreatW.PrintLast Go.Proofs.YtodejilhgpejnaaGreatW.PrintMore
attribute [local go_sem] max2_int min2_int max_two min_two max_three min_three max_four min_four
set_option linter.unusedVariables false
set_option linter.unusedSimpArgs false
set_option maxHeartbeats 8000000 in
set_option maxRecDepth 100000 in
/-- disk.Do of four steps, stopped behind the first. -/
theorem do1_walk (A : Option Addr) (N c : Nat) (l : List ByteArray) (g cb a : Nat) (S : ByteArray) (q : Nat) (T : ByteArray) (w : World) (hN : l.length = N) (hr : Kd.C Kd.string w A N l) (hc : N ≤ c) (hbig : N ≤ 1000000) (ha : a < N) (hq : q < N) (hS : S.size = 40) (hT : T.size = 40) (hg : g < w.heap.size) (hrow : ∀ j u, (plan4 a S q T)[j]? = some u → w.cell? ⟨g, j, none⟩ = some u) :
    Calls Tryz.prog 27 #[.agg #[.slice A N c, .slice none 0 0], .slice (some ⟨g, 0, none⟩) 4 cb, .int .i64 1] w fun e w' => ∃ D m B d, e = .returned (.tuple #[.agg #[.slice D N m, .slice B 1 d], .int .i64 1]) ∧ N ≤ m ∧ 1 ≤ d ∧ Kd.C Kd.string w' D N l ∧ Kd.C kW w' B 1 [⟨a, S⟩] ∧ Below w.heap.size w w' := by
  obtain ⟨W1, hW1⟩ : ∃ W1, W1 = (w.alloc (.cells #[.slice A N c, .slice none 0 0] 26)).alloc (.cells #[.slice none 0 0, .slice none 0 0] 26) := ⟨_, rfl⟩
  have S1 := Aside0.mk (show DoSt w W1 A N c none 0 0 g a S q T by
    have hb : Below w.heap.size w W1 := by rw [hW1]; exact below_alloc (below_alloc (Below.refl _ _) _) _
    exact ⟨hb, by rw [hW1]; exact blk_alloc (blk_new w _) _, by rw [hW1]; exact blk2 w _ _, fun j u h => bcell hb (hrow j u h)⟩)
  have HR1 := Aside0.mk (And.intro hc (Kd.C_below hr S1.out.b0))
  have HP1 := Aside0.mk (putC ha hS)
  have HP2 := Aside0.mk (putC hq hT)
  have HF1 := Aside0.mk (flushC ha hS hbig)
  have HF2 := Aside0.mk (flushC hq hT hbig)
  have HL1 := Aside0.mk hN
  have HL2 := Aside0.mk (show (l.set a S).length = N by rw [List.length_set]; exact hN)
  have HG := Aside0.mk hg
  have n1 : ((a : Int) == -1) = false := beq_eq_false_iff_ne.mpr (by omega)
  have n2 : ((q : Int) == -1) = false := beq_eq_false_iff_ne.mpr (by omega)
  have n3 := string_ne hS
  have n4 := string_ne hT
  have hW1' := Aside0.mk hW1
  clear hW1 hN hr hc hbig ha hq hS hT hg hrow
  go_enter Tryz.func27, Tryz.ntmps27
  go_upto_region 1 with (fail)
  rw [← hW1'.out]
  go_wp2
  refine wp_loop_rounds 5 ?_
  rw [rounds_succ]
  have HR := HR1
  (have xi := S1.out.row 0 _ rfl; have xj := S1.out.row 1 _ rfl; go_upto_region 4 with fail; (obtain ⟨Wa, hWa⟩ : ∃ W, W = World.alloc W1 (.cells #[.int .i64 a, .string S] 58) := ⟨_, rfl⟩; have YWa := Aside0.mk (show Wa.heap[W1.heap.size]? = some (.cells #[.int .i64 a, .string S] 58 (0, 0)) by rw [hWa]; exact blk_new _ _); have HWa := Aside0.mk (show Below W1.heap.size W1 Wa by rw [hWa]; exact below_alloc (Below.refl _ _) _); rw [← hWa]; clear hWa xi xj; have y0 := (blk_cell YWa.out 0).trans (show _ = some (Value.int .i64 a) from rfl); have y1 := (blk_cell YWa.out 1).trans (show _ = some (Value.string S) from rfl)); have Sa := Aside0.mk (S1.out.step HWa.out); have d0 := Sa.out.c0; have d1 := Sa.out.c1; go_upto_region 9 with (first | (go_at_call 49; (with_reducible refine (HP1.out _ _ _).mono ?_); rintro e w2 ⟨B2, m2, rfl, hm2, hw2, hb2⟩; have HW2 := Aside0.mk (And.intro hm2 hw2); have HB2 := Aside0.mk hb2; clear hm2 hw2 hb2) | fail); clear d0 d1 y0 y1; have HRa := Aside0.mk (And.intro HR.out.1 (Kd.C_below HR.out.2 HWa.out)))
  (obtain ⟨Wb, hWb⟩ : ∃ W, W = w2.alloc (.cells #[.slice A N c, .slice B2 1 m2] 26) := ⟨_, rfl⟩; have Sb := Aside0.mk (show DoSt w Wb A N c none 0 0 g a S q T by rw [hWb]; exact (Sa.out.step HB2.out).step (below_alloc (Below.refl _ _) _)); have HWb := Aside0.mk (show Below Wa.heap.size Wa Wb by rw [hWb]; exact below_alloc HB2.out _); have z := (show Wb.heap[w2.heap.size]? = some (.cells #[.slice A N c, .slice B2 1 m2] 26 (0, 0)) by rw [hWb]; exact blk_new _ _); have HW3 := Aside0.mk (show 1 ≤ m2 ∧ Kd.C kW Wb B2 1 [⟨a, S⟩] by rw [hWb]; exact ⟨HW2.out.1, Kd.C_alloc HW2.out.2 _⟩); rw [← hWb]; clear hWb; have z0 := (blk_cell z 0).trans (show _ = some (Value.slice A N c) from rfl); have z1 := (blk_cell z 1).trans (show _ = some (Value.slice B2 1 m2) from rfl); have d0 := Sb.out.c0; have d1 := Sb.out.c1; have f0 := blk_frozen Sb.out.hd 0; have f1 := blk_frozen Sb.out.hd 1; clear z; go_upto_region 12 with (fail))
  (obtain ⟨Wc, hWc⟩ : ∃ W, W = (Wb.setCell ⟨w.heap.size, 0, none⟩ (.slice A N c)).setCell ⟨w.heap.size, 1, none⟩ (.slice B2 1 m2) := ⟨_, rfl⟩; have Sc := Aside0.mk (show DoSt w Wc A N c B2 1 m2 g a S q T by rw [hWc]; exact Sb.out.put HG.out); have HWc := Aside0.mk (show 1 ≤ m2 ∧ Kd.C kW Wc B2 1 [⟨a, S⟩] by rw [hWc]; exact ⟨HW3.out.1, wr_store HW3.out.2 Sb.out.hd⟩); have HRc := Aside0.mk (show N ≤ c ∧ Kd.C Kd.string Wc A N l by rw [hWc]; exact ⟨HRa.out.1, str_store (Kd.C_below HRa.out.2 HWb.out) Sb.out.hd⟩); rw [← hWc]; clear hWc z0 z1 d0 d1 f0 f1 HR HW2 HW3 HRa Sb HWb Sa)
  go_wp2
  rw [rounds_succ]
  have d0 := Sc.out.c0
  have d1 := Sc.out.c1
  have xi := Sc.out.row 2 _ rfl
  have xj := Sc.out.row 3 _ rfl
  go_upto_region 4 with fail
  (obtain ⟨Wd, hWd⟩ : ∃ W, W = World.alloc Wc (.cells #[.int .i64 (-1), .string ⟨#[]⟩] 58) := ⟨_, rfl⟩; have YWd := Aside0.mk (show Wd.heap[Wc.heap.size]? = some (.cells #[.int .i64 (-1), .string ⟨#[]⟩] 58 (0, 0)) by rw [hWd]; exact blk_new _ _); have HWd := Aside0.mk (show Below Wc.heap.size Wc Wd by rw [hWd]; exact below_alloc (Below.refl _ _) _); rw [← hWd]; clear hWd xi xj; have y0 := (blk_cell YWd.out 0).trans (show _ = some (Value.int .i64 (-1)) from rfl); have y1 := (blk_cell YWd.out 1).trans (show _ = some (Value.string ⟨#[]⟩) from rfl))
  have Sd := Aside0.mk (Sc.out.step HWd.out)
  clear d0 d1
  have d0 := Sd.out.c0
  have d1 := Sd.out.c1
  have e0 := (blk_cell Sd.out.hr 0).trans (show _ = some (Value.slice none 0 0) from rfl)
  have e1 := (blk_cell Sd.out.hr 1).trans (show _ = some (Value.slice none 0 0) from rfl)
  have f0 := blk_frozen Sd.out.hr 0
  have f1 := blk_frozen Sd.out.hr 1
  go_wp2
  refine bodyPost_ret (results_ct rfl _ _ (w.heap.size + 1) 26 #[.slice A N c, .slice B2 1 m2] (0, 0) _ rfl (blk_put (blk_put Sd.out.hr 0 _ rfl) 1 _ rfl) Tryz.underlying26 rfl (by kernel_rfl)) rfl ?_
  exact ⟨A, c, B2, m2, rfl, HRc.out.1, HWc.out.1, str_store (Kd.C_below HRc.out.2 HWd.out) Sd.out.hr, wr_store (Kd.C_below HWc.out.2 HWd.out) Sd.out.hr, below_set (below_set Sd.out.b0 (by omega)) (by omega)⟩
theorem plan4_doC {A : Option Addr} {N c g cb a q : Nat} {S T : ByteArray} {l : List ByteArray} {w : World} (hN : l.length = N) (hr : Kd.C Kd.string w A N l) (hc : N ≤ c) (hbig : N ≤ 1000000) (ha : a < N) (hq : q < N) (hS : S.size = 40) (hT : T.size = 40) (hg : g < w.heap.size) (hrow : ∀ j u, (plan4 a S q T)[j]? = some u → w.cell? ⟨g, j, none⟩ = some u) :
    DoC A N c g 4 cb (-1) w ((l.set a S).set q T) [] 4 := by
  intro W hb
  refine (do4_walk A N c l g cb a S q T W hN (Kd.C_below hr hb) hc hbig ha hq hS hT (Nat.lt_of_lt_of_le hg hb.size) (fun j u h => bcell hb (hrow j u h))).mono ?_
  rintro e w' ⟨D, m, rfl, h1, h2, h3⟩
  exact ⟨D, m, none, 0, rfl, h1, Nat.le_refl _, h2, Kd.C_nil _ _, h3, fun _ => ⟨rfl, rfl⟩⟩
theorem plan1_doC {A : Option Addr} {N c g cb a q : Nat} {S T : ByteArray} {l : List ByteArray} {w : World} (hN : l.length = N) (hr : Kd.C Kd.string w A N l) (hc : N ≤ c) (hbig : N ≤ 1000000) (ha : a < N) (hq : q < N) (hS : S.size = 40) (hT : T.size = 40) (hg : g < w.heap.size) (hrow : ∀ j u, (plan4 a S q T)[j]? = some u → w.cell? ⟨g, j, none⟩ = some u) :
    DoC A N c g 4 cb 1 w l [⟨a, S⟩] 1 := by
  intro W hb
  refine (do1_walk A N c l g cb a S q T W hN (Kd.C_below hr hb) hc hbig ha hq hS hT (Nat.lt_of_lt_of_le hg hb.size) (fun j u h => bcell hb (hrow j u h))).mono ?_
  rintro e w' ⟨D, m, B, d, rfl, h1, h2, h3, h4, h5⟩
  exact ⟨D, m, B, d, rfl, h1, h2, h3, h4, h5, fun h => by cases h⟩
end Go.Proofs.YtodejilhgpejnaaGreat.Q
namespace Go.Proofs.YtodejilhgpejnaaGreat.Q
open Go.RowKit Go.Proofs.YtodejilhgpejnaaGreatW.PrintWords Go.Proofs.YtodejilhgpejnaaGreatW.PrintLast Go.Proofs.YtodejilhgpejnaaGreatW.PrintMore
attribute [local go_sem] max2_int min2_int max_two min_two max_three min_three max_four min_four
set_option linter.unusedVariables false
set_option linter.unusedSimpArgs false
theorem results_cct {P : Program} {fn : Func} {p p' u : Tmp} {ty ty' : TypeId} (h : fn.results = #[.cell p ty, .cell p' ty', .tmp u]) (tmps : Array Value) (w : World) (g g' : Nat) (t t' : TypeId) (cs cs' : Array Value) (fr fr' : Nat × Nat) (d d' : TypeDesc)
    (hp : tmps.getD p undef = .pointer (some ⟨g, 0, none⟩)) (hg : w.heap[g]? = some (.cells cs t fr))
    (hu : P.underlying ty = some d) (hd : (match d with | .struct _ | .array _ _ => true | _ => false) = true) (hi : (P.info? ty).map (·.size) = some cs.size)
    (hp' : tmps.getD p' undef = .pointer (some ⟨g', 0, none⟩)) (hg' : w.heap[g']? = some (.cells cs' t' fr'))
    (hu' : P.underlying ty' = some d') (hd' : (match d' with | .struct _ | .array _ _ => true | _ => false) = true) (hi' : (P.info? ty').map (·.size) = some cs'.size) :
    (results fn tmps).run P w = .ok (.tuple #[.agg cs, .agg cs', tmps.getD u undef]) w := by
  have h1 : tmps[p]?.getD undef = .pointer (some ⟨g, 0, none⟩) := by simpa using hp
  have h2 : tmps[p']?.getD undef = .pointer (some ⟨g', 0, none⟩) := by simpa using hp'
  simp [results, h, h1, h2, asAddr, run_loadVar_row w g t ty cs fr d hg hu hd hi, run_loadVar_row w g' t' ty' cs' fr' d' hg' hu' hd' hi']
/-- A state of free cells, flat. -/
def stV (A : Option Addr) (n c keep gen : Nat) : Array Value := #[.slice A n c, .int .i64 keep, .slice none 0 0, .slice none 0 0, .int .i64 1, .int .i64 gen]
def stZ : Array Value := #[.slice none 0 0, .int .i64 0, .slice none 0 0, .slice none 0 0, .int .i64 0, .int .i64 0]
structure CdSt (w W : World) (A0 : Option Addr) (N c0 : Nat) (l0 : List ByteArray) (A : Option Addr) (n c keep gen : Nat) : Prop where
  b0 : Below w.heap.size w W
  hd : W.heap[w.heap.size]? = some (.cells #[.slice A0 N c0, .slice none 0 0] 26 (0, 0))
  hs : W.heap[w.heap.size + 1]? = some (.cells (stV A n c keep gen) 33 (0, 0))
  rd : W.heap[w.heap.size + 1 + 1]? = some (.cells #[.slice none 0 0, .slice none 0 0] 26 (0, 0))
  rs : W.heap[w.heap.size + 1 + 1 + 1]? = some (.cells stZ 33 (0, 0))
  str : Kd.C Kd.string W A0 N l0
  zc : ZC W A n
theorem CdSt.step {w W W' : World} {A0 : Option Addr} {N c0 : Nat} {l0 : List ByteArray} {A : Option Addr} {n c keep gen : Nat} (s : CdSt w W A0 N c0 l0 A n c keep gen) (hb : Below W.heap.size W W') : CdSt w W' A0 N c0 l0 A n c keep gen :=
  ⟨below_step s.b0 hb, blk_below s.hd hb, blk_below s.hs hb, blk_below s.rd hb, blk_below s.rs hb, Kd.C_below s.str hb, ZC_below s.zc hb⟩
theorem CdSt.turn {w W W' : World} {A0 : Option Addr} {N c0 : Nat} {l0 : List ByteArray} {A : Option Addr} {n c keep gen b : Nat} (s : CdSt w W A0 N c0 l0 A n c keep gen) (t : Turn W W' b) (hb : w.heap.size + 1 + 1 + 1 < b) (h1 : No isStr W b) (h2 : No isBoo W b) : CdSt w W' A0 N c0 l0 A n c keep gen :=
  ⟨t.low w (by omega) s.b0, (t.other _ (blk_lt s.hd) (by omega)).trans s.hd, (t.other _ (blk_lt s.hs) (by omega)).trans s.hs, (t.other _ (blk_lt s.rd) (by omega)).trans s.rd, (t.other _ (blk_lt s.rs) (by omega)).trans s.rs, str_no s.str h1 t.other, zc_no s.zc h2 t.other⟩
theorem blk4 (w : World) (o1 o2 o3 o4 : Obj) : ((((w.alloc o1).alloc o2).alloc o3).alloc o4).heap[w.heap.size + 1 + 1 + 1]? = some o4 := by
  have := blk_new (((w.alloc o1).alloc o2).alloc o3) o4
  simpa using this
/-- What plan.Plan comes to. -/
abbrev PlanC (A0 : Option Addr) (N c0 : Nat) (A : Option Addr) (n c keep gen : Nat) (a : Nat) (S : ByteArray) (q : Nat) (T : ByteArray) (w : World) : Prop := ∀ W : World, Below w.heap.size w W → Calls Tryz.prog 26 #[.agg #[.slice A0 N c0, .slice none 0 0], .agg #[.slice A n c, .int .i64 keep, .slice none 0 0, .slice none 0 0, .int .i64 1, .int .i64 gen]] W fun e w' => ∃ g cb, e = .returned (.tuple #[.slice (some ⟨g, 0, none⟩) 4 cb, .int .i64 0]) ∧ g < w'.heap.size ∧ (∀ j u, (plan4 a S q T)[j]? = some u → w'.cell? ⟨g, j, none⟩ = some u) ∧ Below W.heap.size W w'
set_option maxHeartbeats 8000000 in
set_option maxRecDepth 100000 in
/-- commit.Do, whole. -/
theorem cdo_walk (A0 : Option Addr) (N c0 : Nat) (l0 : List ByteArray) (A : Option Addr) (n c keep gen : Nat) (a : Nat) (S : ByteArray) (q : Nat) (T : ByteArray) (w : World) (hN : l0.length = N) (hr : Kd.C Kd.string w A0 N l0) (hc : N ≤ c0) (hz : ZC w A n) (h0 : 0 < n) (hn : n ≤ 2000) (hg : gen ≤ 1000000) (hbig : N ≤ 1000000) (ha : a < N) (hq : q < N) (hS : S.size = 40) (hT : T.size = 40) (hpl : PlanC A0 N c0 A n c keep gen a S q T w) :
    Calls Tryz.prog 12 #[.agg #[.slice A0 N c0, .slice none 0 0], .agg #[.slice A n c, .int .i64 keep, .slice none 0 0, .slice none 0 0, .int .i64 1, .int .i64 gen], .int .i64 (-1)] w fun e w' => ∃ D m B, e = .returned (.tuple #[.agg #[.slice D N m, .slice none 0 0], .agg #[.slice B n n, .int .i64 keep, .slice none 0 0, .slice none 0 0, .int .i64 1, .int .i64 ((gen + 1 : Nat) : Int)], .int .i64 0]) ∧ N ≤ m ∧ Kd.C Kd.string w' D N ((l0.set a S).set q T) ∧ ZC w' B n ∧ Below w.heap.size w w' := by
  obtain ⟨W1, hW1⟩ : ∃ W1, W1 = (((w.alloc (.cells #[.slice A0 N c0, .slice none 0 0] 26)).alloc (.cells #[.slice A n c, .int .i64 keep, .slice none 0 0, .slice none 0 0, .int .i64 1, .int .i64 gen] 33)).alloc (.cells #[.slice none 0 0, .slice none 0 0] 26)).alloc (.cells #[.slice none 0 0, .int .i64 0, .slice none 0 0, .slice none 0 0, .int .i64 0, .int .i64 0] 33) := ⟨_, rfl⟩
  have S1 := Aside0.mk (show CdSt w W1 A0 N c0 l0 A n c keep gen by
    have hb : Below w.heap.size w W1 := by rw [hW1]; exact below_alloc (below_alloc (below_alloc (below_alloc (Below.refl _ _) _) _) _) _
    exact ⟨hb, by rw [hW1]; exact blk_alloc (blk_alloc (blk_alloc (blk_new w _) _) _) _, by rw [hW1]; exact blk_alloc (blk_alloc (blk2 w _ _) _) _, by rw [hW1]; exact blk_alloc (blk3 w _ _ _) _, by rw [hW1]; exact blk4 w _ _ _ _, Kd.C_below hr hb, ZC_below hz hb⟩)
  have HPL := Aside0.mk (fun (W : World) (hb : Below W1.heap.size W1 W) => hpl W (below_step S1.out.b0 hb))
  have HH := Aside0.mk (show l0.length = N ∧ N ≤ c0 ∧ N ≤ 1000000 ∧ a < N ∧ q < N ∧ S.size = 40 ∧ T.size = 40 ∧ 0 < n ∧ n ≤ 2000 from ⟨hN, hc, hbig, ha, hq, hS, hT, h0, hn⟩)
  have HW := Aside0.mk (show wrap64 ((gen : Int) + 1) = ((gen + 1 : Nat) : Int) by unfold wrap64; omega)
  have hW1' := Aside0.mk hW1
  (have s0 := (blk_cell S1.out.hs 0).trans (show _ = some (Value.slice A n c) from rfl); have s1 := (blk_cell S1.out.hs 1).trans (show _ = some (Value.int .i64 keep) from rfl); have s2 := (blk_cell S1.out.hs 2).trans (show _ = some (Value.slice none 0 0) from rfl); have s3 := (blk_cell S1.out.hs 3).trans (show _ = some (Value.slice none 0 0) from rfl); have s4 := (blk_cell S1.out.hs 4).trans (show _ = some (Value.int .i64 1) from rfl); have s5 := (blk_cell S1.out.hs 5).trans (show _ = some (Value.int .i64 gen) from rfl))
  (have d0 := (blk_cell S1.out.hd 0).trans (show _ = some (Value.slice A0 N c0) from rfl); have d1 := (blk_cell S1.out.hd 1).trans (show _ = some (Value.slice none 0 0) from rfl))
  clear hW1 hN hr hc hz h0 hn hg hbig ha hq hS hT hpl
  (go_enter Tryz.func12, Tryz.ntmps12; go_upto_region 1 with (fail); rw [← hW1'.out]; go_upto_region 4 with (first | (go_at_call 26; (with_reducible refine (HPL.out _ (by repeat (first | (with_reducible exact Below.refl _ _) | (with_reducible refine below_alloc ?_ _) | (with_reducible refine below_drew1 ?_) | (with_reducible refine pw_below_drewN ?_ _) | (with_reducible exact Below.refl _ _)))).mono ?_); rintro e w2 ⟨g, cb, rfl, hg, hrow, hb2⟩; have HG := Aside0.mk hg; have HROW := Aside0.mk hrow; have S2 := Aside0.mk (S1.out.step hb2); clear hg hrow hb2) | fail))
  (clear d0 d1 s0 s1 s2 s3 s4 s5; (have d0 := (blk_cell S2.out.hd 0).trans (show _ = some (Value.slice A0 N c0) from rfl); have d1 := (blk_cell S2.out.hd 1).trans (show _ = some (Value.slice none 0 0) from rfl)); go_upto_region 5 with fail; obtain ⟨W3, hW3⟩ : ∃ W3, W3 = w2.alloc (.cells #[.slice A0 N c0, .slice none 0 0, .slice (some ⟨g, 0, none⟩) 4 cb, .func (.func 27) #[] #[]] 68) := ⟨_, rfl⟩; have H3 := Aside0.mk (show Below w2.heap.size w2 W3 by rw [hW3]; exact below_alloc (Below.refl _ _) _); have S3 := Aside0.mk (S2.out.step H3.out); have HJ := Aside0.mk (show W3.heap[w2.heap.size]? = some (.cells (jobV A0 N c0 none 0 0 g 4 cb) 68 (0, 0)) by rw [hW3]; exact blk_new _ _); have HLT := Aside0.mk (show w.heap.size + 1 + 1 + 1 < w2.heap.size from blk_lt S2.out.rs); obtain ⟨jb, hjb⟩ : ∃ jb, jb = w2.heap.size := ⟨_, rfl⟩; have HLE3 := Aside0.mk (show w2.heap.size ≤ jb by omega); rw [← hjb] at HJ HLT; rw [← hW3, ← hjb]; have HGR := Aside0.mk (show g < W3.heap.size ∧ ∀ j u, (plan4 a S q T)[j]? = some u → W3.cell? ⟨g, j, none⟩ = some u from ⟨Nat.lt_of_lt_of_le HG.out H3.out.size, fun j u h => bcell H3.out (HROW.out j u h)⟩); clear hW3 d0 d1 hjb)
  have HRUN := Aside0.mk (run_walk jb A0 N c0 g 4 cb (-1) ((l0.set a S).set q T) [] 4 W3 HJ.out (plan4_doC HH.out.1 S3.out.str HH.out.2.1 HH.out.2.2.1 HH.out.2.2.2.1 HH.out.2.2.2.2.1 HH.out.2.2.2.2.2.1 HH.out.2.2.2.2.2.2.1 HGR.out.1 HGR.out.2))
  go_upto_region 7 with (first | (go_at_call 28; (with_reducible refine HRUN.out.mono ?_); rintro e w4 ⟨rfl, D, m, B, d, hj, hm, hd, hstr, hwr, ht, hnn⟩; obtain ⟨rfl, rfl⟩ := hnn rfl; have HJ4 := Aside0.mk hj; have HR4 := Aside0.mk (And.intro hm hstr); have HT4 := Aside0.mk (ht.low w2 (by have := HLE3.out; omega) H3.out); have S4 := Aside0.mk (S3.out.turn ht HLT.out ⟨_, _, HJ.out, rfl⟩ ⟨_, _, HJ.out, rfl⟩); clear hj hm hd hstr hwr ht hnn) | fail)
  have HLT4 := Aside0.mk (show Below w2.heap.size w2 w4 from HT4.out)
  clear HJ S3 S2 HRUN HGR
  (have s0 := (blk_cell S4.out.hs 0).trans (show _ = some (Value.slice A n c) from rfl); have s1 := (blk_cell S4.out.hs 1).trans (show _ = some (Value.int .i64 keep) from rfl); have s2 := (blk_cell S4.out.hs 2).trans (show _ = some (Value.slice none 0 0) from rfl); have s3 := (blk_cell S4.out.hs 3).trans (show _ = some (Value.slice none 0 0) from rfl); have s4 := (blk_cell S4.out.hs 4).trans (show _ = some (Value.int .i64 1) from rfl); have s5 := (blk_cell S4.out.hs 5).trans (show _ = some (Value.int .i64 gen) from rfl))
  have HST := Aside0.mk (settle_walk A n c keep w4 S4.out.zc HH.out.2.2.2.2.2.2.2.1 HH.out.2.2.2.2.2.2.2.2)
  go_upto_region 8 with (first | (go_at_call 29; (with_reducible refine HST.out.mono ?_); rintro e w5 ⟨B5, rfl, hz5, hb5⟩; have HZ5 := Aside0.mk hz5; have S5 := Aside0.mk (S4.out.step hb5); have HJ5 := Aside0.mk (blk_below HJ4.out hb5); have HR5 := Aside0.mk (And.intro HR4.out.1 (Kd.C_below HR4.out.2 hb5)); have f0 := blk_frozen S5.out.hs 0; have f1 := blk_frozen S5.out.hs 1; have t0 := (blk_cell S5.out.hs 0).trans (show _ = some (Value.slice A n c) from rfl); have t1 := (blk_cell S5.out.hs 1).trans (show _ = some (Value.int .i64 keep) from rfl); clear hz5 hb5) | fail)
  clear s0 s1 s2 s3 s4 s5
  have f5 := blk_frozen S5.out.hs 5
  obtain ⟨W6, hW6⟩ : ∃ W6, W6 = (w5.setCell ⟨w.heap.size + 1, 0, none⟩ (.slice B5 n n)).setCell ⟨w.heap.size + 1, 1, none⟩ (.int .i64 keep) := ⟨_, rfl⟩
  have HS6 := Aside0.mk (show W6.heap[w.heap.size + 1]? = some (.cells (stV B5 n n keep gen) 33 (0, 0)) by rw [hW6]; exact blk_put (blk_put S5.out.hs 0 _ rfl) 1 _ rfl)
  have HT6 := Aside0.mk (show Turn w5 W6 (w.heap.size + 1) by rw [hW6]; exact ((Turn.of_below (Below.refl _ _)).set 0 _).set 1 _)
  rw [← hW6]
  clear hW6 f0 f1 t0 t1 f5
  have s5 := (blk_cell HS6.out 5).trans (show _ = some (Value.int .i64 gen) from rfl)
  have f5 := blk_frozen HS6.out 5
  go_upto_region 9 with fail
  rw [HW.out]
  obtain ⟨W7, hW7⟩ : ∃ W7, W7 = W6.setCell ⟨w.heap.size + 1, 5, none⟩ (.int .i64 ((gen + 1 : Nat) : Int)) := ⟨_, rfl⟩
  have HS7 := Aside0.mk (show W7.heap[w.heap.size + 1]? = some (.cells (stV B5 n n keep (gen + 1)) 33 (0, 0)) by rw [hW7]; exact blk_put HS6.out 5 _ rfl)
  have HT7 := Aside0.mk (show Turn w5 W7 (w.heap.size + 1) by rw [hW7]; exact HT6.out.set 5 _)
  rw [← hW7]
  clear hW7 s5 f5
  have hnb : No isBoo w5 (w.heap.size + 1) := ⟨_, _, S5.out.hs, rfl⟩
  have hns : No isStr w5 (w.heap.size + 1) := ⟨_, _, S5.out.hs, rfl⟩
  have HZ7 := Aside0.mk (zc_no HZ5.out hnb HT7.out.other)
  have HR7 := Aside0.mk (And.intro HR5.out.1 (str_no HR5.out.2 hns HT7.out.other))
  have HD7 := Aside0.mk ((HT7.out.other _ (blk_lt S5.out.rd) (by omega)).trans S5.out.rd)
  have HE7 := Aside0.mk ((HT7.out.other _ (blk_lt S5.out.rs) (by omega)).trans S5.out.rs)
  have HJ7 := Aside0.mk ((HT7.out.other _ (blk_lt HJ5.out) (by have := HLT.out; omega)).trans HJ5.out)
  have HB7 := Aside0.mk (HT7.out.low w (by omega) S5.out.b0)
  clear hnb hns
  have k0 := (blk_cell HJ7.out 0).trans (show _ = some (Value.slice D N m) from rfl)
  have k1 := (blk_cell HJ7.out 1).trans (show _ = some (Value.slice none 0 0) from rfl)
  have s0 := (blk_cell HS7.out 0).trans (show _ = some (Value.slice B5 n n) from rfl)
  have s1 := (blk_cell HS7.out 1).trans (show _ = some (Value.int .i64 keep) from rfl)
  have s2 := (blk_cell HS7.out 2).trans (show _ = some (Value.slice none 0 0) from rfl)
  have s3 := (blk_cell HS7.out 3).trans (show _ = some (Value.slice none 0 0) from rfl)
  have s4 := (blk_cell HS7.out 4).trans (show _ = some (Value.int .i64 1) from rfl)
  have s5 := (blk_cell HS7.out 5).trans (show _ = some (Value.int .i64 ((gen + 1 : Nat) : Int)) from rfl)
  have r0 := (blk_cell HD7.out 0).trans (show _ = some (Value.slice none 0 0) from rfl)
  have r1 := (blk_cell HD7.out 1).trans (show _ = some (Value.slice none 0 0) from rfl)
  have g0 := blk_frozen HD7.out 0
  have g1 := blk_frozen HD7.out 1
  have e0 := (blk_cell HE7.out 0).trans (show _ = some (Value.slice none 0 0) from rfl)
  have e1 := (blk_cell HE7.out 1).trans (show _ = some (Value.int .i64 0) from rfl)
  have e2 := (blk_cell HE7.out 2).trans (show _ = some (Value.slice none 0 0) from rfl)
  have e3 := (blk_cell HE7.out 3).trans (show _ = some (Value.slice none 0 0) from rfl)
  have e4 := (blk_cell HE7.out 4).trans (show _ = some (Value.int .i64 0) from rfl)
  have e5 := (blk_cell HE7.out 5).trans (show _ = some (Value.int .i64 0) from rfl)
  have h0' := blk_frozen HE7.out 0
  have h1' := blk_frozen HE7.out 1
  have h2' := blk_frozen HE7.out 2
  have h3' := blk_frozen HE7.out 3
  have h4' := blk_frozen HE7.out 4
  have h5' := blk_frozen HE7.out 5
  have HNE := Aside0.mk (show jb ≠ w.heap.size + 1 + 1 ∧ w.heap.size + 1 ≠ w.heap.size + 1 + 1 ∧ jb ≠ w.heap.size + 1 + 1 + 1 ∧ w.heap.size + 1 ≠ w.heap.size + 1 + 1 + 1 from ⟨by have := HLT.out; omega, by omega, by have := HLT.out; omega, by omega⟩)
  have hx : ∀ (W : World) (p : Addr), W.drew.cell? p = W.cell? p := fun W p => rfl
  have K0 := Aside0.mk (show W7.drew.cell? ⟨jb, 0, none⟩ = some (.slice D N m) ∧ W7.drew.cell? ⟨jb, 1, none⟩ = some (.slice none 0 0) ∧ W7.drew.cell? ⟨w.heap.size + 1, 0, none⟩ = some (.slice B5 n n) ∧ W7.drew.cell? ⟨w.heap.size + 1, 1, none⟩ = some (.int .i64 keep) ∧ W7.drew.cell? ⟨w.heap.size + 1, 2, none⟩ = some (.slice none 0 0) ∧ W7.drew.cell? ⟨w.heap.size + 1, 3, none⟩ = some (.slice none 0 0) ∧ W7.drew.cell? ⟨w.heap.size + 1, 4, none⟩ = some (.int .i64 1) ∧ W7.drew.cell? ⟨w.heap.size + 1, 5, none⟩ = some (.int .i64 ((gen + 1 : Nat) : Int)) from ⟨(hx _ _).trans k0, (hx _ _).trans k1, (hx _ _).trans s0, (hx _ _).trans s1, (hx _ _).trans s2, (hx _ _).trans s3, (hx _ _).trans s4, (hx _ _).trans s5⟩)
  have K1 := Aside0.mk (show ∀ v0 v1 : Value, ((W7.setCell ⟨w.heap.size + 1 + 1, 0, none⟩ v0).setCell ⟨w.heap.size + 1 + 1, 1, none⟩ v1).drew.cell? ⟨jb, 0, none⟩ = some (.slice D N m) ∧ ((W7.setCell ⟨w.heap.size + 1 + 1, 0, none⟩ v0).setCell ⟨w.heap.size + 1 + 1, 1, none⟩ v1).drew.cell? ⟨jb, 1, none⟩ = some (.slice none 0 0) ∧ ((W7.setCell ⟨w.heap.size + 1 + 1, 0, none⟩ v0).setCell ⟨w.heap.size + 1 + 1, 1, none⟩ v1).drew.cell? ⟨w.heap.size + 1, 0, none⟩ = some (.slice B5 n n) ∧ ((W7.setCell ⟨w.heap.size + 1 + 1, 0, none⟩ v0).setCell ⟨w.heap.size + 1 + 1, 1, none⟩ v1).drew.cell? ⟨w.heap.size + 1, 1, none⟩ = some (.int .i64 keep) ∧ ((W7.setCell ⟨w.heap.size + 1 + 1, 0, none⟩ v0).setCell ⟨w.heap.size + 1 + 1, 1, none⟩ v1).drew.cell? ⟨w.heap.size + 1, 2, none⟩ = some (.slice none 0 0) ∧ ((W7.setCell ⟨w.heap.size + 1 + 1, 0, none⟩ v0).setCell ⟨w.heap.size + 1 + 1, 1, none⟩ v1).drew.cell? ⟨w.heap.size + 1, 3, none⟩ = some (.slice none 0 0) ∧ ((W7.setCell ⟨w.heap.size + 1 + 1, 0, none⟩ v0).setCell ⟨w.heap.size + 1 + 1, 1, none⟩ v1).drew.cell? ⟨w.heap.size + 1, 4, none⟩ = some (.int .i64 1) ∧ ((W7.setCell ⟨w.heap.size + 1 + 1, 0, none⟩ v0).setCell ⟨w.heap.size + 1 + 1, 1, none⟩ v1).drew.cell? ⟨w.heap.size + 1, 5, none⟩ = some (.int .i64 ((gen + 1 : Nat) : Int)) from fun v0 v1 => ⟨(hx _ _).trans ((cell_far HNE.out.1 _).trans ((cell_far HNE.out.1 _).trans k0)), (hx _ _).trans ((cell_far HNE.out.1 _).trans ((cell_far HNE.out.1 _).trans k1)), (hx _ _).trans ((cell_far HNE.out.2.1 _).trans ((cell_far HNE.out.2.1 _).trans s0)), (hx _ _).trans ((cell_far HNE.out.2.1 _).trans ((cell_far HNE.out.2.1 _).trans s1)), (hx _ _).trans ((cell_far HNE.out.2.1 _).trans ((cell_far HNE.out.2.1 _).trans s2)), (hx _ _).trans ((cell_far HNE.out.2.1 _).trans ((cell_far HNE.out.2.1 _).trans s3)), (hx _ _).trans ((cell_far HNE.out.2.1 _).trans ((cell_far HNE.out.2.1 _).trans s4)), (hx _ _).trans ((cell_far HNE.out.2.1 _).trans ((cell_far HNE.out.2.1 _).trans s5))⟩)
  have K2 := Aside0.mk (show ∀ v0 v1 u0 u1 u2 u3 u4 u5 : Value, ((((((((W7.setCell ⟨w.heap.size + 1 + 1, 0, none⟩ v0).setCell ⟨w.heap.size + 1 + 1, 1, none⟩ v1).setCell ⟨w.heap.size + 1 + 1 + 1, 0, none⟩ u0).setCell ⟨w.heap.size + 1 + 1 + 1, 1, none⟩ u1).setCell ⟨w.heap.size + 1 + 1 + 1, 2, none⟩ u2).setCell ⟨w.heap.size + 1 + 1 + 1, 3, none⟩ u3).setCell ⟨w.heap.size + 1 + 1 + 1, 4, none⟩ u4).setCell ⟨w.heap.size + 1 + 1 + 1, 5, none⟩ u5).drew.cell? ⟨jb, 0, none⟩ = some (.slice D N m) ∧ ((((((((W7.setCell ⟨w.heap.size + 1 + 1, 0, none⟩ v0).setCell ⟨w.heap.size + 1 + 1, 1, none⟩ v1).setCell ⟨w.heap.size + 1 + 1 + 1, 0, none⟩ u0).setCell ⟨w.heap.size + 1 + 1 + 1, 1, none⟩ u1).setCell ⟨w.heap.size + 1 + 1 + 1, 2, none⟩ u2).setCell ⟨w.heap.size + 1 + 1 + 1, 3, none⟩ u3).setCell ⟨w.heap.size + 1 + 1 + 1, 4, none⟩ u4).setCell ⟨w.heap.size + 1 + 1 + 1, 5, none⟩ u5).drew.cell? ⟨jb, 1, none⟩ = some (.slice none 0 0) ∧ ((((((((W7.setCell ⟨w.heap.size + 1 + 1, 0, none⟩ v0).setCell ⟨w.heap.size + 1 + 1, 1, none⟩ v1).setCell ⟨w.heap.size + 1 + 1 + 1, 0, none⟩ u0).setCell ⟨w.heap.size + 1 + 1 + 1, 1, none⟩ u1).setCell ⟨w.heap.size + 1 + 1 + 1, 2, none⟩ u2).setCell ⟨w.heap.size + 1 + 1 + 1, 3, none⟩ u3).setCell ⟨w.heap.size + 1 + 1 + 1, 4, none⟩ u4).setCell ⟨w.heap.size + 1 + 1 + 1, 5, none⟩ u5).drew.cell? ⟨w.heap.size + 1, 0, none⟩ = some (.slice B5 n n) ∧ ((((((((W7.setCell ⟨w.heap.size + 1 + 1, 0, none⟩ v0).setCell ⟨w.heap.size + 1 + 1, 1, none⟩ v1).setCell ⟨w.heap.size + 1 + 1 + 1, 0, none⟩ u0).setCell ⟨w.heap.size + 1 + 1 + 1, 1, none⟩ u1).setCell ⟨w.heap.size + 1 + 1 + 1, 2, none⟩ u2).setCell ⟨w.heap.size + 1 + 1 + 1, 3, none⟩ u3).setCell ⟨w.heap.size + 1 + 1 + 1, 4, none⟩ u4).setCell ⟨w.heap.size + 1 + 1 + 1, 5, none⟩ u5).drew.cell? ⟨w.heap.size + 1, 1, none⟩ = some (.int .i64 keep) ∧ ((((((((W7.setCell ⟨w.heap.size + 1 + 1, 0, none⟩ v0).setCell ⟨w.heap.size + 1 + 1, 1, none⟩ v1).setCell ⟨w.heap.size + 1 + 1 + 1, 0, none⟩ u0).setCell ⟨w.heap.size + 1 + 1 + 1, 1, none⟩ u1).setCell ⟨w.heap.size + 1 + 1 + 1, 2, none⟩ u2).setCell ⟨w.heap.size + 1 + 1 + 1, 3, none⟩ u3).setCell ⟨w.heap.size + 1 + 1 + 1, 4, none⟩ u4).setCell ⟨w.heap.size + 1 + 1 + 1, 5, none⟩ u5).drew.cell? ⟨w.heap.size + 1, 2, none⟩ = some (.slice none 0 0) ∧ ((((((((W7.setCell ⟨w.heap.size + 1 + 1, 0, none⟩ v0).setCell ⟨w.heap.size + 1 + 1, 1, none⟩ v1).setCell ⟨w.heap.size + 1 + 1 + 1, 0, none⟩ u0).setCell ⟨w.heap.size + 1 + 1 + 1, 1, none⟩ u1).setCell ⟨w.heap.size + 1 + 1 + 1, 2, none⟩ u2).setCell ⟨w.heap.size + 1 + 1 + 1, 3, none⟩ u3).setCell ⟨w.heap.size + 1 + 1 + 1, 4, none⟩ u4).setCell ⟨w.heap.size + 1 + 1 + 1, 5, none⟩ u5).drew.cell? ⟨w.heap.size + 1, 3, none⟩ = some (.slice none 0 0) ∧ ((((((((W7.setCell ⟨w.heap.size + 1 + 1, 0, none⟩ v0).setCell ⟨w.heap.size + 1 + 1, 1, none⟩ v1).setCell ⟨w.heap.size + 1 + 1 + 1, 0, none⟩ u0).setCell ⟨w.heap.size + 1 + 1 + 1, 1, none⟩ u1).setCell ⟨w.heap.size + 1 + 1 + 1, 2, none⟩ u2).setCell ⟨w.heap.size + 1 + 1 + 1, 3, none⟩ u3).setCell ⟨w.heap.size + 1 + 1 + 1, 4, none⟩ u4).setCell ⟨w.heap.size + 1 + 1 + 1, 5, none⟩ u5).drew.cell? ⟨w.heap.size + 1, 4, none⟩ = some (.int .i64 1) ∧ ((((((((W7.setCell ⟨w.heap.size + 1 + 1, 0, none⟩ v0).setCell ⟨w.heap.size + 1 + 1, 1, none⟩ v1).setCell ⟨w.heap.size + 1 + 1 + 1, 0, none⟩ u0).setCell ⟨w.heap.size + 1 + 1 + 1, 1, none⟩ u1).setCell ⟨w.heap.size + 1 + 1 + 1, 2, none⟩ u2).setCell ⟨w.heap.size + 1 + 1 + 1, 3, none⟩ u3).setCell ⟨w.heap.size + 1 + 1 + 1, 4, none⟩ u4).setCell ⟨w.heap.size + 1 + 1 + 1, 5, none⟩ u5).drew.cell? ⟨w.heap.size + 1, 5, none⟩ = some (.int .i64 ((gen + 1 : Nat) : Int)) from fun v0 v1 u0 u1 u2 u3 u4 u5 => ⟨(hx _ _).trans ((cell_far HNE.out.2.2.1 _).trans ((cell_far HNE.out.2.2.1 _).trans ((cell_far HNE.out.2.2.1 _).trans ((cell_far HNE.out.2.2.1 _).trans ((cell_far HNE.out.2.2.1 _).trans ((cell_far HNE.out.2.2.1 _).trans ((cell_far HNE.out.1 _).trans ((cell_far HNE.out.1 _).trans (k0))))))))), (hx _ _).trans ((cell_far HNE.out.2.2.1 _).trans ((cell_far HNE.out.2.2.1 _).trans ((cell_far HNE.out.2.2.1 _).trans ((cell_far HNE.out.2.2.1 _).trans ((cell_far HNE.out.2.2.1 _).trans ((cell_far HNE.out.2.2.1 _).trans ((cell_far HNE.out.1 _).trans ((cell_far HNE.out.1 _).trans (k1))))))))), (hx _ _).trans ((cell_far HNE.out.2.2.2 _).trans ((cell_far HNE.out.2.2.2 _).trans ((cell_far HNE.out.2.2.2 _).trans ((cell_far HNE.out.2.2.2 _).trans ((cell_far HNE.out.2.2.2 _).trans ((cell_far HNE.out.2.2.2 _).trans ((cell_far HNE.out.2.1 _).trans ((cell_far HNE.out.2.1 _).trans (s0))))))))), (hx _ _).trans ((cell_far HNE.out.2.2.2 _).trans ((cell_far HNE.out.2.2.2 _).trans ((cell_far HNE.out.2.2.2 _).trans ((cell_far HNE.out.2.2.2 _).trans ((cell_far HNE.out.2.2.2 _).trans ((cell_far HNE.out.2.2.2 _).trans ((cell_far HNE.out.2.1 _).trans ((cell_far HNE.out.2.1 _).trans (s1))))))))), (hx _ _).trans ((cell_far HNE.out.2.2.2 _).trans ((cell_far HNE.out.2.2.2 _).trans ((cell_far HNE.out.2.2.2 _).trans ((cell_far HNE.out.2.2.2 _).trans ((cell_far HNE.out.2.2.2 _).trans ((cell_far HNE.out.2.2.2 _).trans ((cell_far HNE.out.2.1 _).trans ((cell_far HNE.out.2.1 _).trans (s2))))))))), (hx _ _).trans ((cell_far HNE.out.2.2.2 _).trans ((cell_far HNE.out.2.2.2 _).trans ((cell_far HNE.out.2.2.2 _).trans ((cell_far HNE.out.2.2.2 _).trans ((cell_far HNE.out.2.2.2 _).trans ((cell_far HNE.out.2.2.2 _).trans ((cell_far HNE.out.2.1 _).trans ((cell_far HNE.out.2.1 _).trans (s3))))))))), (hx _ _).trans ((cell_far HNE.out.2.2.2 _).trans ((cell_far HNE.out.2.2.2 _).trans ((cell_far HNE.out.2.2.2 _).trans ((cell_far HNE.out.2.2.2 _).trans ((cell_far HNE.out.2.2.2 _).trans ((cell_far HNE.out.2.2.2 _).trans ((cell_far HNE.out.2.1 _).trans ((cell_far HNE.out.2.1 _).trans (s4))))))))), (hx _ _).trans ((cell_far HNE.out.2.2.2 _).trans ((cell_far HNE.out.2.2.2 _).trans ((cell_far HNE.out.2.2.2 _).trans ((cell_far HNE.out.2.2.2 _).trans ((cell_far HNE.out.2.2.2 _).trans ((cell_far HNE.out.2.2.2 _).trans ((cell_far HNE.out.2.1 _).trans ((cell_far HNE.out.2.1 _).trans (s5)))))))))⟩)
  clear HH HPL HW hW1' HG HROW H3 HLT HLE3 HT4 S4 HLT4 HST HJ4 HR4 HJ5 HR5 HT6 HS6
  clear hx
  go_region_held3 (fun w' => w'.cell? ⟨jb, 0, none⟩ = some (.slice D N m) ∧ w'.cell? ⟨jb, 1, none⟩ = some (.slice none 0 0) ∧ w'.cell? ⟨w.heap.size + 1, 0, none⟩ = some (.slice B5 n n) ∧ w'.cell? ⟨w.heap.size + 1, 1, none⟩ = some (.int .i64 keep) ∧ w'.cell? ⟨w.heap.size + 1, 2, none⟩ = some (.slice none 0 0) ∧ w'.cell? ⟨w.heap.size + 1, 3, none⟩ = some (.slice none 0 0) ∧ w'.cell? ⟨w.heap.size + 1, 4, none⟩ = some (.int .i64 1) ∧ w'.cell? ⟨w.heap.size + 1, 5, none⟩ = some (.int .i64 ((gen + 1 : Nat) : Int))) (first | (with_reducible exact K0.out) | (with_reducible exact K1.out _ _) | (with_reducible exact K2.out _ _ _ _ _ _ _ _)) (first | fail)
  go_wp2
  obtain ⟨W8, hW8⟩ : ∃ W8, W8 = (W7.setCell ⟨w.heap.size + 1 + 1, 0, none⟩ (.slice D N m)).setCell ⟨w.heap.size + 1 + 1, 1, none⟩ (.slice none 0 0) := ⟨_, rfl⟩
  have T8 : Turn W7 W8 (w.heap.size + 1 + 1) := by rw [hW8]; exact ((Turn.of_below (Below.refl _ _)).set 0 _).set 1 _
  have D8 : W8.heap[w.heap.size + 1 + 1]? = some (.cells #[.slice D N m, .slice none 0 0] 26 (0, 0)) := by rw [hW8]; exact blk_put (blk_put HD7.out 0 _ rfl) 1 _ rfl
  have E8 := (T8.other _ (blk_lt HE7.out) (by omega)).trans HE7.out
  have Z8 := zc_no HZ7.out ⟨_, _, HD7.out, rfl⟩ T8.other
  have R8 := str_no HR7.out.2 ⟨_, _, HD7.out, rfl⟩ T8.other
  have B8 := T8.low w (by omega) HB7.out
  rw [← hW8]
  clear hW8 K1 K2
  obtain ⟨W9, hW9⟩ : ∃ W9, W9 = (((((W8.setCell ⟨w.heap.size + 1 + 1 + 1, 0, none⟩ (.slice B5 n n)).setCell ⟨w.heap.size + 1 + 1 + 1, 1, none⟩ (.int .i64 keep)).setCell ⟨w.heap.size + 1 + 1 + 1, 2, none⟩ (.slice none 0 0)).setCell ⟨w.heap.size + 1 + 1 + 1, 3, none⟩ (.slice none 0 0)).setCell ⟨w.heap.size + 1 + 1 + 1, 4, none⟩ (.int .i64 1)).setCell ⟨w.heap.size + 1 + 1 + 1, 5, none⟩ (.int .i64 ((gen : Int) + 1)) := ⟨_, rfl⟩
  have T9 : Turn W8 W9 (w.heap.size + 1 + 1 + 1) := by rw [hW9]; exact ((((((Turn.of_below (Below.refl _ _)).set 0 _).set 1 _).set 2 _).set 3 _).set 4 _).set 5 _
  have E9 : W9.heap[w.heap.size + 1 + 1 + 1]? = some (.cells (stV B5 n n keep (gen + 1)) 33 (0, 0)) := by rw [hW9]; exact blk_put (blk_put (blk_put (blk_put (blk_put (blk_put E8 0 _ rfl) 1 _ rfl) 2 _ rfl) 3 _ rfl) 4 _ rfl) 5 _ rfl
  have D9 := (T9.other _ (blk_lt D8) (by omega)).trans D8
  have Z9 := zc_no Z8 ⟨_, _, E8, rfl⟩ T9.other
  have R9 := str_no R8 ⟨_, _, E8, rfl⟩ T9.other
  have B9 := T9.low w (by omega) B8
  have hfin : W9.drew = _ := congrArg World.drew hW9
  refine bodyPost_ret (results_cct rfl _ _ (w.heap.size + 1 + 1) (w.heap.size + 1 + 1 + 1) 26 33 #[.slice D N m, .slice none 0 0] (stV B5 n n keep (gen + 1)) (0, 0) (0, 0) _ _ rfl (by first | (rw [← hfin]; exact blk_drew D9) | (rw [← hW9]; exact D9)) Tryz.underlying26 rfl (by kernel_rfl) rfl (by first | (rw [← hfin]; exact blk_drew E9) | (rw [← hW9]; exact E9)) Tryz.underlying33 rfl (by kernel_rfl)) rfl ?_
  first
    | (rw [← hfin]; exact ⟨D, m, B5, rfl, HR7.out.1, Kd.C_drew R9, ZC_below Z9 (below_drew1 (Below.refl _ _)), below_drew1 B9⟩)
    | (rw [← hW9]; exact ⟨D, m, B5, rfl, HR7.out.1, R9, Z9, B9⟩)
end Go.Proofs.YtodejilhgpejnaaGreat.Q
namespace Go.Proofs.YtodejilhgpejnaaGreat.Q
open Go.RowKit Go.Proofs.YtodejilhgpejnaaGreatW.PrintWords Go.Proofs.YtodejilhgpejnaaGreatW.PrintLast Go.Proofs.YtodejilhgpejnaaGreatW.PrintMore
attribute [local go_sem] max2_int min2_int max_two min_two max_three min_three max_four min_four
set_option linter.unusedVariables false
set_option linter.unusedSimpArgs false
set_option maxHeartbeats 8000000 in
set_option maxRecDepth 100000 in
/-- commit.Do, stopped behind its first step. -/
theorem cdo1_walk (A0 : Option Addr) (N c0 : Nat) (l0 : List ByteArray) (A : Option Addr) (n c keep gen : Nat) (a : Nat) (S : ByteArray) (q : Nat) (T : ByteArray) (w : World) (hN : l0.length = N) (hr : Kd.C Kd.string w A0 N l0) (hc : N ≤ c0) (hz : ZC w A n) (h0 : 0 < n) (hn : n ≤ 2000) (hg : gen ≤ 1000000) (hbig : N ≤ 1000000) (ha : a < N) (hq : q < N) (hS : S.size = 40) (hT : T.size = 40) (hpl : PlanC A0 N c0 A n c keep gen a S q T w) :
    Calls Tryz.prog 12 #[.agg #[.slice A0 N c0, .slice none 0 0], .agg #[.slice A n c, .int .i64 keep, .slice none 0 0, .slice none 0 0, .int .i64 1, .int .i64 gen], .int .i64 1] w fun e w' => ∃ D m B d, e = .returned (.tuple #[.agg #[.slice D N m, .slice B 1 d], .agg #[.slice A n c, .int .i64 keep, .slice none 0 0, .slice none 0 0, .int .i64 1, .int .i64 (gen : Int)], .int .i64 8]) ∧ N ≤ m ∧ 1 ≤ d ∧ Kd.C Kd.string w' D N l0 ∧ Kd.C kW w' B 1 [⟨a, S⟩] ∧ ZC w' A n ∧ Below w.heap.size w w' := by
  obtain ⟨W1, hW1⟩ : ∃ W1, W1 = (((w.alloc (.cells #[.slice A0 N c0, .slice none 0 0] 26)).alloc (.cells #[.slice A n c, .int .i64 keep, .slice none 0 0, .slice none 0 0, .int .i64 1, .int .i64 gen] 33)).alloc (.cells #[.slice none 0 0, .slice none 0 0] 26)).alloc (.cells #[.slice none 0 0, .int .i64 0, .slice none 0 0, .slice none 0 0, .int .i64 0, .int .i64 0] 33) := ⟨_, rfl⟩
  have S1 := Aside0.mk (show CdSt w W1 A0 N c0 l0 A n c keep gen by
    have hb : Below w.heap.size w W1 := by rw [hW1]; exact below_alloc (below_alloc (below_alloc (below_alloc (Below.refl _ _) _) _) _) _
    exact ⟨hb, by rw [hW1]; exact blk_alloc (blk_alloc (blk_alloc (blk_new w _) _) _) _, by rw [hW1]; exact blk_alloc (blk_alloc (blk2 w _ _) _) _, by rw [hW1]; exact blk_alloc (blk3 w _ _ _) _, by rw [hW1]; exact blk4 w _ _ _ _, Kd.C_below hr hb, ZC_below hz hb⟩)
  have HPL := Aside0.mk (fun (W : World) (hb : Below W1.heap.size W1 W) => hpl W (below_step S1.out.b0 hb))
  have HH := Aside0.mk (show l0.length = N ∧ N ≤ c0 ∧ N ≤ 1000000 ∧ a < N ∧ q < N ∧ S.size = 40 ∧ T.size = 40 ∧ 0 < n ∧ n ≤ 2000 from ⟨hN, hc, hbig, ha, hq, hS, hT, h0, hn⟩)
  have HW := Aside0.mk (show wrap64 ((gen : Int) + 1) = ((gen + 1 : Nat) : Int) by unfold wrap64; omega)
  have hW1' := Aside0.mk hW1
  (have s0 := (blk_cell S1.out.hs 0).trans (show _ = some (Value.slice A n c) from rfl); have s1 := (blk_cell S1.out.hs 1).trans (show _ = some (Value.int .i64 keep) from rfl); have s2 := (blk_cell S1.out.hs 2).trans (show _ = some (Value.slice none 0 0) from rfl); have s3 := (blk_cell S1.out.hs 3).trans (show _ = some (Value.slice none 0 0) from rfl); have s4 := (blk_cell S1.out.hs 4).trans (show _ = some (Value.int .i64 1) from rfl); have s5 := (blk_cell S1.out.hs 5).trans (show _ = some (Value.int .i64 gen) from rfl))
  (have d0 := (blk_cell S1.out.hd 0).trans (show _ = some (Value.slice A0 N c0) from rfl); have d1 := (blk_cell S1.out.hd 1).trans (show _ = some (Value.slice none 0 0) from rfl))
  clear hW1 hN hr hc hz h0 hn hg hbig ha hq hS hT hpl
  (go_enter Tryz.func12, Tryz.ntmps12; go_upto_region 1 with (fail); rw [← hW1'.out]; go_upto_region 4 with (first | (go_at_call 26; (with_reducible refine (HPL.out _ (by repeat (first | (with_reducible exact Below.refl _ _) | (with_reducible refine below_alloc ?_ _) | (with_reducible refine below_drew1 ?_) | (with_reducible refine pw_below_drewN ?_ _) | (with_reducible exact Below.refl _ _)))).mono ?_); rintro e w2 ⟨g, cb, rfl, hg, hrow, hb2⟩; have HG := Aside0.mk hg; have HROW := Aside0.mk hrow; have S2 := Aside0.mk (S1.out.step hb2); clear hg hrow hb2) | fail))
  (clear d0 d1 s0 s1 s2 s3 s4 s5; (have d0 := (blk_cell S2.out.hd 0).trans (show _ = some (Value.slice A0 N c0) from rfl); have d1 := (blk_cell S2.out.hd 1).trans (show _ = some (Value.slice none 0 0) from rfl)); go_upto_region 5 with fail; obtain ⟨W3, hW3⟩ : ∃ W3, W3 = w2.alloc (.cells #[.slice A0 N c0, .slice none 0 0, .slice (some ⟨g, 0, none⟩) 4 cb, .func (.func 27) #[] #[]] 68) := ⟨_, rfl⟩; have H3 := Aside0.mk (show Below w2.heap.size w2 W3 by rw [hW3]; exact below_alloc (Below.refl _ _) _); have S3 := Aside0.mk (S2.out.step H3.out); have HJ := Aside0.mk (show W3.heap[w2.heap.size]? = some (.cells (jobV A0 N c0 none 0 0 g 4 cb) 68 (0, 0)) by rw [hW3]; exact blk_new _ _); have HLT := Aside0.mk (show w.heap.size + 1 + 1 + 1 < w2.heap.size from blk_lt S2.out.rs); obtain ⟨jb, hjb⟩ : ∃ jb, jb = w2.heap.size := ⟨_, rfl⟩; have HLE3 := Aside0.mk (show w2.heap.size ≤ jb by omega); rw [← hjb] at HJ HLT; rw [← hW3, ← hjb]; have HGR := Aside0.mk (show g < W3.heap.size ∧ ∀ j u, (plan4 a S q T)[j]? = some u → W3.cell? ⟨g, j, none⟩ = some u from ⟨Nat.lt_of_lt_of_le HG.out H3.out.size, fun j u h => bcell H3.out (HROW.out j u h)⟩); clear hW3 d0 d1 hjb)
  have HRUN := Aside0.mk (run_walk jb A0 N c0 g 4 cb 1 l0 [⟨a, S⟩] 1 W3 HJ.out (plan1_doC HH.out.1 S3.out.str HH.out.2.1 HH.out.2.2.1 HH.out.2.2.2.1 HH.out.2.2.2.2.1 HH.out.2.2.2.2.2.1 HH.out.2.2.2.2.2.2.1 HGR.out.1 HGR.out.2))
  go_upto_region 6 with (first | (go_at_call 28; (with_reducible refine HRUN.out.mono ?_); rintro e w4 ⟨rfl, D, m, B, d, hj, hm, hd, hstr, hwr, ht, hnn⟩; have HJ7 := Aside0.mk hj; have HR7 := Aside0.mk (And.intro hm hstr); have HW7 := Aside0.mk (And.intro hd hwr); have S4 := Aside0.mk (S3.out.turn ht HLT.out ⟨_, _, HJ.out, rfl⟩ ⟨_, _, HJ.out, rfl⟩); clear hj hm hd hstr hwr ht hnn) | fail)
  obtain ⟨W7, rfl⟩ : ∃ W7, W7 = w4 := ⟨_, rfl⟩
  have HS7 := Aside0.mk S4.out.hs
  have HD7 := Aside0.mk S4.out.rd
  have HE7 := Aside0.mk S4.out.rs
  have HZ7 := Aside0.mk S4.out.zc
  have HB7 := Aside0.mk S4.out.b0
  have k0 := (blk_cell HJ7.out 0).trans (show _ = some (Value.slice D N m) from rfl)
  have k1 := (blk_cell HJ7.out 1).trans (show _ = some (Value.slice B 1 d) from rfl)
  have s0 := (blk_cell HS7.out 0).trans (show _ = some (Value.slice A n c) from rfl)
  have s1 := (blk_cell HS7.out 1).trans (show _ = some (Value.int .i64 keep) from rfl)
  have s2 := (blk_cell HS7.out 2).trans (show _ = some (Value.slice none 0 0) from rfl)
  have s3 := (blk_cell HS7.out 3).trans (show _ = some (Value.slice none 0 0) from rfl)
  have s4 := (blk_cell HS7.out 4).trans (show _ = some (Value.int .i64 1) from rfl)
  have s5 := (blk_cell HS7.out 5).trans (show _ = some (Value.int .i64 (gen : Int)) from rfl)
  have r0 := (blk_cell HD7.out 0).trans (show _ = some (Value.slice none 0 0) from rfl)
  have r1 := (blk_cell HD7.out 1).trans (show _ = some (Value.slice none 0 0) from rfl)
  have g0 := blk_frozen HD7.out 0
  have g1 := blk_frozen HD7.out 1
  have e0 := (blk_cell HE7.out 0).trans (show _ = some (Value.slice none 0 0) from rfl)
  have e1 := (blk_cell HE7.out 1).trans (show _ = some (Value.int .i64 0) from rfl)
  have e2 := (blk_cell HE7.out 2).trans (show _ = some (Value.slice none 0 0) from rfl)
  have e3 := (blk_cell HE7.out 3).trans (show _ = some (Value.slice none 0 0) from rfl)
  have e4 := (blk_cell HE7.out 4).trans (show _ = some (Value.int .i64 0) from rfl)
  have e5 := (blk_cell HE7.out 5).trans (show _ = some (Value.int .i64 0) from rfl)
  have h0' := blk_frozen HE7.out 0
  have h1' := blk_frozen HE7.out 1
  have h2' := blk_frozen HE7.out 2
  have h3' := blk_frozen HE7.out 3
  have h4' := blk_frozen HE7.out 4
  have h5' := blk_frozen HE7.out 5
  have HNE := Aside0.mk (show jb ≠ w.heap.size + 1 + 1 ∧ w.heap.size + 1 ≠ w.heap.size + 1 + 1 ∧ jb ≠ w.heap.size + 1 + 1 + 1 ∧ w.heap.size + 1 ≠ w.heap.size + 1 + 1 + 1 from ⟨by have := HLT.out; omega, by omega, by have := HLT.out; omega, by omega⟩)
  have hx : ∀ (W : World) (p : Addr), W.drew.cell? p = W.cell? p := fun W p => rfl
  have K0 := Aside0.mk (show W7.drew.cell? ⟨jb, 0, none⟩ = some (.slice D N m) ∧ W7.drew.cell? ⟨jb, 1, none⟩ = some (.slice B 1 d) ∧ W7.drew.cell? ⟨w.heap.size + 1, 0, none⟩ = some (.slice A n c) ∧ W7.drew.cell? ⟨w.heap.size + 1, 1, none⟩ = some (.int .i64 keep) ∧ W7.drew.cell? ⟨w.heap.size + 1, 2, none⟩ = some (.slice none 0 0) ∧ W7.drew.cell? ⟨w.heap.size + 1, 3, none⟩ = some (.slice none 0 0) ∧ W7.drew.cell? ⟨w.heap.size + 1, 4, none⟩ = some (.int .i64 1) ∧ W7.drew.cell? ⟨w.heap.size + 1, 5, none⟩ = some (.int .i64 (gen : Int)) from ⟨(hx _ _).trans k0, (hx _ _).trans k1, (hx _ _).trans s0, (hx _ _).trans s1, (hx _ _).trans s2, (hx _ _).trans s3, (hx _ _).trans s4, (hx _ _).trans s5⟩)
  have K1 := Aside0.mk (show ∀ v0 v1 : Value, ((W7.setCell ⟨w.heap.size + 1 + 1, 0, none⟩ v0).setCell ⟨w.heap.size + 1 + 1, 1, none⟩ v1).drew.cell? ⟨jb, 0, none⟩ = some (.slice D N m) ∧ ((W7.setCell ⟨w.heap.size + 1 + 1, 0, none⟩ v0).setCell ⟨w.heap.size + 1 + 1, 1, none⟩ v1).drew.cell? ⟨jb, 1, none⟩ = some (.slice B 1 d) ∧ ((W7.setCell ⟨w.heap.size + 1 + 1, 0, none⟩ v0).setCell ⟨w.heap.size + 1 + 1, 1, none⟩ v1).drew.cell? ⟨w.heap.size + 1, 0, none⟩ = some (.slice A n c) ∧ ((W7.setCell ⟨w.heap.size + 1 + 1, 0, none⟩ v0).setCell ⟨w.heap.size + 1 + 1, 1, none⟩ v1).drew.cell? ⟨w.heap.size + 1, 1, none⟩ = some (.int .i64 keep) ∧ ((W7.setCell ⟨w.heap.size + 1 + 1, 0, none⟩ v0).setCell ⟨w.heap.size + 1 + 1, 1, none⟩ v1).drew.cell? ⟨w.heap.size + 1, 2, none⟩ = some (.slice none 0 0) ∧ ((W7.setCell ⟨w.heap.size + 1 + 1, 0, none⟩ v0).setCell ⟨w.heap.size + 1 + 1, 1, none⟩ v1).drew.cell? ⟨w.heap.size + 1, 3, none⟩ = some (.slice none 0 0) ∧ ((W7.setCell ⟨w.heap.size + 1 + 1, 0, none⟩ v0).setCell ⟨w.heap.size + 1 + 1, 1, none⟩ v1).drew.cell? ⟨w.heap.size + 1, 4, none⟩ = some (.int .i64 1) ∧ ((W7.setCell ⟨w.heap.size + 1 + 1, 0, none⟩ v0).setCell ⟨w.heap.size + 1 + 1, 1, none⟩ v1).drew.cell? ⟨w.heap.size + 1, 5, none⟩ = some (.int .i64 (gen : Int)) from fun v0 v1 => ⟨(hx _ _).trans ((cell_far HNE.out.1 _).trans ((cell_far HNE.out.1 _).trans k0)), (hx _ _).trans ((cell_far HNE.out.1 _).trans ((cell_far HNE.out.1 _).trans k1)), (hx _ _).trans ((cell_far HNE.out.2.1 _).trans ((cell_far HNE.out.2.1 _).trans s0)), (hx _ _).trans ((cell_far HNE.out.2.1 _).trans ((cell_far HNE.out.2.1 _).trans s1)), (hx _ _).trans ((cell_far HNE.out.2.1 _).trans ((cell_far HNE.out.2.1 _).trans s2)), (hx _ _).trans ((cell_far HNE.out.2.1 _).trans ((cell_far HNE.out.2.1 _).trans s3)), (hx _ _).trans ((cell_far HNE.out.2.1 _).trans ((cell_far HNE.out.2.1 _).trans s4)), (hx _ _).trans ((cell_far HNE.out.2.1 _).trans ((cell_far HNE.out.2.1 _).trans s5))⟩)
  have K2 := Aside0.mk (show ∀ v0 v1 u0 u1 u2 u3 u4 u5 : Value, ((((((((W7.setCell ⟨w.heap.size + 1 + 1, 0, none⟩ v0).setCell ⟨w.heap.size + 1 + 1, 1, none⟩ v1).setCell ⟨w.heap.size + 1 + 1 + 1, 0, none⟩ u0).setCell ⟨w.heap.size + 1 + 1 + 1, 1, none⟩ u1).setCell ⟨w.heap.size + 1 + 1 + 1, 2, none⟩ u2).setCell ⟨w.heap.size + 1 + 1 + 1, 3, none⟩ u3).setCell ⟨w.heap.size + 1 + 1 + 1, 4, none⟩ u4).setCell ⟨w.heap.size + 1 + 1 + 1, 5, none⟩ u5).drew.cell? ⟨jb, 0, none⟩ = some (.slice D N m) ∧ ((((((((W7.setCell ⟨w.heap.size + 1 + 1, 0, none⟩ v0).setCell ⟨w.heap.size + 1 + 1, 1, none⟩ v1).setCell ⟨w.heap.size + 1 + 1 + 1, 0, none⟩ u0).setCell ⟨w.heap.size + 1 + 1 + 1, 1, none⟩ u1).setCell ⟨w.heap.size + 1 + 1 + 1, 2, none⟩ u2).setCell ⟨w.heap.size + 1 + 1 + 1, 3, none⟩ u3).setCell ⟨w.heap.size + 1 + 1 + 1, 4, none⟩ u4).setCell ⟨w.heap.size + 1 + 1 + 1, 5, none⟩ u5).drew.cell? ⟨jb, 1, none⟩ = some (.slice B 1 d) ∧ ((((((((W7.setCell ⟨w.heap.size + 1 + 1, 0, none⟩ v0).setCell ⟨w.heap.size + 1 + 1, 1, none⟩ v1).setCell ⟨w.heap.size + 1 + 1 + 1, 0, none⟩ u0).setCell ⟨w.heap.size + 1 + 1 + 1, 1, none⟩ u1).setCell ⟨w.heap.size + 1 + 1 + 1, 2, none⟩ u2).setCell ⟨w.heap.size + 1 + 1 + 1, 3, none⟩ u3).setCell ⟨w.heap.size + 1 + 1 + 1, 4, none⟩ u4).setCell ⟨w.heap.size + 1 + 1 + 1, 5, none⟩ u5).drew.cell? ⟨w.heap.size + 1, 0, none⟩ = some (.slice A n c) ∧ ((((((((W7.setCell ⟨w.heap.size + 1 + 1, 0, none⟩ v0).setCell ⟨w.heap.size + 1 + 1, 1, none⟩ v1).setCell ⟨w.heap.size + 1 + 1 + 1, 0, none⟩ u0).setCell ⟨w.heap.size + 1 + 1 + 1, 1, none⟩ u1).setCell ⟨w.heap.size + 1 + 1 + 1, 2, none⟩ u2).setCell ⟨w.heap.size + 1 + 1 + 1, 3, none⟩ u3).setCell ⟨w.heap.size + 1 + 1 + 1, 4, none⟩ u4).setCell ⟨w.heap.size + 1 + 1 + 1, 5, none⟩ u5).drew.cell? ⟨w.heap.size + 1, 1, none⟩ = some (.int .i64 keep) ∧ ((((((((W7.setCell ⟨w.heap.size + 1 + 1, 0, none⟩ v0).setCell ⟨w.heap.size + 1 + 1, 1, none⟩ v1).setCell ⟨w.heap.size + 1 + 1 + 1, 0, none⟩ u0).setCell ⟨w.heap.size + 1 + 1 + 1, 1, none⟩ u1).setCell ⟨w.heap.size + 1 + 1 + 1, 2, none⟩ u2).setCell ⟨w.heap.size + 1 + 1 + 1, 3, none⟩ u3).setCell ⟨w.heap.size + 1 + 1 + 1, 4, none⟩ u4).setCell ⟨w.heap.size + 1 + 1 + 1, 5, none⟩ u5).drew.cell? ⟨w.heap.size + 1, 2, none⟩ = some (.slice none 0 0) ∧ ((((((((W7.setCell ⟨w.heap.size + 1 + 1, 0, none⟩ v0).setCell ⟨w.heap.size + 1 + 1, 1, none⟩ v1).setCell ⟨w.heap.size + 1 + 1 + 1, 0, none⟩ u0).setCell ⟨w.heap.size + 1 + 1 + 1, 1, none⟩ u1).setCell ⟨w.heap.size + 1 + 1 + 1, 2, none⟩ u2).setCell ⟨w.heap.size + 1 + 1 + 1, 3, none⟩ u3).setCell ⟨w.heap.size + 1 + 1 + 1, 4, none⟩ u4).setCell ⟨w.heap.size + 1 + 1 + 1, 5, none⟩ u5).drew.cell? ⟨w.heap.size + 1, 3, none⟩ = some (.slice none 0 0) ∧ ((((((((W7.setCell ⟨w.heap.size + 1 + 1, 0, none⟩ v0).setCell ⟨w.heap.size + 1 + 1, 1, none⟩ v1).setCell ⟨w.heap.size + 1 + 1 + 1, 0, none⟩ u0).setCell ⟨w.heap.size + 1 + 1 + 1, 1, none⟩ u1).setCell ⟨w.heap.size + 1 + 1 + 1, 2, none⟩ u2).setCell ⟨w.heap.size + 1 + 1 + 1, 3, none⟩ u3).setCell ⟨w.heap.size + 1 + 1 + 1, 4, none⟩ u4).setCell ⟨w.heap.size + 1 + 1 + 1, 5, none⟩ u5).drew.cell? ⟨w.heap.size + 1, 4, none⟩ = some (.int .i64 1) ∧ ((((((((W7.setCell ⟨w.heap.size + 1 + 1, 0, none⟩ v0).setCell ⟨w.heap.size + 1 + 1, 1, none⟩ v1).setCell ⟨w.heap.size + 1 + 1 + 1, 0, none⟩ u0).setCell ⟨w.heap.size + 1 + 1 + 1, 1, none⟩ u1).setCell ⟨w.heap.size + 1 + 1 + 1, 2, none⟩ u2).setCell ⟨w.heap.size + 1 + 1 + 1, 3, none⟩ u3).setCell ⟨w.heap.size + 1 + 1 + 1, 4, none⟩ u4).setCell ⟨w.heap.size + 1 + 1 + 1, 5, none⟩ u5).drew.cell? ⟨w.heap.size + 1, 5, none⟩ = some (.int .i64 (gen : Int)) from fun v0 v1 u0 u1 u2 u3 u4 u5 => ⟨(hx _ _).trans ((cell_far HNE.out.2.2.1 _).trans ((cell_far HNE.out.2.2.1 _).trans ((cell_far HNE.out.2.2.1 _).trans ((cell_far HNE.out.2.2.1 _).trans ((cell_far HNE.out.2.2.1 _).trans ((cell_far HNE.out.2.2.1 _).trans ((cell_far HNE.out.1 _).trans ((cell_far HNE.out.1 _).trans (k0))))))))), (hx _ _).trans ((cell_far HNE.out.2.2.1 _).trans ((cell_far HNE.out.2.2.1 _).trans ((cell_far HNE.out.2.2.1 _).trans ((cell_far HNE.out.2.2.1 _).trans ((cell_far HNE.out.2.2.1 _).trans ((cell_far HNE.out.2.2.1 _).trans ((cell_far HNE.out.1 _).trans ((cell_far HNE.out.1 _).trans (k1))))))))), (hx _ _).trans ((cell_far HNE.out.2.2.2 _).trans ((cell_far HNE.out.2.2.2 _).trans ((cell_far HNE.out.2.2.2 _).trans ((cell_far HNE.out.2.2.2 _).trans ((cell_far HNE.out.2.2.2 _).trans ((cell_far HNE.out.2.2.2 _).trans ((cell_far HNE.out.2.1 _).trans ((cell_far HNE.out.2.1 _).trans (s0))))))))), (hx _ _).trans ((cell_far HNE.out.2.2.2 _).trans ((cell_far HNE.out.2.2.2 _).trans ((cell_far HNE.out.2.2.2 _).trans ((cell_far HNE.out.2.2.2 _).trans ((cell_far HNE.out.2.2.2 _).trans ((cell_far HNE.out.2.2.2 _).trans ((cell_far HNE.out.2.1 _).trans ((cell_far HNE.out.2.1 _).trans (s1))))))))), (hx _ _).trans ((cell_far HNE.out.2.2.2 _).trans ((cell_far HNE.out.2.2.2 _).trans ((cell_far HNE.out.2.2.2 _).trans ((cell_far HNE.out.2.2.2 _).trans ((cell_far HNE.out.2.2.2 _).trans ((cell_far HNE.out.2.2.2 _).trans ((cell_far HNE.out.2.1 _).trans ((cell_far HNE.out.2.1 _).trans (s2))))))))), (hx _ _).trans ((cell_far HNE.out.2.2.2 _).trans ((cell_far HNE.out.2.2.2 _).trans ((cell_far HNE.out.2.2.2 _).trans ((cell_far HNE.out.2.2.2 _).trans ((cell_far HNE.out.2.2.2 _).trans ((cell_far HNE.out.2.2.2 _).trans ((cell_far HNE.out.2.1 _).trans ((cell_far HNE.out.2.1 _).trans (s3))))))))), (hx _ _).trans ((cell_far HNE.out.2.2.2 _).trans ((cell_far HNE.out.2.2.2 _).trans ((cell_far HNE.out.2.2.2 _).trans ((cell_far HNE.out.2.2.2 _).trans ((cell_far HNE.out.2.2.2 _).trans ((cell_far HNE.out.2.2.2 _).trans ((cell_far HNE.out.2.1 _).trans ((cell_far HNE.out.2.1 _).trans (s4))))))))), (hx _ _).trans ((cell_far HNE.out.2.2.2 _).trans ((cell_far HNE.out.2.2.2 _).trans ((cell_far HNE.out.2.2.2 _).trans ((cell_far HNE.out.2.2.2 _).trans ((cell_far HNE.out.2.2.2 _).trans ((cell_far HNE.out.2.2.2 _).trans ((cell_far HNE.out.2.1 _).trans ((cell_far HNE.out.2.1 _).trans (s5)))))))))⟩)
  clear HH HPL HW hW1' HG HROW H3 HLT HLE3 S4 HRUN
  clear hx
  go_region_held3 (fun w' => w'.cell? ⟨jb, 0, none⟩ = some (.slice D N m) ∧ w'.cell? ⟨jb, 1, none⟩ = some (.slice B 1 d) ∧ w'.cell? ⟨w.heap.size + 1, 0, none⟩ = some (.slice A n c) ∧ w'.cell? ⟨w.heap.size + 1, 1, none⟩ = some (.int .i64 keep) ∧ w'.cell? ⟨w.heap.size + 1, 2, none⟩ = some (.slice none 0 0) ∧ w'.cell? ⟨w.heap.size + 1, 3, none⟩ = some (.slice none 0 0) ∧ w'.cell? ⟨w.heap.size + 1, 4, none⟩ = some (.int .i64 1) ∧ w'.cell? ⟨w.heap.size + 1, 5, none⟩ = some (.int .i64 (gen : Int))) (first | (with_reducible exact K0.out) | (with_reducible exact K1.out _ _) | (with_reducible exact K2.out _ _ _ _ _ _ _ _)) (first | fail)
  go_wp2
  obtain ⟨W8, hW8⟩ : ∃ W8, W8 = (W7.setCell ⟨w.heap.size + 1 + 1, 0, none⟩ (.slice D N m)).setCell ⟨w.heap.size + 1 + 1, 1, none⟩ (.slice B 1 d) := ⟨_, rfl⟩
  have T8 : Turn W7 W8 (w.heap.size + 1 + 1) := by rw [hW8]; exact ((Turn.of_below (Below.refl _ _)).set 0 _).set 1 _
  have D8 : W8.heap[w.heap.size + 1 + 1]? = some (.cells #[.slice D N m, .slice B 1 d] 26 (0, 0)) := by rw [hW8]; exact blk_put (blk_put HD7.out 0 _ rfl) 1 _ rfl
  have E8 := (T8.other _ (blk_lt HE7.out) (by omega)).trans HE7.out
  have Z8 := zc_no HZ7.out ⟨_, _, HD7.out, rfl⟩ T8.other
  have R8 := str_no HR7.out.2 ⟨_, _, HD7.out, rfl⟩ T8.other
  have V8 := wr_no HW7.out.2 ⟨_, _, HD7.out, rfl⟩ T8.other
  have B8 := T8.low w (by omega) HB7.out
  rw [← hW8]
  clear hW8 K1 K2
  obtain ⟨W9, hW9⟩ : ∃ W9, W9 = (((((W8.setCell ⟨w.heap.size + 1 + 1 + 1, 0, none⟩ (.slice A n c)).setCell ⟨w.heap.size + 1 + 1 + 1, 1, none⟩ (.int .i64 keep)).setCell ⟨w.heap.size + 1 + 1 + 1, 2, none⟩ (.slice none 0 0)).setCell ⟨w.heap.size + 1 + 1 + 1, 3, none⟩ (.slice none 0 0)).setCell ⟨w.heap.size + 1 + 1 + 1, 4, none⟩ (.int .i64 1)).setCell ⟨w.heap.size + 1 + 1 + 1, 5, none⟩ (.int .i64 (gen : Int)) := ⟨_, rfl⟩
  have T9 : Turn W8 W9 (w.heap.size + 1 + 1 + 1) := by rw [hW9]; exact ((((((Turn.of_below (Below.refl _ _)).set 0 _).set 1 _).set 2 _).set 3 _).set 4 _).set 5 _
  have E9 : W9.heap[w.heap.size + 1 + 1 + 1]? = some (.cells (stV A n c keep gen) 33 (0, 0)) := by rw [hW9]; exact blk_put (blk_put (blk_put (blk_put (blk_put (blk_put E8 0 _ rfl) 1 _ rfl) 2 _ rfl) 3 _ rfl) 4 _ rfl) 5 _ rfl
  have D9 := (T9.other _ (blk_lt D8) (by omega)).trans D8
  have Z9 := zc_no Z8 ⟨_, _, E8, rfl⟩ T9.other
  have R9 := str_no R8 ⟨_, _, E8, rfl⟩ T9.other
  have V9 := wr_no V8 ⟨_, _, E8, rfl⟩ T9.other
  have B9 := T9.low w (by omega) B8
  have hfin : W9.drew = _ := congrArg World.drew hW9
  refine bodyPost_ret (results_cct rfl _ _ (w.heap.size + 1 + 1) (w.heap.size + 1 + 1 + 1) 26 33 #[.slice D N m, .slice B 1 d] (stV A n c keep gen) (0, 0) (0, 0) _ _ rfl (by first | (rw [← hfin]; exact blk_drew D9) | (rw [← hW9]; exact D9)) Tryz.underlying26 rfl (by kernel_rfl) rfl (by first | (rw [← hfin]; exact blk_drew E9) | (rw [← hW9]; exact E9)) Tryz.underlying33 rfl (by kernel_rfl)) rfl ?_
  first
    | (rw [← hfin]; exact ⟨D, m, B, d, rfl, HR7.out.1, HW7.out.1, Kd.C_drew R9, Kd.C_drew V9, ZC_below Z9 (below_drew1 (Below.refl _ _)), below_drew1 B9⟩)
    | (rw [← hW9]; exact ⟨D, m, B, d, rfl, HR7.out.1, HW7.out.1, R9, V9, Z9, B9⟩)
end Go.Proofs.YtodejilhgpejnaaGreat.Q
namespace Go.Proofs.YtodejilhgpejnaaGreat.Q
open Go.RowKit Go.Proofs.YtodejilhgpejnaaGreatW.PrintWords Go.Proofs.YtodejilhgpejnaaGreatW.PrintLast Go.Proofs.YtodejilhgpejnaaGreatW.PrintMore
attribute [local go_sem] max2_int min2_int max_two min_two max_three min_three max_four min_four
set_option linter.unusedVariables false
set_option linter.unusedSimpArgs false
theorem bookL_len (x k n : Nat) : (bookL x k n).length = 11 := rfl
theorem bookB_len (x k n : Nat) : (bookB x k n).length = 11 + 2 * n := by
  unfold bookB
  rw [List.length_append, bookL_len, List.length_replicate]
theorem bookB_drop (x k n j : Nat) (hj : 11 ≤ j) : (bookB x k n).drop j = List.replicate (11 + 2 * n - j) 0 := by
  unfold bookB
  rw [List.drop_append, bookL_len, List.drop_of_length_le (by rw [bookL_len]; exact hj), List.nil_append, List.drop_replicate]
  congr 1
  omega
theorem piece_zero (x k n j : Nat) (hj : 1 ≤ j) (hl : 40 * j < (bookB x k n).length) : chunkS (bookB x k n) j = zero40 := by
  have h1 : pieceL (bookB x k n) j = List.replicate (min 40 ((bookB x k n).length - 40 * j)) 0 := by
    unfold pieceL
    rw [List.drop_take, bookB_drop x k n (40 * j) (by omega), List.take_replicate, bookB_len]
    congr 1
    omega
  unfold chunkS
  rw [h1, ← strOfNums_zeros, ← strOfNums_app, List.replicate_append_replicate]
  unfold zero40
  congr 2
  omega
theorem numsOf_zero40 : numsOf zero40 = List.replicate 40 0 := by decide +kernel
theorem piece_first (k n : Nat) (hk : k ≤ 2000) (hn : n ≤ 2000) : chunkS (bookB 1 k n) 0 ≠ zero40 := by
  intro e
  have h2 := congrArg numsOf e
  rw [numsOf_zero40] at h2
  unfold chunkS at h2
  rw [numsOf_append, numsOf_str _ (piece_bytes (bookB 1 k n) 0 (book_bytes (by decide) hk hn))] at h2
  have h3 : (pieceL (bookB 1 k n) 0)[0]? = some 1 := by
    unfold pieceL
    rw [List.drop_zero, List.getElem?_take, if_pos (by rw [bookB_len]; omega)]
    rfl
  have h4 := congrArg (fun l : List Int => l[0]?) h2
  rw [List.getElem?_append_left (List.getElem?_eq_some_iff.1 h3).1, h3] at h4
  cases h4
theorem filterMap_one {β : Type} (f : Nat → Option β) (x : β) (h0 : f 0 = some x) : ∀ m, 0 < m → (∀ k, 1 ≤ k → k < m → f k = none) → (List.range m).filterMap f = [x]
  | 0, h, _ => by omega
  | 1, _, _ => by simp [h0]
  | m + 2, _, h => by
    rw [List.range_succ, List.filterMap_append, filterMap_one f x h0 (m + 1) (by omega) (fun k h1 h2 => h k h1 (by omega))]
    simp [h (m + 1) (by omega) (by omega)]
theorem writes_one (l0 : List ByteArray) (k n gen : Nat) (hk : k ≤ 2000) (hn : n ≤ 2000) (hz : ∀ j, j < areaF n → rdOf ByteArray.empty l0 ((atF n gen j : Nat) : Int) = zero40) :
    writesF l0 (bookB 1 k n) n gen (List.range (piecesN (bookB 1 k n).length)) = [(((atF n gen 0 : Nat) : Int), chunkS (bookB 1 k n) 0)] := by
  have hp : piecesN (bookB 1 k n).length ≤ areaF n := by rw [bookB_len]; unfold piecesN areaF; omega
  have hp0 : 0 < piecesN (bookB 1 k n).length := by rw [bookB_len]; unfold piecesN; omega
  unfold writesF
  refine filterMap_one _ _ ?_ _ hp0 fun j h1 h2 => ?_
  · rw [hz 0 (by omega), if_neg (fun e => piece_first k n hk hn e.symm)]
  · rw [hz j (by omega), piece_zero 1 k n j h1 (by unfold piecesN at h2; omega), if_pos rfl]
theorem strOf_size (l : List Int) : (strOfNums l).size = l.length := by
  rw [show (strOfNums l).size = (strOfNums l).data.size from rfl]
  simp [strOfNums]
theorem pad_len (l : List Int) (h : l.length ≤ 36) : (padF l).length = 36 := by unfold padF; rw [List.length_append, List.length_replicate]; omega
theorem seal_size (l : List Int) (h : l.length ≤ 36) : (sealS l).size = 40 := by
  unfold sealS
  rw [strOf_size, List.length_append, pad_len l h]
  rfl
theorem slot_len (g s m : Nat) : (slotL g s m).length = 14 := rfl
/-- The slot's block behind a book's. -/
def slotS (keep n gen : Nat) : ByteArray := sealS (slotL (gen + 1) (bookB 1 keep n).length (sumF (bookB 1 keep n)).toNat)
theorem slotS_size (keep n gen : Nat) : (slotS keep n gen).size = 40 := seal_size _ (by rw [slot_len]; decide)
theorem planC_of {A : Option Addr} {n c keep gen : Nat} {A0 : Option Addr} {N c0 : Nat} {l0 : List ByteArray} {w : World} (hl : l0.length = N) (hz : ZC w A n) (h1 : 1 ≤ n) (hn : n ≤ 2000) (hk : keep ≤ n) (hg : gen ≤ 1000000) (hr0 : Kd.C Kd.string w A0 N l0) (hc0 : N ≤ c0) (hN : N ≤ 4000) (hcells : cellsF N = n) (hzero : ∀ j, j < areaF n → rdOf ByteArray.empty l0 ((atF n gen j : Nat) : Int) = zero40) :
    PlanC A0 N c0 A n c keep gen (atF n gen 0) (chunkS (bookB 1 keep n) 0) ((gen + 1) % 2) (slotS keep n gen) w := by
  intro W hb
  subst hl
  have hcs := (cells_spec l0.length).2.1
  rw [hcells] at hcs
  have hfit : ∀ j, j < piecesN (bookB 1 keep n).length → atF n gen j < l0.length := by
    intro j hj
    have h3 := hcs (by omega)
    have hp : piecesN (bookB 1 keep n).length ≤ areaF n := by rw [bookB_len]; unfold piecesN areaF; omega
    unfold atF
    unfold baseF at h3
    have : (gen + 1) % 2 = 0 ∨ (gen + 1) % 2 = 1 := by omega
    rcases this with e | e <;> rw [e] <;> omega
  refine (plan_walk A n c keep 1 gen A0 c0 l0 W (ZC_below hz hb) hn (by omega) (by decide) (by omega) (Kd.C_below hr0 hb) hc0 (by omega) hcells hfit).mono ?_
  rintro e w' ⟨v, s, rfl, hs, _, ho, hbe⟩
  rw [writes_one l0 keep n gen (by omega) hn hzero] at ho
  obtain ⟨g, cap, rfl, hcell⟩ := row_cells (by simp) ho
  have hT : slotS keep n gen = sealS (slotL (gen + 1) (bookB 1 keep n).length s) := by unfold slotS; rw [hs, Int.toNat_natCast]
  have hcell' : ∀ j u, (plan4 (atF n gen 0) (chunkS (bookB 1 keep n) 0) ((gen + 1) % 2) (slotS keep n gen))[j]? = some u → w'.cell? ⟨g, j, none⟩ = some u := by
    intro j u hu
    refine hcell j u ?_
    rw [hT] at hu
    exact hu
  have h0 := hcell' 0 _ rfl
  exact ⟨g, cap, rfl, World.block_lt_of_cell? _ _ h0, hcell', hbe⟩
end Go.Proofs.YtodejilhgpejnaaGreat.Q
namespace Go.Proofs.YtodejilhgpejnaaGreat.Q
open Go.RowKit Go.Proofs.YtodejilhgpejnaaGreatW.PrintWords Go.Proofs.YtodejilhgpejnaaGreatW.PrintLast Go.Proofs.YtodejilhgpejnaaGreatW.PrintMore
attribute [local go_sem] max2_int min2_int max_two min_two max_three min_three max_four min_four
set_option linter.unusedVariables false
set_option linter.unusedSimpArgs false
theorem stateNew_walk (n keep : Nat) (w : World) (h1 : 1 ≤ n) (h2 : n ≤ 2000) (h3 : keep ≤ n) : Calls Tryz.prog 15 #[.int .i64 n, .int .i64 keep] w fun e w' => ∃ A, e = .returned (.tuple #[.agg #[.slice A n n, .int .i64 keep, .slice none 0 0, .slice none 0 0, .int .i64 1, .int .i64 0], .int .i64 0]) ∧ ZC w' A n ∧ Below w.heap.size w w' := by
  have HB0 := Aside0.mk (show Below w.heap.size w (w.alloc (.cells #[.slice none 0 0, .int .i64 0, .slice none 0 0, .slice none 0 0, .int .i64 0, .int .i64 0] 33)) from below_alloc (Below.refl _ _) _)
  have HS0 := Aside0.mk (blk_new w (.cells #[.slice none 0 0, .int .i64 0, .slice none 0 0, .slice none 0 0, .int .i64 0, .int .i64 0] 33))
  have HN := Aside0.mk (fun W => heapNew_walk n keep W h1 h2 h3)
  clear h1 h2 h3
  go_enter Tryz.func15, Tryz.ntmps15
  go_upto_region 2 with (first | (go_at_call 33; (with_reducible refine (HN.out _).mono ?_); rintro e w2 ⟨A, rfl, hz, hb⟩; have HZ := Aside0.mk hz; have HB := Aside0.mk (show Below w.heap.size w w2 from below_step HB0.out hb); have HS := Aside0.mk (blk_below HS0.out hb); clear hz hb) | fail)
  obtain ⟨W3, hW3⟩ : ∃ W3, W3 = w2.alloc (.cells #[.slice A n n, .int .i64 keep] 29) := ⟨_, rfl⟩
  have HH3 := Aside0.mk (show W3.heap[w2.heap.size]? = some (.cells #[.slice A n n, .int .i64 keep] 29 (0, 0)) by rw [hW3]; exact blk_new _ _)
  have HS3 := Aside0.mk (show W3.heap[w.heap.size]? = some (.cells #[.slice none 0 0, .int .i64 0, .slice none 0 0, .slice none 0 0, .int .i64 0, .int .i64 0] 33 (0, 0)) by rw [hW3]; exact blk_alloc HS.out _)
  have HZ3 := Aside0.mk (show ZC W3 A n by rw [hW3]; exact ZC_below HZ.out (below_alloc (Below.refl _ _) _))
  have HB3 := Aside0.mk (show Below w.heap.size w W3 by rw [hW3]; exact below_alloc HB.out _)
  rw [← hW3]
  clear hW3
  have h0 := (blk_cell HH3.out 0).trans (show _ = some (Value.slice A n n) from rfl)
  have h1 := (blk_cell HH3.out 1).trans (show _ = some (Value.int .i64 keep) from rfl)
  (have f0 := blk_frozen HS3.out 0; have f1 := blk_frozen HS3.out 1; have f2 := blk_frozen HS3.out 2; have f3 := blk_frozen HS3.out 3; have f4 := blk_frozen HS3.out 4; have f5 := blk_frozen HS3.out 5; have e0 := (blk_cell HS3.out 0).trans (show _ = some (Value.slice none 0 0) from rfl); have e1 := (blk_cell HS3.out 1).trans (show _ = some (Value.int .i64 0) from rfl); have e2 := (blk_cell HS3.out 2).trans (show _ = some (Value.slice none 0 0) from rfl); have e3 := (blk_cell HS3.out 3).trans (show _ = some (Value.slice none 0 0) from rfl); have e4 := (blk_cell HS3.out 4).trans (show _ = some (Value.int .i64 0) from rfl); have e5 := (blk_cell HS3.out 5).trans (show _ = some (Value.int .i64 0) from rfl))
  go_wp2
  obtain ⟨W9, hW9⟩ : ∃ W9, W9 = (((((W3.setCell ⟨w.heap.size, 0, none⟩ (.slice A n n)).setCell ⟨w.heap.size, 1, none⟩ (.int .i64 keep)).setCell ⟨w.heap.size, 2, none⟩ (.slice none 0 0)).setCell ⟨w.heap.size, 3, none⟩ (.slice none 0 0)).setCell ⟨w.heap.size, 4, none⟩ (.int .i64 1)).setCell ⟨w.heap.size, 5, none⟩ (.int .i64 0) := ⟨_, rfl⟩
  have T9 : Turn W3 W9 w.heap.size := by rw [hW9]; exact ((((((Turn.of_below (Below.refl _ _)).set 0 _).set 1 _).set 2 _).set 3 _).set 4 _).set 5 _
  have E9 : W9.heap[w.heap.size]? = some (.cells #[.slice A n n, .int .i64 keep, .slice none 0 0, .slice none 0 0, .int .i64 1, .int .i64 0] 33 (0, 0)) := by rw [hW9]; exact blk_put (blk_put (blk_put (blk_put (blk_put (blk_put HS3.out 0 _ rfl) 1 _ rfl) 2 _ rfl) 3 _ rfl) 4 _ rfl) 5 _ rfl
  rw [← hW9]
  refine bodyPost_ret (results_ct rfl _ _ w.heap.size 33 _ (0, 0) _ rfl E9 Tryz.underlying33 rfl (by kernel_rfl)) rfl ?_
  exact ⟨A, rfl, zc_no HZ3.out ⟨_, _, HS3.out, rfl⟩ T9.other, T9.low w (Nat.le_refl _) HB3.out⟩
theorem stateNo_walk (n keep : Int) (w : World) (h : n < 1 ∨ 2000 < n ∨ keep < 0 ∨ n < keep) : Calls Tryz.prog 15 #[.int .i64 n, .int .i64 keep] w fun e w' => e = .returned (.tuple #[.agg #[.slice none 0 0, .int .i64 0, .slice none 0 0, .slice none 0 0, .int .i64 0, .int .i64 0], .int .i64 1]) ∧ Below w.heap.size w w' := by
  have HB0 := Aside0.mk (show Below w.heap.size w (w.alloc (.cells #[.slice none 0 0, .int .i64 0, .slice none 0 0, .slice none 0 0, .int .i64 0, .int .i64 0] 33)) from below_alloc (Below.refl _ _) _)
  have HS0 := Aside0.mk (blk_new w (.cells #[.slice none 0 0, .int .i64 0, .slice none 0 0, .slice none 0 0, .int .i64 0, .int .i64 0] 33))
  have HN := Aside0.mk (fun W => heapNo_walk n keep W h)
  clear h
  go_enter Tryz.func15, Tryz.ntmps15
  go_upto_region 2 with (first | (go_at_call 33; (with_reducible refine (HN.out _).mono ?_); rintro e w2 ⟨rfl, hb⟩; have HB := Aside0.mk (show Below w.heap.size w w2 from below_step HB0.out hb); have HS := Aside0.mk (blk_below HS0.out hb); clear hb) | fail)
  obtain ⟨W3, hW3⟩ : ∃ W3, W3 = w2.alloc (.cells #[.slice none 0 0, .int .i64 0] 29) := ⟨_, rfl⟩
  have HS3 := Aside0.mk (show W3.heap[w.heap.size]? = some (.cells #[.slice none 0 0, .int .i64 0, .slice none 0 0, .slice none 0 0, .int .i64 0, .int .i64 0] 33 (0, 0)) by rw [hW3]; exact blk_alloc HS.out _)
  have HB3 := Aside0.mk (show Below w.heap.size w W3 by rw [hW3]; exact below_alloc HB.out _)
  rw [← hW3]
  clear hW3
  (have f0 := blk_frozen HS3.out 0; have f1 := blk_frozen HS3.out 1; have f2 := blk_frozen HS3.out 2; have f3 := blk_frozen HS3.out 3; have f4 := blk_frozen HS3.out 4; have f5 := blk_frozen HS3.out 5; have e0 := (blk_cell HS3.out 0).trans (show _ = some (Value.slice none 0 0) from rfl); have e1 := (blk_cell HS3.out 1).trans (show _ = some (Value.int .i64 0) from rfl); have e2 := (blk_cell HS3.out 2).trans (show _ = some (Value.slice none 0 0) from rfl); have e3 := (blk_cell HS3.out 3).trans (show _ = some (Value.slice none 0 0) from rfl); have e4 := (blk_cell HS3.out 4).trans (show _ = some (Value.int .i64 0) from rfl); have e5 := (blk_cell HS3.out 5).trans (show _ = some (Value.int .i64 0) from rfl))
  go_wp2
  obtain ⟨W9, hW9⟩ : ∃ W9, W9 = (((((W3.setCell ⟨w.heap.size, 0, none⟩ (.slice none 0 0)).setCell ⟨w.heap.size, 1, none⟩ (.int .i64 0)).setCell ⟨w.heap.size, 2, none⟩ (.slice none 0 0)).setCell ⟨w.heap.size, 3, none⟩ (.slice none 0 0)).setCell ⟨w.heap.size, 4, none⟩ (.int .i64 0)).setCell ⟨w.heap.size, 5, none⟩ (.int .i64 0) := ⟨_, rfl⟩
  have T9 : Turn W3 W9 w.heap.size := by rw [hW9]; exact ((((((Turn.of_below (Below.refl _ _)).set 0 _).set 1 _).set 2 _).set 3 _).set 4 _).set 5 _
  have E9 : W9.heap[w.heap.size]? = some (.cells #[.slice none 0 0, .int .i64 0, .slice none 0 0, .slice none 0 0, .int .i64 0, .int .i64 0] 33 (0, 0)) := by rw [hW9]; exact blk_put (blk_put (blk_put (blk_put (blk_put (blk_put HS3.out 0 _ rfl) 1 _ rfl) 2 _ rfl) 3 _ rfl) 4 _ rfl) 5 _ rfl
  rw [← hW9]
  refine bodyPost_ret (results_ct rfl _ _ w.heap.size 33 _ (0, 0) _ rfl E9 Tryz.underlying33 rfl (by kernel_rfl)) rfl ?_
  exact ⟨rfl, T9.low w (Nat.le_refl _) HB3.out⟩
theorem first_walk (a b : Int) (g : Nat) (w : World) (x0 : w.cell? ⟨g, 0, none⟩ = some (.int .i64 a)) (x1 : w.cell? ⟨g, 1, none⟩ = some (.int .i64 b)) : Calls Tryz.prog 17 #[.slice (some ⟨g, 0, none⟩) 2 2] w fun e w' => e = .returned (.int .i64 (if a = 0 then b else a)) ∧ w = w' := by
  by_cases ha : a = 0
  · rw [if_pos ha]
    have qa : (a != 0) = false := by simp [ha]
    by_cases hb : b = 0
    · have qb : (b != 0) = false := by simp [hb]
      rw [hb]
      clear ha hb
      go_enter Tryz.func17, Tryz.ntmps17
      go_wp2
      refine wp_loop_rounds 3 ?_
      rw [rounds_succ]
      go_wp2
      rw [rounds_succ]
      go_wp2
      rw [rounds_succ]
      go_wp2
      go_ret
      exact ⟨rfl, rfl⟩
    · have qb : (b != 0) = true := by simp [hb]
      clear ha hb
      go_enter Tryz.func17, Tryz.ntmps17
      go_wp2
      refine wp_loop_rounds 3 ?_
      rw [rounds_succ]
      go_wp2
      rw [rounds_succ]
      go_wp2
      go_ret
      exact ⟨rfl, rfl⟩
  · rw [if_neg ha]
    have qa : (a != 0) = true := by simp [ha]
    clear ha
    go_enter Tryz.func17, Tryz.ntmps17
    go_wp2
    refine wp_loop_rounds 3 ?_
    rw [rounds_succ]
    go_wp2
    go_ret
    exact ⟨rfl, rfl⟩
end Go.Proofs.YtodejilhgpejnaaGreat.Q
namespace Go.Proofs.YtodejilhgpejnaaGreat.Q
open Go.RowKit Go.Proofs.YtodejilhgpejnaaGreatW.PrintWords Go.Proofs.YtodejilhgpejnaaGreatW.PrintLast Go.Proofs.YtodejilhgpejnaaGreatW.PrintMore
attribute [local go_sem] max2_int min2_int max_two min_two max_three min_three max_four min_four
set_option linter.unusedVariables false
set_option linter.unusedSimpArgs false
/-- The two results' blocks. -/
structure RsSt (w W : World) : Prop where
  b0 : Below w.heap.size w W
  rd : W.heap[w.heap.size]? = some (.cells #[.slice none 0 0, .slice none 0 0] 26 (0, 0))
  rs : W.heap[w.heap.size + 1]? = some (.cells #[.slice none 0 0, .int .i64 0, .slice none 0 0, .slice none 0 0, .int .i64 0, .int .i64 0] 33 (0, 0))
theorem RsSt.step {w W W' : World} (s : RsSt w W) (hb : Below W.heap.size W W') : RsSt w W' := ⟨below_step s.b0 hb, blk_below s.rd hb, blk_below s.rs hb⟩
theorem rsst (w : World) : RsSt w ((w.alloc (.cells #[.slice none 0 0, .slice none 0 0] 26)).alloc (.cells #[.slice none 0 0, .int .i64 0, .slice none 0 0, .slice none 0 0, .int .i64 0, .int .i64 0] 33)) :=
  ⟨below_alloc (below_alloc (Below.refl _ _) _) _, blk_alloc (blk_new w _) _, blk2 w _ _⟩
/-- Both results, stored. -/
theorem rs_store {w W W8 W9 : World} (s : RsSt w W) {D B : Option Addr} {N m x d : Nat} {A : Option Addr} {n c : Nat} {k nx gn : Int}
    (h8 : W8 = (W.setCell ⟨w.heap.size, 0, none⟩ (.slice D N m)).setCell ⟨w.heap.size, 1, none⟩ (.slice B x d))
    (h9 : W9 = (((((W8.setCell ⟨w.heap.size + 1, 0, none⟩ (.slice A n c)).setCell ⟨w.heap.size + 1, 1, none⟩ (.int .i64 k)).setCell ⟨w.heap.size + 1, 2, none⟩ (.slice none 0 0)).setCell ⟨w.heap.size + 1, 3, none⟩ (.slice none 0 0)).setCell ⟨w.heap.size + 1, 4, none⟩ (.int .i64 nx)).setCell ⟨w.heap.size + 1, 5, none⟩ (.int .i64 gn)) :
    W9.heap[w.heap.size]? = some (.cells #[.slice D N m, .slice B x d] 26 (0, 0)) ∧ W9.heap[w.heap.size + 1]? = some (.cells #[.slice A n c, .int .i64 k, .slice none 0 0, .slice none 0 0, .int .i64 nx, .int .i64 gn] 33 (0, 0)) ∧ Below w.heap.size w W9 ∧
      (∀ {M : Option Addr} {q : Nat} {l : List ByteArray}, Kd.C Kd.string W M q l → Kd.C Kd.string W9 M q l) ∧ (∀ {M : Option Addr} {q : Nat}, ZC W M q → ZC W9 M q) := by
  have T8 : Turn W W8 w.heap.size := by rw [h8]; exact ((Turn.of_below (Below.refl _ _)).set 0 _).set 1 _
  have D8 : W8.heap[w.heap.size]? = some (.cells #[.slice D N m, .slice B x d] 26 (0, 0)) := by rw [h8]; exact blk_put (blk_put s.rd 0 _ rfl) 1 _ rfl
  have E8 := (T8.other _ (blk_lt s.rs) (by omega)).trans s.rs
  have T9 : Turn W8 W9 (w.heap.size + 1) := by rw [h9]; exact ((((((Turn.of_below (Below.refl _ _)).set 0 _).set 1 _).set 2 _).set 3 _).set 4 _).set 5 _
  have E9 : W9.heap[w.heap.size + 1]? = some (.cells #[.slice A n c, .int .i64 k, .slice none 0 0, .slice none 0 0, .int .i64 nx, .int .i64 gn] 33 (0, 0)) := by rw [h9]; exact blk_put (blk_put (blk_put (blk_put (blk_put (blk_put E8 0 _ rfl) 1 _ rfl) 2 _ rfl) 3 _ rfl) 4 _ rfl) 5 _ rfl
  exact ⟨(T9.other _ (blk_lt D8) (by omega)).trans D8, E9, T9.low w (by omega) (T8.low w (Nat.le_refl _) s.b0), fun h => str_no (str_no h ⟨_, _, s.rd, rfl⟩ T8.other) ⟨_, _, E8, rfl⟩ T9.other, fun h => zc_no (zc_no h ⟨_, _, s.rd, rfl⟩ T8.other) ⟨_, _, E8, rfl⟩ T9.other⟩
def fmtL (N keep n : Nat) : List ByteArray := ((List.replicate N zero40).set (atF n 0 0) (chunkS (bookB 1 keep n) 0)).set 1 (slotS keep n 0)
theorem rd_rep (N : Nat) (i : Nat) (h : i < N) : rdOf ByteArray.empty (List.replicate N zero40) (i : Int) = zero40 := by
  rw [getElem_rdOf _ _ _ (by rw [List.length_replicate]; exact h), List.getElem_replicate]
theorem chunk0_size (keep n : Nat) : (chunkS (bookB 1 keep n) 0).size = 40 := chunkS_size _ _ (by rw [bookB_len]; omega)
theorem at_lt {N n gen k : Nat} (hn : cellsF N = n) (h0 : 1 ≤ n) (hk : k < areaF n) : atF n gen k < N := by
  have h3 := (cells_spec N).2.1
  rw [hn] at h3
  have h3 := h3 (by omega)
  unfold atF
  unfold baseF at h3
  have : (gen + 1) % 2 = 0 ∨ (gen + 1) % 2 = 1 := by omega
  rcases this with e | e <;> rw [e] <;> omega
theorem area_pos (n : Nat) : 0 < areaF n := by unfold areaF; omega
set_option maxHeartbeats 8000000 in
set_option maxRecDepth 100000 in
/-- commit.Format, where there is room. -/
theorem format_walk (N keep n : Nat) (w : World) (h1 : 1 ≤ N) (h2 : N ≤ 200) (hn : cellsF N = n) (h0 : 1 ≤ n) (hk : keep ≤ n) :
    Calls Tryz.prog 5 #[.int .i64 N, .int .i64 keep] w fun e w' => ∃ D m B, e = .returned (.tuple #[.agg #[.slice D N m, .slice none 0 0], .agg #[.slice B n n, .int .i64 keep, .slice none 0 0, .slice none 0 0, .int .i64 1, .int .i64 1], .int .i64 0]) ∧ N ≤ m ∧ Kd.C Kd.string w' D N (fmtL N keep n) ∧ ZC w' B n ∧ Below w.heap.size w w' := by
  have hn2 : n ≤ 2000 := by rw [← hn]; exact (cells_spec N).1
  obtain ⟨W1, hW1⟩ : ∃ W1, W1 = (w.alloc (.cells #[.slice none 0 0, .slice none 0 0] 26)).alloc (.cells #[.slice none 0 0, .int .i64 0, .slice none 0 0, .slice none 0 0, .int .i64 0, .int .i64 0] 33) := ⟨_, rfl⟩
  have S1 := Aside0.mk (show RsSt w W1 by rw [hW1]; exact rsst w)
  have HDN := Aside0.mk (fun W => diskNew_walk N W h1 (by omega))
  have HCE := Aside0.mk (show ∀ W, Calls Tryz.prog 16 #[.int .i64 N] W fun e w' => e = .returned (.int .i64 (n : Nat)) ∧ Below W.heap.size W w' from fun W => hn ▸ cells_walk N W (by omega))
  have HSN := Aside0.mk (fun W => stateNew_walk n keep W h0 hn2 hk)
  have HFI := Aside0.mk (fun (W : World) => first_walk 0 0 W.heap.size (W.alloc (.cells #[.int .i64 0, .int .i64 0] 34)) ((blk_cell (blk_new _ _) 0).trans rfl) ((blk_cell (blk_new _ _) 1).trans rfl))
  have HDO := Aside0.mk (fun (A0 : Option Addr) (c0 : Nat) (A : Option Addr) (W : World) (hr : Kd.C Kd.string W A0 N (List.replicate N zero40)) (hc : N ≤ c0) (hz : ZC W A n) => show Calls Tryz.prog 12 #[.agg #[.slice A0 N c0, .slice none 0 0], .agg #[.slice A n n, .int .i64 keep, .slice none 0 0, .slice none 0 0, .int .i64 1, .int .i64 0], .int .i64 (-1)] W (fun e w' => ∃ D m B, e = .returned (.tuple #[.agg #[.slice D N m, .slice none 0 0], .agg #[.slice B n n, .int .i64 keep, .slice none 0 0, .slice none 0 0, .int .i64 1, .int .i64 1], .int .i64 0]) ∧ N ≤ m ∧ Kd.C Kd.string w' D N (fmtL N keep n) ∧ ZC w' B n ∧ Below W.heap.size W w') from cdo_walk A0 N c0 (List.replicate N zero40) A n n keep 0 (atF n 0 0) (chunkS (bookB 1 keep n) 0) ((0 + 1) % 2) (slotS keep n 0) W (List.length_replicate) hr hc hz h0 hn2 (by decide) (by omega) (at_lt hn h0 (area_pos n)) (by have h3 := (cells_spec N).2.1; rw [hn] at h3; have := h3 h0; unfold baseF at this; omega) (chunk0_size keep n) (slotS_size keep n 0) (planC_of (List.length_replicate) hz h0 hn2 hk (by decide) hr hc (by omega) hn (fun j hj => rd_rep N _ (at_lt hn h0 hj))))
  have hW1' := Aside0.mk hW1
  clear hW1 h1 h2 hn h0 hk hn2
  go_enter Tryz.func5, Tryz.ntmps5
  go_upto_region 1 with (fail)
  rw [← hW1'.out]
  go_upto_region 2 with (first | (go_at_call 14; (with_reducible refine (HDN.out _).mono ?_); rintro e w2 ⟨A0, c0, rfl, hc, hs, hb⟩; have HR2 := Aside0.mk (And.intro hc hs); have S2 := Aside0.mk (S1.out.step hb); clear hc hs hb) | fail)
  obtain ⟨W3, hW3⟩ : ∃ W3, W3 = w2.alloc (.cells #[.slice A0 N c0, .slice none 0 0] 26) := ⟨_, rfl⟩
  obtain ⟨db, hdb⟩ : ∃ db, db = w2.heap.size := ⟨_, rfl⟩
  have HD3 := Aside0.mk (show W3.heap[db]? = some (.cells #[.slice A0 N c0, .slice none 0 0] 26 (0, 0)) by rw [hW3, hdb]; exact blk_new _ _)
  have S3 := Aside0.mk (show RsSt w W3 by rw [hW3]; exact S2.out.step (below_alloc (Below.refl _ _) _))
  have HR3 := Aside0.mk (show N ≤ c0 ∧ Kd.C Kd.string W3 A0 N (List.replicate N zero40) by rw [hW3]; exact ⟨HR2.out.1, Kd.C_alloc HR2.out.2 _⟩)
  rw [← hW3, ← hdb]
  clear hW3 hdb HR2
  go_upto_region 3 with (first | (go_at_call 16; (with_reducible refine (HCE.out _).mono ?_); rintro e w4 ⟨rfl, hb⟩; have HB4 := Aside0.mk hb; clear hb) | (go_at_call 15; (with_reducible refine (HSN.out _).mono ?_); rintro e w5 ⟨A, rfl, hz, hb⟩; have HZ5 := Aside0.mk hz; have HB5 := Aside0.mk (below_step HB4.out hb); clear hz hb) | fail)
  obtain ⟨W6, hW6⟩ : ∃ W6, W6 = w5.alloc (.cells #[.slice A n n, .int .i64 keep, .slice none 0 0, .slice none 0 0, .int .i64 1, .int .i64 0] 33) := ⟨_, rfl⟩
  obtain ⟨sb, hsb⟩ : ∃ sb, sb = w5.heap.size := ⟨_, rfl⟩
  have HB6 := Aside0.mk (show Below W3.heap.size W3 W6 by rw [hW6]; exact below_alloc HB5.out _)
  have HS6 := Aside0.mk (show W6.heap[sb]? = some (.cells #[.slice A n n, .int .i64 keep, .slice none 0 0, .slice none 0 0, .int .i64 1, .int .i64 0] 33 (0, 0)) by rw [hW6, hsb]; exact blk_new _ _)
  have HZ6 := Aside0.mk (show ZC W6 A n by rw [hW6]; exact ZC_below HZ5.out (below_alloc (Below.refl _ _) _))
  rw [← hW6, ← hsb]
  clear hW6 hsb HZ5 HB5 HB4
  go_upto_region 4 with (first | (go_at_call 17; (with_reducible refine (HFI.out _).mono ?_); rintro e w7 ⟨rfl, hw7⟩; have HW7 := Aside0.mk hw7; clear hw7) | fail)
  have HB7 := Aside0.mk (show Below W6.heap.size W6 w7 by rw [← HW7.out]; exact below_alloc (Below.refl _ _) _)
  have HD7 := Aside0.mk (blk_below (blk_below HD3.out HB6.out) HB7.out)
  have HS7 := Aside0.mk (blk_below HS6.out HB7.out)
  have HZ7 := Aside0.mk (ZC_below HZ6.out HB7.out)
  have HR7 := Aside0.mk (And.intro HR3.out.1 (Kd.C_below HR3.out.2 (below_step HB6.out HB7.out)))
  have S7 := Aside0.mk ((S3.out.step HB6.out).step HB7.out)
  have d0 := (blk_cell HD7.out 0).trans (show _ = some (Value.slice A0 N c0) from rfl)
  have d1 := (blk_cell HD7.out 1).trans (show _ = some (Value.slice none 0 0) from rfl)
  have s0 := (blk_cell HS7.out 0).trans (show _ = some (Value.slice A n n) from rfl)
  have s1 := (blk_cell HS7.out 1).trans (show _ = some (Value.int .i64 keep) from rfl)
  have s2 := (blk_cell HS7.out 2).trans (show _ = some (Value.slice none 0 0) from rfl)
  have s3 := (blk_cell HS7.out 3).trans (show _ = some (Value.slice none 0 0) from rfl)
  have s4 := (blk_cell HS7.out 4).trans (show _ = some (Value.int .i64 1) from rfl)
  have s5 := (blk_cell HS7.out 5).trans (show _ = some (Value.int .i64 0) from rfl)
  have HDO7 := Aside0.mk (HDO.out A0 c0 A w7 HR7.out.2 HR7.out.1 HZ7.out)
  go_wp2_with (first | (go_at_call 12; (with_reducible refine HDO7.out.mono ?_); rintro e w8 ⟨D, m, B, rfl, hm, hs, hz, hb⟩; have HR8 := Aside0.mk (And.intro hm hs); have HZ8 := Aside0.mk hz; have S8 := Aside0.mk (S7.out.step hb); (have f0 := blk_frozen S8.out.rs 0; have f1 := blk_frozen S8.out.rs 1; have f2 := blk_frozen S8.out.rs 2; have f3 := blk_frozen S8.out.rs 3; have f4 := blk_frozen S8.out.rs 4; have f5 := blk_frozen S8.out.rs 5; have e0 := (blk_cell S8.out.rs 0).trans (show _ = some (Value.slice none 0 0) from rfl); have e1 := (blk_cell S8.out.rs 1).trans (show _ = some (Value.int .i64 0) from rfl); have e2 := (blk_cell S8.out.rs 2).trans (show _ = some (Value.slice none 0 0) from rfl); have e3 := (blk_cell S8.out.rs 3).trans (show _ = some (Value.slice none 0 0) from rfl); have e4 := (blk_cell S8.out.rs 4).trans (show _ = some (Value.int .i64 0) from rfl); have e5 := (blk_cell S8.out.rs 5).trans (show _ = some (Value.int .i64 0) from rfl)); (have g0 := blk_frozen S8.out.rd 0; have g1 := blk_frozen S8.out.rd 1; have r0 := (blk_cell S8.out.rd 0).trans (show _ = some (Value.slice none 0 0) from rfl); have r1 := (blk_cell S8.out.rd 1).trans (show _ = some (Value.slice none 0 0) from rfl)); clear hm hs hz hb) | fail)
  obtain ⟨W9, hW9⟩ : ∃ W9, W9 = (w8.setCell ⟨w.heap.size, 0, none⟩ (.slice D N m)).setCell ⟨w.heap.size, 1, none⟩ (.slice none 0 0) := ⟨_, rfl⟩
  obtain ⟨W10, hW10⟩ : ∃ W10, W10 = (((((W9.setCell ⟨w.heap.size + 1, 0, none⟩ (.slice B n n)).setCell ⟨w.heap.size + 1, 1, none⟩ (.int .i64 keep)).setCell ⟨w.heap.size + 1, 2, none⟩ (.slice none 0 0)).setCell ⟨w.heap.size + 1, 3, none⟩ (.slice none 0 0)).setCell ⟨w.heap.size + 1, 4, none⟩ (.int .i64 1)).setCell ⟨w.heap.size + 1, 5, none⟩ (.int .i64 1) := ⟨_, rfl⟩
  obtain ⟨q1, q2, q3, q4, q5⟩ := rs_store S8.out hW9 hW10
  rw [← hW9, ← hW10]
  refine bodyPost_ret (results_cct rfl _ _ w.heap.size (w.heap.size + 1) 26 33 _ _ (0, 0) (0, 0) _ _ rfl q1 Tryz.underlying26 rfl (by kernel_rfl) rfl q2 Tryz.underlying33 rfl (by kernel_rfl)) rfl ?_
  exact ⟨D, m, B, rfl, HR8.out.1, q4 HR8.out.2, q5 HZ8.out, q3⟩
set_option maxHeartbeats 8000000 in
set_option maxRecDepth 100000 in
/-- commit.Format, where there is no room. -/
theorem formatNo_core (blocks keep k e1 : Int) (w : World) (he : e1 = 0 ∨ e1 = 1) (hdn : ∀ W, Calls Tryz.prog 14 #[.int .i64 blocks] W fun e w' => ∃ A n c, e = .returned (.tuple #[.agg #[.slice A n c, .slice none 0 0], .int .i64 e1]) ∧ Below W.heap.size W w')
    (hce : ∀ W, Calls Tryz.prog 16 #[.int .i64 blocks] W fun e w' => e = .returned (.int .i64 k) ∧ Below W.heap.size W w')
    (hsn : ∀ W, Calls Tryz.prog 15 #[.int .i64 k, .int .i64 keep] W fun e w' => e = .returned (.tuple #[.agg #[.slice none 0 0, .int .i64 0, .slice none 0 0, .slice none 0 0, .int .i64 0, .int .i64 0], .int .i64 1]) ∧ Below W.heap.size W w') :
    Calls Tryz.prog 5 #[.int .i64 blocks, .int .i64 keep] w fun e w' => e = .returned (.tuple #[.agg #[.slice none 0 0, .slice none 0 0], .agg #[.slice none 0 0, .int .i64 0, .slice none 0 0, .slice none 0 0, .int .i64 0, .int .i64 0], .int .i64 1]) ∧ Below w.heap.size w w' := by
  obtain ⟨W1, hW1⟩ : ∃ W1, W1 = (w.alloc (.cells #[.slice none 0 0, .slice none 0 0] 26)).alloc (.cells #[.slice none 0 0, .int .i64 0, .slice none 0 0, .slice none 0 0, .int .i64 0, .int .i64 0] 33) := ⟨_, rfl⟩
  have S1 := Aside0.mk (show RsSt w W1 by rw [hW1]; exact rsst w)
  have HDN := Aside0.mk hdn
  have HCE := Aside0.mk hce
  have HSN := Aside0.mk hsn
  have HFI := Aside0.mk (show ∀ W : World, Calls Tryz.prog 17 #[.slice (some ⟨W.heap.size, 0, none⟩) 2 2] (W.alloc (.cells #[.int .i64 e1, .int .i64 1] 34)) fun e w' => e = .returned (.int .i64 1) ∧ W.alloc (.cells #[.int .i64 e1, .int .i64 1] 34) = w' from fun W => by
    have h := first_walk e1 1 W.heap.size (W.alloc (.cells #[.int .i64 e1, .int .i64 1] 34)) ((blk_cell (blk_new _ _) 0).trans rfl) ((blk_cell (blk_new _ _) 1).trans rfl)
    rw [show (if e1 = 0 then (1 : Int) else e1) = 1 by rcases he with h | h <;> rw [h] <;> rfl] at h
    exact h)
  have hW1' := Aside0.mk hW1
  clear hW1 hdn hce hsn he
  go_enter Tryz.func5, Tryz.ntmps5
  go_upto_region 1 with (fail)
  rw [← hW1'.out]
  go_upto_region 2 with (first | (go_at_call 14; (with_reducible refine (HDN.out _).mono ?_); rintro e w2 ⟨A0, nn, c0, rfl, hb⟩; have S2 := Aside0.mk (S1.out.step hb); clear hb) | fail)
  obtain ⟨W3, hW3⟩ : ∃ W3, W3 = w2.alloc (.cells #[.slice A0 nn c0, .slice none 0 0] 26) := ⟨_, rfl⟩
  have S3 := Aside0.mk (show RsSt w W3 by rw [hW3]; exact S2.out.step (below_alloc (Below.refl _ _) _))
  rw [← hW3]
  clear hW3
  go_upto_region 3 with (first | (go_at_call 16; (with_reducible refine (HCE.out _).mono ?_); rintro e w4 ⟨rfl, hb⟩; have HB4 := Aside0.mk hb; clear hb) | (go_at_call 15; (with_reducible refine (HSN.out _).mono ?_); rintro e w5 ⟨rfl, hb⟩; have HB5 := Aside0.mk (below_step HB4.out hb); clear hb) | fail)
  obtain ⟨W6, hW6⟩ : ∃ W6, W6 = w5.alloc (.cells #[.slice none 0 0, .int .i64 0, .slice none 0 0, .slice none 0 0, .int .i64 0, .int .i64 0] 33) := ⟨_, rfl⟩
  have S6 := Aside0.mk (show RsSt w W6 by rw [hW6]; exact S3.out.step (below_alloc HB5.out _))
  rw [← hW6]
  clear hW6 HB5 HB4
  go_upto_region 4 with (first | (go_at_call 17; (with_reducible refine (HFI.out _).mono ?_); rintro e w7 ⟨rfl, hw7⟩; have HW7 := Aside0.mk hw7; clear hw7) | fail)
  have S7 := Aside0.mk (S6.out.step (show Below W6.heap.size W6 w7 by rw [← HW7.out]; exact below_alloc (Below.refl _ _) _))
  (have f0 := blk_frozen S7.out.rs 0; have f1 := blk_frozen S7.out.rs 1; have f2 := blk_frozen S7.out.rs 2; have f3 := blk_frozen S7.out.rs 3; have f4 := blk_frozen S7.out.rs 4; have f5 := blk_frozen S7.out.rs 5; have e0 := (blk_cell S7.out.rs 0).trans (show _ = some (Value.slice none 0 0) from rfl); have e1 := (blk_cell S7.out.rs 1).trans (show _ = some (Value.int .i64 0) from rfl); have e2 := (blk_cell S7.out.rs 2).trans (show _ = some (Value.slice none 0 0) from rfl); have e3 := (blk_cell S7.out.rs 3).trans (show _ = some (Value.slice none 0 0) from rfl); have e4 := (blk_cell S7.out.rs 4).trans (show _ = some (Value.int .i64 0) from rfl); have e5 := (blk_cell S7.out.rs 5).trans (show _ = some (Value.int .i64 0) from rfl))
  (have g0 := blk_frozen S7.out.rd 0; have g1 := blk_frozen S7.out.rd 1; have r0 := (blk_cell S7.out.rd 0).trans (show _ = some (Value.slice none 0 0) from rfl); have r1 := (blk_cell S7.out.rd 1).trans (show _ = some (Value.slice none 0 0) from rfl))
  go_wp2
  obtain ⟨W9, hW9⟩ : ∃ W9, W9 = (w7.setCell ⟨w.heap.size, 0, none⟩ (.slice none 0 0)).setCell ⟨w.heap.size, 1, none⟩ (.slice none 0 0) := ⟨_, rfl⟩
  obtain ⟨W10, hW10⟩ : ∃ W10, W10 = (((((W9.setCell ⟨w.heap.size + 1, 0, none⟩ (.slice none 0 0)).setCell ⟨w.heap.size + 1, 1, none⟩ (.int .i64 0)).setCell ⟨w.heap.size + 1, 2, none⟩ (.slice none 0 0)).setCell ⟨w.heap.size + 1, 3, none⟩ (.slice none 0 0)).setCell ⟨w.heap.size + 1, 4, none⟩ (.int .i64 0)).setCell ⟨w.heap.size + 1, 5, none⟩ (.int .i64 0) := ⟨_, rfl⟩
  obtain ⟨q1, q2, q3, _, _⟩ := rs_store S7.out hW9 hW10
  rw [← hW9, ← hW10]
  refine bodyPost_ret (results_cct rfl _ _ w.heap.size (w.heap.size + 1) 26 33 _ _ (0, 0) (0, 0) _ _ rfl q1 Tryz.underlying26 rfl (by kernel_rfl) rfl q2 Tryz.underlying33 rfl (by kernel_rfl)) rfl ?_
  exact ⟨rfl, q3⟩
/-- Where there is no room. -/
theorem formatNo_walk (blocks keep : Int) (w : World) (hb : blocks ≤ 200) (h : blocks < 1 ∨ (cellsF blocks.toNat : Int) < 1 ∨ keep < 0 ∨ (cellsF blocks.toNat : Int) < keep) : Calls Tryz.prog 5 #[.int .i64 blocks, .int .i64 keep] w fun e w' => e = .returned (.tuple #[.agg #[.slice none 0 0, .slice none 0 0], .agg #[.slice none 0 0, .int .i64 0, .slice none 0 0, .slice none 0 0, .int .i64 0, .int .i64 0], .int .i64 1]) ∧ Below w.heap.size w w' := by
  by_cases h1 : blocks < 1
  · by_cases h0 : blocks < 0
    · exact formatNo_core blocks keep 0 1 w (.inr rfl) (fun W => (diskNo_walk blocks W h1).mono (by rintro e w' ⟨rfl, hb⟩; exact ⟨none, 0, 0, rfl, hb⟩)) (fun W => cellsN_walk blocks W h0) (fun W => stateNo_walk 0 keep W (.inl (by decide)))
    · obtain rfl : blocks = 0 := by omega
      have hc0 : cellsF 0 = 0 := by decide +kernel
      exact formatNo_core 0 keep 0 1 w (.inr rfl) (fun W => (diskNo_walk 0 W h1).mono (by rintro e w' ⟨rfl, hb⟩; exact ⟨none, 0, 0, rfl, hb⟩)) (fun W => by have := cells_walk 0 W (by decide); rw [hc0] at this; exact this) (fun W => stateNo_walk 0 keep W (.inl (by decide)))
  · obtain ⟨N, rfl⟩ : ∃ N : Nat, blocks = (N : Int) := ⟨blocks.toNat, by omega⟩
    rw [Int.toNat_natCast] at h
    have h' : (cellsF N : Int) < 1 ∨ (2000 : Int) < (cellsF N : Int) ∨ keep < 0 ∨ (cellsF N : Int) < keep := by omega
    exact formatNo_core N keep (cellsF N : Nat) 0 w (.inl rfl) (fun W => (diskNew_walk N W (by omega) (by omega)).mono (by rintro e w' ⟨A, c, rfl, _, _, hb⟩; exact ⟨A, N, c, rfl, hb⟩)) (fun W => cells_walk N W (by omega)) (fun W => stateNo_walk _ keep W h')
end Go.Proofs.YtodejilhgpejnaaGreat.Q
namespace Go.Proofs.YtodejilhgpejnaaGreat.Q
open Go.RowKit Go.Proofs.YtodejilhgpejnaaGreatW.PrintWords Go.Proofs.YtodejilhgpejnaaGreatW.PrintLast Go.Proofs.YtodejilhgpejnaaGreatW.PrintMore
attribute [local go_sem] max2_int min2_int max_two min_two max_three min_three max_four min_four
set_option linter.unusedVariables false
set_option linter.unusedSimpArgs false
theorem limit2_walk (w : World) : Calls Tryz.prog 109 #[.int .i64 2] w fun e w' => e = .returned (.int .i64 65536) ∧ w = w' := by
  (go_enter Tryz.func109, Tryz.ntmps109; go_wp2; refine wp_loop_rounds 3 ?_)
  rw [rounds_succ]
  go_wp2
  rw [rounds_succ]
  go_wp2
  rw [rounds_succ]
  go_wp2
  go_ret
  exact ⟨rfl, rfl⟩
theorem limit1_walk (w : World) : Calls Tryz.prog 109 #[.int .i64 1] w fun e w' => e = .returned (.int .i64 256) ∧ w = w' := by
  (go_enter Tryz.func109, Tryz.ntmps109; go_wp2; refine wp_loop_rounds 2 ?_)
  rw [rounds_succ]
  go_wp2
  rw [rounds_succ]
  go_wp2
  go_ret
  exact ⟨rfl, rfl⟩
theorem limit4_walk (w : World) : Calls Tryz.prog 109 #[.int .i64 4] w fun e w' => e = .returned (.int .i64 4294967296) ∧ w = w' := by
  (go_enter Tryz.func109, Tryz.ntmps109; go_wp2; refine wp_loop_rounds 5 ?_)
  rw [rounds_succ]
  go_wp2
  rw [rounds_succ]
  go_wp2
  rw [rounds_succ]
  go_wp2
  rw [rounds_succ]
  go_wp2
  rw [rounds_succ]
  go_wp2
  go_ret
  exact ⟨rfl, rfl⟩
theorem xor_walk (a b : Nat) (w : World) (ha : a < 4294967296) (hb : b < 4294967296) : Calls Tryz.prog 112 #[.int .i64 a, .int .i64 b] w fun e w' => e = .returned (.int .i64 (bits .xor .u32 a b)) ∧ w = w' := by
  obtain ⟨m, hm, hm2⟩ := bits_nat .xor (a : Int) (b : Int)
  have e1 : (a : Int) % 4294967296 = (a : Int) := by omega
  have e2 : (b : Int) % 4294967296 = (b : Int) := by omega
  have e3 : wrap64 (bits .xor .u32 (a : Int) (b : Int)) = bits .xor .u32 (a : Int) (b : Int) := by rw [hm]; unfold wrap64; omega
  clear hm hm2 ha hb
  go_enter Tryz.func112, Tryz.ntmps112
  go_wp2
  go_ret
  exact ⟨ret_i (by first | rfl | (rw [e1, e2, e3]; done) | (simp only [e1, e2, e3]; done)), rfl⟩
set_option maxHeartbeats 4000000 in
set_option maxRecDepth 100000 in
theorem refPut1R_walk (n : Nat) (w : World) (hn : n ≤ 255) : Calls Tryz.prog 90 #[.int .i64 n, .int .i64 1] w fun e w' => ∃ A c, e = .returned (.slice A 1 c) ∧ Kd.R (Kd.int .u8) 5 w' w.heap.size (fun _ => True) (.slice A 1 c) [(n : Int)] ∧ Below w.heap.size w w' := by
  have q1 : decide ((n : Int) < 0) = false := decide_eq_false (by omega)
  have q2 : decide ((256 : Int) ≤ (n : Int)) = false := decide_eq_false (by omega)
  have h1 : 0 ≤ (n : Int) := by omega
  have h2 : (n : Int) ≤ 255 := by omega
  have HN := Aside0.mk hn
  have HR0 := Aside0.mk (show Kd.R (Kd.int .u8) 5 w w.heap.size (fun _ => True) (.slice none 0 0) [] from Kd.R_nil _ _ _ _ _)
  have HB0 := Aside0.mk (Below.refl w.heap.size w)
  clear hn
  go_enter Tryz.func90, Tryz.ntmps90
  go_wp2_with (first | (go_at_call 109; (with_reducible refine (limit1_walk _).mono ?_); rintro e w' ⟨rfl, rfl⟩) | fail)
  refine wp_loop_rounds 2 ?_
  rw [rounds_succ]
  go_wp2_with (first | ((with_reducible refine gate_builtin (b := .append) (xs := #[.tmp 28, .tmp 32]) rfl ?_); at_builtin; refine Kd.R_append (Kd.int .u8) (w0 := w) w.heap.size rfl (.tmp 28) (.tmp 32) 83 5 (.int .u8 0) 1 rfl Tryz.underlying83 info_u8 rfl (by decide) (by decide) _ _ _ [.int .u8 _] (fun _ => True) (fun _ => False) rfl rfl rfl (fun _ h => h.elim) (fun _ _ => trivial) HR0.out HB0.out HB0.out.size (by simp) ?_; intro v1 w5 ho hb hg hat; have HR1 := Aside0.mk ho; have HB1 := Aside0.mk hb; clear ho hb hg hat) | fail)
  rw [rounds_succ]
  go_wp2
  obtain ⟨A, c, hv⟩ := Kd.R_slice HR1.out
  rw [hv]
  go_ret
  have hr := HR1.out
  rw [hv] at hr
  have hn := HN.out
  refine ⟨A, c, rfl, ?_, HB1.out⟩
  have e : [(n : Int)] = _ := (show _ = ([] ++ [(n : Int) % 256]) from by simp [le4]; omega)
  rw [e]
  exact hr
set_option maxHeartbeats 4000000 in
set_option maxRecDepth 100000 in
theorem refPut2R_walk (n : Nat) (w : World) (hn : n ≤ 65535) : Calls Tryz.prog 90 #[.int .i64 n, .int .i64 2] w fun e w' => ∃ A c, e = .returned (.slice A 2 c) ∧ Kd.R (Kd.int .u8) 5 w' w.heap.size (fun _ => True) (.slice A 2 c) [(n : Int) % 256, (n : Int) / 256] ∧ Below w.heap.size w w' := by
  have q1 : decide ((n : Int) < 0) = false := decide_eq_false (by omega)
  have q2 : decide ((65536 : Int) ≤ (n : Int)) = false := decide_eq_false (by omega)
  have h1 : 0 ≤ (n : Int) := by omega
  have h2 : (n : Int) ≤ 65535 := by omega
  have HN := Aside0.mk hn
  have HR0 := Aside0.mk (show Kd.R (Kd.int .u8) 5 w w.heap.size (fun _ => True) (.slice none 0 0) [] from Kd.R_nil _ _ _ _ _)
  have HB0 := Aside0.mk (Below.refl w.heap.size w)
  clear hn
  go_enter Tryz.func90, Tryz.ntmps90
  go_wp2_with (first | (go_at_call 109; (with_reducible refine (limit2_walk _).mono ?_); rintro e w' ⟨rfl, rfl⟩) | fail)
  refine wp_loop_rounds 3 ?_
  rw [rounds_succ]
  go_wp2_with (first | ((with_reducible refine gate_builtin (b := .append) (xs := #[.tmp 28, .tmp 32]) rfl ?_); at_builtin; refine Kd.R_append (Kd.int .u8) (w0 := w) w.heap.size rfl (.tmp 28) (.tmp 32) 83 5 (.int .u8 0) 1 rfl Tryz.underlying83 info_u8 rfl (by decide) (by decide) _ _ _ [.int .u8 _] (fun _ => True) (fun _ => False) rfl rfl rfl (fun _ h => h.elim) (fun _ _ => trivial) HR0.out HB0.out HB0.out.size (by simp) ?_; intro v1 w5 ho hb hg hat; have HR1 := Aside0.mk ho; have HB1 := Aside0.mk hb; clear ho hb hg hat) | fail)
  rw [rounds_succ]
  go_wp2_with (first | ((with_reducible refine gate_builtin (b := .append) (xs := #[.tmp 28, .tmp 32]) rfl ?_); at_builtin; refine Kd.R_append (Kd.int .u8) (w0 := w) w.heap.size rfl (.tmp 28) (.tmp 32) 83 5 (.int .u8 0) 1 rfl Tryz.underlying83 info_u8 rfl (by decide) (by decide) _ _ _ [.int .u8 _] (fun _ => True) (fun _ => False) rfl rfl rfl (fun _ h => h.elim) (fun _ _ => trivial) HR1.out HB1.out HB1.out.size (by simp) ?_; intro v1 w5 ho hb hg hat; have HR2 := Aside0.mk ho; have HB2 := Aside0.mk hb; clear ho hb hg hat) | fail)
  rw [rounds_succ]
  go_wp2
  obtain ⟨A, c, hv⟩ := Kd.R_slice HR2.out
  rw [hv]
  go_ret
  have hr := HR2.out
  rw [hv] at hr
  have hn := HN.out
  refine ⟨A, c, rfl, ?_, HB2.out⟩
  have e : [(n : Int) % 256, (n : Int) / 256] = _ := (show _ = ([] ++ [(n : Int) % 256] ++ [(n : Int) / 256 % 256]) from by simp [le4]; omega)
  rw [e]
  exact hr
set_option maxHeartbeats 4000000 in
set_option maxRecDepth 100000 in
theorem refPut4R_walk (n : Nat) (w : World) (hn : n ≤ 4294967295) : Calls Tryz.prog 90 #[.int .i64 n, .int .i64 4] w fun e w' => ∃ A c, e = .returned (.slice A 4 c) ∧ Kd.R (Kd.int .u8) 5 w' w.heap.size (fun _ => True) (.slice A 4 c) (le4 n) ∧ Below w.heap.size w w' := by
  have q1 : decide ((n : Int) < 0) = false := decide_eq_false (by omega)
  have q2 : decide ((4294967296 : Int) ≤ (n : Int)) = false := decide_eq_false (by omega)
  have h1 : 0 ≤ (n : Int) := by omega
  have h2 : (n : Int) ≤ 4294967295 := by omega
  have HN := Aside0.mk hn
  have HR0 := Aside0.mk (show Kd.R (Kd.int .u8) 5 w w.heap.size (fun _ => True) (.slice none 0 0) [] from Kd.R_nil _ _ _ _ _)
  have HB0 := Aside0.mk (Below.refl w.heap.size w)
  clear hn
  go_enter Tryz.func90, Tryz.ntmps90
  go_wp2_with (first | (go_at_call 109; (with_reducible refine (limit4_walk _).mono ?_); rintro e w' ⟨rfl, rfl⟩) | fail)
  refine wp_loop_rounds 5 ?_
  rw [rounds_succ]
  go_wp2_with (first | ((with_reducible refine gate_builtin (b := .append) (xs := #[.tmp 28, .tmp 32]) rfl ?_); at_builtin; refine Kd.R_append (Kd.int .u8) (w0 := w) w.heap.size rfl (.tmp 28) (.tmp 32) 83 5 (.int .u8 0) 1 rfl Tryz.underlying83 info_u8 rfl (by decide) (by decide) _ _ _ [.int .u8 _] (fun _ => True) (fun _ => False) rfl rfl rfl (fun _ h => h.elim) (fun _ _ => trivial) HR0.out HB0.out HB0.out.size (by simp) ?_; intro v1 w5 ho hb hg hat; have HR1 := Aside0.mk ho; have HB1 := Aside0.mk hb; clear ho hb hg hat) | fail)
  rw [rounds_succ]
  go_wp2_with (first | ((with_reducible refine gate_builtin (b := .append) (xs := #[.tmp 28, .tmp 32]) rfl ?_); at_builtin; refine Kd.R_append (Kd.int .u8) (w0 := w) w.heap.size rfl (.tmp 28) (.tmp 32) 83 5 (.int .u8 0) 1 rfl Tryz.underlying83 info_u8 rfl (by decide) (by decide) _ _ _ [.int .u8 _] (fun _ => True) (fun _ => False) rfl rfl rfl (fun _ h => h.elim) (fun _ _ => trivial) HR1.out HB1.out HB1.out.size (by simp) ?_; intro v1 w5 ho hb hg hat; have HR2 := Aside0.mk ho; have HB2 := Aside0.mk hb; clear ho hb hg hat) | fail)
  rw [rounds_succ]
  go_wp2_with (first | ((with_reducible refine gate_builtin (b := .append) (xs := #[.tmp 28, .tmp 32]) rfl ?_); at_builtin; refine Kd.R_append (Kd.int .u8) (w0 := w) w.heap.size rfl (.tmp 28) (.tmp 32) 83 5 (.int .u8 0) 1 rfl Tryz.underlying83 info_u8 rfl (by decide) (by decide) _ _ _ [.int .u8 _] (fun _ => True) (fun _ => False) rfl rfl rfl (fun _ h => h.elim) (fun _ _ => trivial) HR2.out HB2.out HB2.out.size (by simp) ?_; intro v1 w5 ho hb hg hat; have HR3 := Aside0.mk ho; have HB3 := Aside0.mk hb; clear ho hb hg hat) | fail)
  rw [rounds_succ]
  go_wp2_with (first | ((with_reducible refine gate_builtin (b := .append) (xs := #[.tmp 28, .tmp 32]) rfl ?_); at_builtin; refine Kd.R_append (Kd.int .u8) (w0 := w) w.heap.size rfl (.tmp 28) (.tmp 32) 83 5 (.int .u8 0) 1 rfl Tryz.underlying83 info_u8 rfl (by decide) (by decide) _ _ _ [.int .u8 _] (fun _ => True) (fun _ => False) rfl rfl rfl (fun _ h => h.elim) (fun _ _ => trivial) HR3.out HB3.out HB3.out.size (by simp) ?_; intro v1 w5 ho hb hg hat; have HR4 := Aside0.mk ho; have HB4 := Aside0.mk hb; clear ho hb hg hat) | fail)
  rw [rounds_succ]
  go_wp2
  obtain ⟨A, c, hv⟩ := Kd.R_slice HR4.out
  rw [hv]
  go_ret
  have hr := HR4.out
  rw [hv] at hr
  have hn := HN.out
  refine ⟨A, c, rfl, ?_, HB4.out⟩
  have e : le4 n = _ := (show _ = ([] ++ [(n : Int) % 256] ++ [(n : Int) / 256 % 256] ++ [(n : Int) / 256 / 256 % 256] ++ [(n : Int) / 256 / 256 / 256 % 256]) from by simp [le4]; omega)
  rw [e]
  exact hr
theorem refPut1_walk (n : Nat) (w : World) (hn : n ≤ 255) : Calls Tryz.prog 90 #[.int .i64 n, .int .i64 1] w fun e w' => ∃ A c, e = .returned (.slice A 1 c) ∧ 1 ≤ c ∧ Kd.C (Kd.int .u8) w' A 1 [(n : Int)] ∧ Below w.heap.size w w' := by
  refine (refPut1R_walk n w hn).mono ?_
  rintro e w' ⟨A, c, rfl, h, hb⟩
  have h9 := (Kd.R_reads' h).2
  exact ⟨A, c, rfl, h9.1, h9.2, hb⟩
theorem refPut2_walk (n : Nat) (w : World) (hn : n ≤ 65535) : Calls Tryz.prog 90 #[.int .i64 n, .int .i64 2] w fun e w' => ∃ A c, e = .returned (.slice A 2 c) ∧ 2 ≤ c ∧ Kd.C (Kd.int .u8) w' A 2 [(n : Int) % 256, (n : Int) / 256] ∧ Below w.heap.size w w' := by
  refine (refPut2R_walk n w hn).mono ?_
  rintro e w' ⟨A, c, rfl, h, hb⟩
  have h9 := (Kd.R_reads' h).2
  exact ⟨A, c, rfl, h9.1, h9.2, hb⟩
theorem refPut4_walk (n : Nat) (w : World) (hn : n ≤ 4294967295) : Calls Tryz.prog 90 #[.int .i64 n, .int .i64 4] w fun e w' => ∃ A c, e = .returned (.slice A 4 c) ∧ 4 ≤ c ∧ Kd.C (Kd.int .u8) w' A 4 (le4 n) ∧ Below w.heap.size w w' := by
  refine (refPut4R_walk n w hn).mono ?_
  rintro e w' ⟨A, c, rfl, h, hb⟩
  have h9 := (Kd.R_reads' h).2
  exact ⟨A, c, rfl, h9.1, h9.2, hb⟩
end Go.Proofs.YtodejilhgpejnaaGreat.Q
