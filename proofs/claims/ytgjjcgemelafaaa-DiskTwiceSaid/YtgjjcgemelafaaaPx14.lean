-- By wip/tools/drive.py: the kit's print, with contracts of this session's own among the functions.
import Derived.Test.YtgjjcgemelafaaaPx0
import Derived.Test.YtgjjcgemelafaaaPx4
import Derived.Test.YtgjjcgemelafaaaPx8
import Derived.Test.YtgjjcgemelafaaaPx10
import Derived.Test.YtgjjcgemelafaaaPx12
namespace Go.Proofs.Ytgjjcgemelafaaa.P
open Go.RowKit Go.Proofs.YtgjjcgemelafaaaW.PrintWords Go.Proofs.YtgjjcgemelafaaaW.PrintLast Go.Proofs.YtgjjcgemelafaaaW.PrintMore
attribute [local go_sem] max2_int min2_int max_two min_two max_three min_three max_four min_four   -- for this text's walks alone
set_option linter.unusedVariables false
set_option linter.unusedSimpArgs false
attribute [local go_sem] Oper.semAt_some
/-- The writes that stay. -/
def keptL (p : Nat → Bool) : List S79 → Nat → List S79
  | [], _ => []
  | x :: l, i => if p i then x :: keptL p l (i + 1) else keptL p l (i + 1)
theorem lt_of_same {W w : World} {j : Nat} (h : W.heap[j]? = w.heap[j]?) (hj : j < w.heap.size) : j < W.heap.size := by
  rw [Array.getElem?_eq_getElem hj] at h
  exact (Array.getElem?_eq_some_iff.1 h).1
set_option maxHeartbeats 4000000 in
set_option maxRecDepth 100000 in
theorem keptIter (n : Nat) (Bs : Nat) (A1 : Option Addr) (c1 : Nat) (l1 : List S79) (gi : Nat) (lbi : Array Value) (p : Nat → Bool) (S : Nat → Prop) (w : World) (hS : ∀ k, S k → k < w.heap.size) (s0 : S Bs) (s1 : S (Bs + 1)) (s2 : ∀ ad, A1 = some ad → 0 < l1.length → S ad.block)
    (c0 : w.heap[Bs]? = some (.cells #[.slice A1 l1.length c1] 61 (0, 0))) (cf : w.heap[Bs + 1]? = some (.cells #[.func (.func gi) #[] lbi] 118 (0, 0))) (hr1 : Kd.C k79 w A1 l1.length l1)
    (egi : ∀ args w, (callFunc gi args).run Try.prog w = .ok (.enter gi args) w)
    (HI : ∀ (W : World) (i : Nat), i < l1.length → (∀ k, S k → W.heap[k]? = w.heap[k]?) → Calls Try.prog gi (#[.int .i64 (i : Int)] ++ lbi) W fun e w' => e = .returned (.bool (p i)) ∧ w' = W) :
    SeqSt Fence.wide n Try.prog 165 #[.pointer (some ⟨Bs, 0, none⟩), .pointer (some ⟨Bs + 1, 0, none⟩)] (fun x : S79 => #[encW x])
      (fun A B => ∀ k, S k → B.heap[k]? = A.heap[k]?) (fun A B => B = A) (fun xs => xs = keptL p l1 0) (fun xs => xs <+: keptL p l1 0) (keptL p l1 0).length w := by
  intro l J Jx W hb hJ hJx hJs hY h0
  have hro : Fence.wide.round = none := rfl
  have hmax := Kd.C_max hr1
  have hW : ∀ k, S k → W.heap[k]? = w.heap[k]? := fun k hk => hb.block k (hS k hk)
  refine callsIn_of_wp Try.func165 rfl trivial ?_ hro
  simp only [Try.ntmps165, List.size_toArray, List.length_cons, List.length_nil, Nat.reduceAdd, Nat.reduceSub, Array.replicate_succ, Array.replicate_zero, List.push_toArray, List.append_toArray, List.nil_append, List.cons_append]
  have d0 := (blk_cell ((hW Bs s0).trans c0) 0).trans (show _ = some (Value.slice A1 l1.length c1) from rfl)
  have HIS := Aside0.mk HI
  have HW := Aside0.mk hW
  clear HI hW
  gi_wp2
  gi_loopw [8] (fun v8 wr => ∃ (pre : List S79) (k : Nat), v8 = .int .i64 k ∧ k ≤ l1.length ∧ keptL p l1 0 = pre ++ keptL p (l1.drop k) k ∧ J pre wr ∧ Aside0 (∀ k, S k → wr.heap[k]? = w.heap[k]?))
    (fun v8 _ => l1.length - (intOf v8).toNat)
  case atStart => exact ⟨[], 0, rfl, Nat.zero_le _, rfl, h0, HW⟩
  case round =>
    clear d0 HW
    obtain ⟨pre, k, rfl, hk, hp, hj, HW⟩ := hrel
    by_cases hlt : k < l1.length
    · have a0 := (HW.out Bs s0).trans c0
      have af := (HW.out (Bs + 1) s1).trans cf
      have d0 := (blk_cell a0 0).trans (show _ = some (Value.slice A1 l1.length c1) from rfl)
      have df := (blk_cell af 0).trans (show _ = some (Value.func (.func gi) #[] lbi) from rfl)
      have HR := C_blk79 hr1 (fun hn ad e => HW.out _ (s2 ad e hn))
      have q1 : (k < l1.length) = True := eq_true hlt
      have hc2 : decide ((k : Int) < (l1.length : Int)) = true := decide_eq_true (by omega)
      obtain ⟨ad, e1, hx, hx2⟩ := at_T79 HR (k : Int) (by omega) (by omega)
      subst e1
      rw [Int.toNat_natCast, rd_nat79 _ _ hlt] at hx hx2
      rw [List.drop_eq_getElem_cons hlt, keptL] at hp
      obtain ⟨y, hy⟩ : ∃ y, y = l1[k] := ⟨_, rfl⟩
      rw [← hy] at hx hx2 hp
      have hBlt : Bs < wr.heap.size := (Array.getElem?_eq_some_iff.1 a0).1
      have hBlt2 : Bs + 1 < wr.heap.size := (Array.getElem?_eq_some_iff.1 af).1
      have e2 : wrap64 ((k : Int) + 1) = ((k + 1 : Nat) : Int) := by unfold wrap64; omega
      have HP := Aside0.mk hp
      have HT := Aside0.mk hlt
      have hWa : ∀ j, S j → (wr.alloc (.cells #[.int .i64 y.f0, .string y.f1] 79)).heap[j]? = w.heap[j]? := fun j hj' => (Below.heap_alloc _ _ _ (lt_of_same (HW.out j hj') (hS j hj'))).trans (HW.out j hj')
      have hcall := HIS.out (wr.alloc (.cells #[.int .i64 y.f0, .string y.f1] 79)) k hlt hWa
      have HWA := Aside0.mk hWa
      have hja : J pre (wr.alloc (.cells #[.int .i64 y.f0, .string y.f1] 79)) := hJ pre wr _ none hj (World.grownBy_alloc _ _ none) (fun r e => by cases e)
      have hb0 := blk_new wr (.cells #[.int .i64 y.f0, .string y.f1] 79)
      clear hWa
      clear hy hp hk hlt a0 af HR
      cases hq : p k with
      | false =>
        rw [hq] at hcall
        gi_wp2_with fail
        refine ⟨trivial, (fun h => by cases h), ?_⟩
        refine (callsIn_wide.2 hcall).mono ?_
        rintro e w' ⟨rfl, rfl⟩
        gi_wp2
        refine ⟨(fun f h => by cases h), ?_⟩
        gi_wp2
        rw [e2]
        refine ⟨⟨pre, k + 1, rfl, by have := HT.out; omega, by have := HP.out; rwa [hq, if_neg (by decide)] at this, hja, HWA⟩, ?_⟩
        have := HT.out
        simp [intOf]
        omega
      | true =>
        rw [hq] at hcall
        have hpk := HP.out
        rw [hq, if_pos rfl] at hpk
        obtain ⟨fn, tmps, assign, body, hyl, hRn⟩ := hY pre y (wr.alloc (.cells #[.int .i64 y.f0, .string y.f1] 79)) hja (by rw [hpk]; simp) ⟨keptL p (l1.drop (k + 1)) (k + 1), by rw [hpk]; simp⟩
        replace hyl : (Instr.yield l #[.agg #[.int .i64 y.f0, .string y.f1]]).run Try.prog (wr.alloc (.cells #[.int .i64 y.f0, .string y.f1] 79)) = _ := hyl
        have HP2 := Aside0.mk hpk
        clear hpk
        gi_wp2_with fail
        refine ⟨trivial, (fun h => by cases h), ?_⟩
        refine (callsIn_wide.2 hcall).mono ?_
        rintro e w' ⟨rfl, rfl⟩
        gi_wp2
        refine ⟨(fun h => by cases h), ?_⟩
        refine hRn.mono ?_
        rintro e W3 (⟨rfl, hJ3, hk3⟩ | ⟨rfl, hJx3⟩)
        · have HW3 := Aside0.mk (show ∀ j, S j → W3.heap[j]? = w.heap[j]? from fun j hj' => (hk3 j hj').trans (HWA.out j hj'))
          clear hk3
          gi_wp2
          rw [e2]
          refine ⟨⟨pre ++ [y], k + 1, rfl, by have := HT.out; omega, by rw [HP2.out]; simp, hJ3, HW3⟩, ?_⟩
          have := HT.out
          simp [intOf]
          omega
        · gi_wp2
          refine bodyPost_ret (results_none rfl _ _ _) rfl ?_
          exact ⟨⟨_, rfl⟩, .inr ⟨pre ++ [y], ⟨keptL p (l1.drop (k + 1)) (k + 1), by rw [HP2.out]; simp⟩, hJx3⟩⟩
    · have hc2 : decide ((k : Int) < (l1.length : Int)) = false := decide_eq_false (by omega)
      rw [List.drop_of_length_le (by omega), keptL, List.append_nil] at hp
      have HP := Aside0.mk hp
      clear hp
      gi_wp2
      refine bodyPost_end (results_none rfl _ _ _) rfl ?_
      exact ⟨⟨_, rfl⟩, .inl ⟨pre, by rw [HP.out], hj⟩⟩
theorem flush1_walk (i : Int) (w : World) : Calls Try.prog 94 (#[.int .i64 i] ++ #[]) w fun e w' => e = .returned (.bool true) ∧ w' = w := by
  show Calls Try.prog 94 #[.int .i64 i] w _
  go_enter Try.func94, Try.ntmps94
  go_wp2
  go_ret
  exact ⟨rfl, rfl⟩
theorem kept_walk (A : Option Addr) (n c : Nat) (gi : Nat) (lb : Array Value) (w : World) : Calls Try.prog 141 #[.slice A n c, .func (.func gi) #[] lb] w fun e w' => e = .returned (.func (.func 165) #[] #[.pointer (some ⟨w.heap.size, 0, none⟩), .pointer (some ⟨w.heap.size + 1, 0, none⟩)]) ∧ w' = (w.alloc (.cells #[.slice A n c] 61)).alloc (.cells #[.func (.func gi) #[] lb] 118) := by
  go_enter Try.func141, Try.ntmps141
  go_wp2
  go_ret
  exact ⟨rfl, rfl⟩
set_option maxHeartbeats 2000000 in
theorem crash1_walk (Bk : Nat) (A : Option Addr) (c : Nat) (l : List Bool) (i : Nat) (w : World) (hb : w.heap[Bk]? = some (.cells #[.slice A l.length c] 80 (0, 0))) (hr : Kd.C Kd.bool w A l.length l) :
    Calls Try.prog 95 (#[.int .i64 (i : Int)] ++ #[.pointer (some ⟨Bk, 0, none⟩)]) w fun e w' => e = .returned (.bool (l.getD i false)) ∧ w' = w := by
  show Calls Try.prog 95 #[.int .i64 (i : Int), .pointer (some ⟨Bk, 0, none⟩)] w _
  have d0 := (blk_cell hb 0).trans (show _ = some (Value.slice A l.length c) from rfl)
  by_cases h : i < l.length
  · have q1 : (i < l.length) = True := eq_true h
    have hc : decide ((i : Int) < (l.length : Int)) = true := decide_eq_true (by omega)
    obtain ⟨ad, e1, hx⟩ := Kd.at_bool hr (i : Int) (by omega) (by omega)
    subst e1
    have e2 : rdOf false l (i : Int) = l.getD i false := by simp [rdOf]
    rw [Int.toNat_natCast, e2] at hx
    clear e2 hb hr h
    generalize l.getD i false = y at hx
    go_enter Try.func95, Try.ntmps95
    go_wp2
    go_ret
    exact ⟨rfl, rfl⟩
  · have hc : decide ((i : Int) < (l.length : Int)) = false := decide_eq_false (by omega)
    have q1 : (i < l.length) = False := eq_false h
    have e : l.getD i false = false := by rw [List.getD_eq_getElem?_getD, List.getElem?_eq_none (by omega)]; rfl
    rw [e]
    clear e hb hr h
    go_enter Try.func95, Try.ntmps95
    go_wp2
    go_ret
    exact ⟨rfl, rfl⟩
attribute [local go_sem] Oper.semAt_some
/-- The blocks, with writes done. -/
def layF (b : List ByteArray) (l : List S79) : List ByteArray := l.foldl (fun b x => b.set x.f0.toNat x.f1) b
theorem layF_length (l : List S79) : ∀ b, (layF b l).length = b.length := by
  induction l with
  | nil => intro b; rfl
  | cons x l ih => intro b; simp only [layF, List.foldl_cons] at ih ⊢; rw [ih]; simp
theorem layF_snoc (b : List ByteArray) (l : List S79) (x : S79) : layF b (l ++ [x]) = (layF b l).set x.f0.toNat x.f1 := by simp [layF]
section
variable {F : Fence} {n : Nat} {P : Program}
theorem wpListIn_copy_own {w : World} {ops : Array Oper} {rest : List Oper} {o : Oper} {a : Act} {Q : Exit → Act → World → Prop} (hgd : o.guard = none) (d s : Operand) (dT sT : TypeId)
    (ho : o.op = .call { callee := .builtin .copy, args := #[d, s], argTypes := #[dT, sT] }) (elem : TypeId) (hu : P.underlying dT = some (.slice elem)) (hsz : (P.info? elem).map (·.size) = some 1)
    (g off dLen dCap : Nat) (ad : Addr) (sLen sCap : Nat) (hd : a.eval d = .slice (some ⟨g, off, none⟩) dLen dCap) (hs : a.eval s = .slice (some ad) sLen sCap)
    (cur : Array Value) (t : TypeId) (hg : w.heap[g]? = some (.cells cur t (0, 0))) (cs : List Value) (hn : cs.length = Nat.min sLen dLen)
    (hsrc : ∀ j v, cs[j]? = some v → w.cell? (ad.add j) = some v) (hfit : off + cs.length ≤ cur.size) (h1 : ∀ v ∈ cs, v.oneCell' = true)
    (h : wpListIn F n P ops Q rest (a.put o.dst (goInt cs.length)) (w.setRow g (cur.toList.take off ++ (cs ++ cur.toList.drop (off + cs.length))).toArray)) : wpListIn F n P ops Q (o :: rest) a w := by
  refine wpListIn_plain hgd fun K hK => ?_
  have hrun := run_copy_row (P := P) w dT sT o.type elem g off dLen dCap ad sLen sCap cur t cs hu hsz hg hn hsrc hfit h1
  unfold Oper.wpIn
  refine ⟨?_, ?_⟩
  · simp [Oper.about, ho, resolve, Target.leads, Sem.run_pure]
  · rw [Oper.semAt_plain F _ _ (by rw [ho]; intro c hc'; cases hc')]
    simp [execOp, ho, resolve, invoke, builtin, hd, hs, hrun, Result.andThen]
    exact hK _ _ h
/-- A whole row is filled. -/
theorem wpListIn_copy_fill {w : World} {ops : Array Oper} {rest : List Oper} {o : Oper} {a : Act} {Q : Exit → Act → World → Prop} (hgd : o.guard = none) (d s : Operand) (dT sT : TypeId)
    (ho : o.op = .call { callee := .builtin .copy, args := #[d, s], argTypes := #[dT, sT] }) (elem : TypeId) (hu : P.underlying dT = some (.slice elem)) (hsz : (P.info? elem).map (·.size) = some 1)
    (g m : Nat) (ad : Addr) (sCap dCap : Nat) (hd : a.eval d = .slice (some ⟨g, 0, none⟩) m dCap) (hs : a.eval s = .slice (some ad) m sCap)
    (cur : Array Value) (t : TypeId) (hg : w.heap[g]? = some (.cells cur t (0, 0))) (cs : List Value) (hn : cs.length = m) (hc : cur.size = m)
    (hsrc : ∀ j v, cs[j]? = some v → w.cell? (ad.add j) = some v) (h1 : ∀ v ∈ cs, v.oneCell' = true)
    (h : ∀ w', w'.heap[g]? = some (.cells cs.toArray t (0, 0)) → (∀ k, k ≠ g → w'.heap[k]? = w.heap[k]?) → (∀ B, B ≤ g → ∀ w0, Below B w0 w → Below B w0 w') → w'.heap.size = w.heap.size → wpListIn F n P ops Q rest (a.put o.dst (goInt m)) w') : wpListIn F n P ops Q (o :: rest) a w := by
  refine wpListIn_copy_own hgd d s dT sT ho elem hu hsz g 0 m dCap ad m sCap hd hs cur t hg cs (by rw [hn]; simp) hsrc (by omega) h1 ?_
  rw [hn]
  have e : (cur.toList.take 0 ++ (cs ++ cur.toList.drop (0 + m))) = cs := by
    rw [List.drop_of_length_le (by simp [hc])]; simp
  rw [e]
  exact h _ (setRow_heap w g _ _ t _ hg) (fun k hk => setRow_other w g k _ hk) (fun B hB w0 hb => below_setRow hb hB _) (by simp [World.setRow])
end
/-- The loop of laid, behind the writes pre. -/
def LaidI (w : World) (v0 v1 : Value) (l0 : List ByteArray) (pre : List S79) (W : World) : Prop :=
  W.heap[w.heap.size]? = some (.cells #[v0, v1] 63 (0, 0)) ∧ W.heap[w.heap.size + 1]? = some (.cells #[.slice none 0 0, .slice none 0 0] 63 (0, 0)) ∧
    W.heap[w.heap.size + 2]? = some (.cells ((layF l0 pre).map Value.string).toArray 9 (0, 0)) ∧ Boxed W (w.heap.size + 3) 60 (.slice (some ⟨w.heap.size + 2, 0, none⟩) l0.length l0.length) ∧ Below w.heap.size w W ∧ w.heap.size + 6 ≤ W.heap.size
theorem laidI_own (w : World) (v0 v1 : Value) (l0 : List ByteArray) {B : Nat} (hB : w.heap.size + 6 = B) : OwnFrom B (LaidI w v0 v1 l0) := by
  rintro pre W W' row ⟨h1, h2, h3, h4, h5, h6⟩ hg hr
  exact ⟨blk_grown h1 hg (fun e => by have := (hr _ e.symm).1; omega), blk_grown h2 hg (fun e => by have := (hr _ e.symm).1; omega), blk_grown h3 hg (fun e => by have := (hr _ e.symm).1; omega), h4.kept hg (fun e => by have := (hr _ e.symm).1; omega), h5.grown hg h5.size (fun k e => by have := (hr k e).1; omega), by have := hg.size; omega⟩
attribute [local go_sem] Oper.semAt_some
theorem keptL_mem (p : Nat → Bool) : ∀ (l : List S79) (i : Nat) (x : S79), x ∈ keptL p l i → x ∈ l
  | [], _, _, h => by simp [keptL] at h
  | y :: l, i, x, h => by
    rw [keptL] at h
    split at h
    · rcases List.mem_cons.1 h with rfl | h
      · simp
      · exact List.mem_cons_of_mem _ (keptL_mem p l _ x h)
    · exact List.mem_cons_of_mem _ (keptL_mem p l _ x h)
theorem laid_out {tmps : Array Value} {b D : Nat} {v0 v1 : Value} {W : World} {R : Ending → World → Prop} (h2 : tmps.getD 4 undef = .pointer (some ⟨b, 0, none⟩))
    (c2 : W.heap[b]? = some (.cells #[v0, v1] 63 (0, 0))) (hD : b < D) (hK : W.heap[D]? = some (.deferred (some []))) (hR : R (.returned (.agg #[v0, v1])) (W.putObj D (.deferred none))) :
    bodyPostM Fence.wide 10 Try.prog Try.f93 R .ret { tmps := tmps, defers := [{ target := .collected D, args := #[] }] } W := by
  have c3 : (W.putObj D (.deferred none)).heap[b]? = some (.cells #[v0, v1] 63 (0, 0)) := (World.putObj_heap_other (by omega)).trans c2
  unfold bodyPostM LeavesInM
  refine ⟨by simp, .inl ⟨D, _, rfl, run_takeDeferred hK, ?_⟩⟩
  unfold LeavesInM
  have hp' : tmps[4]?.getD undef = .pointer (some ⟨b, 0, none⟩) := by simpa using h2
  have hr := run_loadVar_row (P := Try.prog) _ b 63 63 #[v0, v1] (0, 0) _ c3 Try.underlying63 rfl (by kernel_rfl)
  refine ⟨_, ?_, hR⟩
  simp [results, hp', asAddr, hr]
set_option maxHeartbeats 4000000 in
set_option maxRecDepth 100000 in
theorem laid_walk (A0 : Option Addr) (c0 : Nat) (l0 : List ByteArray) (A1 : Option Addr) (c1 : Nat) (l1 : List S79) (gi : Nat) (lbi : Array Value) (p : Nat → Bool) (w : World) (hr0 : Kd.C Kd.string w A0 l0.length l0) (hc0 : l0.length ≤ c0) (hr1 : Kd.C k79 w A1 l1.length l1) (hc1 : l1.length ≤ c1)
    (hn : 0 < l0.length) (hbig : l0.length ≤ 1000000) (hfit : ∀ x ∈ l1, fitsB l0.length x = true)
    (egi : ∀ args w, (callFunc gi args).run Try.prog w = .ok (.enter gi args) w)
    (HI : ∀ (W : World) (i : Nat), i < l1.length → (∀ k, k < w.heap.size → W.heap[k]? = w.heap[k]?) → Calls Try.prog gi (#[.int .i64 (i : Int)] ++ lbi) W fun e w' => e = .returned (.bool (p i)) ∧ w' = W) :
    Calls Try.prog 93 #[.agg #[.slice A0 l0.length c0, .slice A1 l1.length c1], .func (.func gi) #[] lbi] w fun e w' => ∃ v, e = .returned (.agg #[v, .slice none 0 0]) ∧ Kd.R Kd.string 9 w' w.heap.size (fun _ => True) v (layF l0 (keptL p l1 0)) ∧ Below w.heap.size w w' := by
  refine (callsIn_wide (n := 10)).1 ?_
  refine callsIn_of_wp_marks Try.func93 rfl trivial ?_ rfl
  simp only [Try.ntmps93, List.size_toArray, List.length_cons, List.length_nil, Nat.reduceAdd, Nat.reduceSub, Array.replicate_succ, Array.replicate_zero, List.push_toArray, List.append_toArray, List.nil_append, List.cons_append]
  have hmk := fun W => run_make_row' (P := Try.prog) 60 9 (.string ⟨#[]⟩) 16 Try.underlying60 info9 rfl .i64 .i64 l0.length (by omega) (by omega) W
  have HR0 := Aside0.mk hr0
  have HR1 := Aside0.mk hr1
  have HN := Aside0.mk hn
  have HG := Aside0.mk hbig
  have HF := Aside0.mk hfit
  have HC0 := Aside0.mk hc0
  have HIS := Aside0.mk HI
  clear hr0 hr1 hc0 hc1 hn hbig hfit HI
  obtain ⟨ad, ea, _⟩ := HR0.out.2.2 HN.out
  subst ea
  have hsrc : ∀ (W : World), Kd.C Kd.string W (some ad) l0.length l0 → ∀ j v, (l0.map Value.string)[j]? = some v → W.cell? (ad.add j) = some v := by
    intro W hC j v hv
    have hj : j < l0.length := by have := (List.getElem?_eq_some_iff.1 hv).1; simpa using this
    obtain ⟨ad', e', hx⟩ := Kd.at_string hC (j : Int) (by omega) (by omega)
    cases e'
    rw [Int.toNat_natCast, getElem_rdOf _ _ _ hj] at hx
    rw [hx]
    rw [List.getElem?_map, List.getElem?_eq_getElem hj] at hv
    exact hv
  have HSRC := Aside0.mk hsrc
  clear hsrc
  gi_wp2_with (refine wpListIn_copy_fill rfl (.tmp 11) (.tmp 13) 60 60 rfl 9 Try.underlying60 (by kernel_rfl) (w.heap.size + 1 + 1) l0.length ad c0 l0.length rfl rfl (madeCells #[.string ⟨#[]⟩] l0.length) 9 ?hg (l0.map Value.string) (by simp) ?hc ?hs ?h1 ?_; (case hg => exact blk_alloc (blk3 _ _ _ _) _); (case hc => simp [madeCells]); (case hs => exact HSRC.out _ (by repeat (first | (with_reducible exact HR0.out) | (with_reducible refine Kd.C_alloc ?_ _)))); (case h1 => (intro v hv; obtain ⟨x, _, rfl⟩ := List.mem_map.1 hv; rfl)); intro W1 hg1 ho1 hb1 hz1; have HG1 := Aside0.mk hg1; have HO1 := Aside0.mk ho1; have HB1 := Aside0.mk hb1; have HZ1 := Aside0.mk hz1; have K0 := Aside0.mk ((ho1 w.heap.size (by omega)).trans (blk_alloc (blk_alloc (blk_alloc (blk_new w (.cells #[.slice (some ad) l0.length c0, .slice A1 l1.length c1] 63)) _) _) _)); have d0 := (blk_cell K0.out 1).trans (show _ = some (Value.slice A1 l1.length c1) from rfl); clear hg1 ho1 hb1 hz1)
  refine ⟨trivial, ?_⟩
  refine (callsIn_wide.2 (kept_walk A1 l1.length c1 gi lbi _)).mono ?_
  rintro e w2 ⟨rfl, rfl⟩
  have hz1 : W1.heap.size = w.heap.size + 4 := by rw [HZ1.out]; simp
  have n4 := boxed_next hz1 61 (.slice A1 l1.length c1)
  have n5 := boxed_next n4.2 118 (.func (.func gi) #[] lbi)
  have k4 := n4.1.alloc (.cells #[.func (.func gi) #[] lbi] 118)
  have kG := blk_alloc (blk_alloc HG1.out (.cells #[.slice A1 l1.length c1] 61)) (.cells #[.func (.func gi) #[] lbi] 118)
  have kK0 := blk_alloc (blk_alloc K0.out (.cells #[.slice A1 l1.length c1] 61)) (.cells #[.func (.func gi) #[] lbi] 118)
  have k1 : W1.heap[w.heap.size + 1]? = some (.cells #[.slice none 0 0, .slice none 0 0] 63 (0, 0)) := (HO1.out (w.heap.size + 1) (by omega)).trans (blk_alloc (blk_alloc (blk2 w _ _) _) _)
  have kK1 := blk_alloc (blk_alloc k1 (.cells #[.slice A1 l1.length c1] 61)) (.cells #[.func (.func gi) #[] lbi] 118)
  have k3 : Boxed W1 (w.heap.size + 3) 60 (.slice (some ⟨w.heap.size + 2, 0, none⟩) l0.length l0.length) := (HO1.out (w.heap.size + 3) (by omega)).trans (boxed_next (by simp) 60 _).1
  have kK3 := (k3.alloc (.cells #[.slice A1 l1.length c1] 61)).alloc (.cells #[.func (.func gi) #[] lbi] 118)
  have kB := below_alloc (below_alloc (HB1.out w.heap.size (by omega) w (below_alloc (below_alloc (below_alloc (below_alloc (Below.refl _ _) _) _) _) _)) (.cells #[.slice A1 l1.length c1] 61)) (.cells #[.func (.func gi) #[] lbi] 118)
  rw [hz1]
  clear n4 k3 k1 d0 K0 HZ1 HB1 HO1 HG1 hmk
  revert n5 k4 kG kK0 kK1 kK3 kB
  generalize (W1.alloc (Obj.cells #[Value.slice A1 l1.length c1] 61)).alloc (Obj.cells #[Value.func (Fn.func gi) #[] lbi] 118) = W5
  rintro ⟨n5, hz5⟩ k4 kG kK0 kK1 kK3 kB
  gi_wp2
  refine range_sa (F := Fence.wide) (n := 10) rfl (by decide) (gf := 165) (lb := #[.pointer (some ⟨w.heap.size + 4, 0, none⟩), .pointer (some ⟨w.heap.size + 4 + 1, 0, none⟩)]) rfl trivial (enters_of Try.func165 (by kernel_rfl) rfl)
    (keptIter 9 (w.heap.size + 4) A1 c1 l1 gi lbi p (fun k => k < w.heap.size ∨ k = w.heap.size + 4 ∨ k = w.heap.size + 4 + 1) W5 (fun k hk => by omega) (by omega) (by omega) ?s2 k4 n5 (Kd.C_below HR1.out kB) egi ?hi) (fun h1 h2 k hk => (h2 k hk).trans (h1 k hk)) ?hkb (fun _ => rfl) ?hst
    (LaidI w (.slice (some ad) l0.length c0) (.slice A1 l1.length c1) l0) (fun _ _ _ => False) (laidI_own w _ _ l0 (by omega)) (fun s A B h e => by subst e; exact h) (fun c s A B row h _ _ => h) ?h0
    (fun x blk => { tmps := #[.agg #[.slice (some ad) l0.length c0, .slice A1 l1.length c1], .func (.func gi) #[] lbi, .pointer (some ⟨w.heap.size, 0, none⟩), undef, .pointer (some ⟨w.heap.size + 1, 0, none⟩), .pointer (some ⟨w.heap.size + 1 + 1 + 1, 0, none⟩), .pointer (some ⟨blk, 0, none⟩), .pointer (some ⟨w.heap.size, 0, none⟩), .slice (some ad) l0.length c0, .int .i64 l0.length, .slice (some ⟨w.heap.size + 1 + 1, 0, none⟩) l0.length l0.length, .slice (some ⟨w.heap.size + 1 + 1, 0, none⟩) l0.length l0.length, .pointer (some ⟨w.heap.size, 0, none⟩), .slice (some ad) l0.length c0, .int .i64 l0.length, .pointer (some ⟨w.heap.size, 1, none⟩), .slice A1 l1.length c1, .func (.func gi) #[] lbi, .func (.func 165) #[] #[.pointer (some ⟨w.heap.size + 4, 0, none⟩), .pointer (some ⟨w.heap.size + 4 + 1, 0, none⟩)], encW x, undef, undef, undef, undef, undef, undef, undef, undef], defers := [] }) (fun x => .cells #[.int .i64 x.f0, .string x.f1] 79) ?hka ?assign ?body ?done ?stop
  case s2 =>
    intro ad' e hl
    have := HR1.out
    rw [e] at this
    exact .inl (Kd.C_lt this hl (by decide))
  case hi =>
    intro W i hi hk
    exact HIS.out W i hi (fun k hlt => (hk k (.inl hlt)).trans (kB.block k hlt))
  case hkb =>
    rintro W l o' hl k hk
    exact World.putObj_heap_other (by omega)
  case hst =>
    rintro A B l o rfl ho hl
    exact ho
  case h0 => exact ⟨kK0, kK1, kG, kK3, kB, by omega⟩
  case hka =>
    rintro x W hW k hk
    exact Below.heap_alloc _ _ _ (by omega)
  case assign =>
    intro l x W K hK
    obtain ⟨y0, y1⟩ := x
    simp only [encW] at hK ⊢
    gi_wp2
    exact hK
  case body =>
    rintro l pre x W blk ⟨h1, h2, h3, h4, h5, h6⟩ hlen ⟨rest', hsp⟩ hbl hge
    have hx : x ∈ l1 := by
      have : x ∈ keptL p l1 0 := by rw [← hsp]; simp
      exact keptL_mem p l1 0 x this
    obtain ⟨y0, y1⟩ := x
    have hf := HF.out _ hx
    unfold fitsB at hf
    simp only [Bool.and_eq_true, decide_eq_true_eq] at hf
    obtain ⟨hf0, hf1, _⟩ := hf
    obtain ⟨m, rfl⟩ : ∃ m : Nat, y0 = (m : Int) := ⟨y0.toNat, by omega⟩
    have hm : m < l0.length := by omega
    have hlen2 : (layF l0 pre).length = l0.length := layF_length pre l0
    have d3 := h4.cell
    have e0 := (blk_cell hbl 0).trans (show _ = some (Value.int .i64 (m : Int)) from rfl)
    have e1 := (blk_cell hbl 1).trans (show _ = some (Value.string y1) from rfl)
    have g0 := (blk_cell h3 m).trans (show _ = some (Value.string ((layF l0 pre)[m]'(by omega))) by simp [List.getElem?_eq_getElem (show m < (layF l0 pre).length by omega)])
    have gf := blk_frozen h3 m
    generalize (layF l0 pre)[m]'(by omega) = z at g0
    have q1 : (m < l0.length) = True := eq_true hm
    have q2 : decide ((m : Int) < (l0.length : Int)) = true := decide_eq_true (by omega)
    have P1 := Aside0.mk h1
    have P2 := Aside0.mk h2
    have P3 := Aside0.mk h3
    have P4 := Aside0.mk h4
    have P6 := Aside0.mk h6
    have P7 := Aside0.mk hm
    clear h1 h2 h3 h4 h6 hbl hf1 hf0 hlen2 hx hsp hm
    simp only [encW]
    gi_wp2
    refine ⟨KeepsOthers.setCell _ _ _, fun k hk => Below.heap_setCell _ _ _ k (by rcases hk with hk | hk | hk <;> (show k ≠ w.heap.size + 2; omega)), blk_far P1.out (by show w.heap.size ≠ w.heap.size + 2; omega) _, blk_far P2.out (by show w.heap.size + 1 ≠ w.heap.size + 2; omega) _, ?_, (Below.heap_setCell _ _ _ (w.heap.size + 3) (by show w.heap.size + 3 ≠ w.heap.size + 2; omega)).trans P4.out, h5.setCell (p := ⟨w.heap.size + 2, m, none⟩) (by show w.heap.size ≤ w.heap.size + 2; omega) _, ?_⟩
    · rw [layF_snoc]
      refine blk_put P3.out m _ ?_
      simp
    · have : (W.setCell ⟨w.heap.size + 2, m, none⟩ (.string y1)).heap.size = W.heap.size := by simp [World.setCell]
      have h6 := P6.out
      rw [← this] at h6
      exact h6
  case done =>
    rintro D ys W hD rfl ⟨h1, h2, h3, h4, h5, h6⟩ hK
    have d3 := h4.cell
    have d20 := (blk_cell h2 0).trans (show _ = some (Value.slice none 0 0) from rfl)
    have d21 := (blk_cell h2 1).trans (show _ = some (Value.slice none 0 0) from rfl)
    have f20 := blk_frozen h2 0
    have f21 := blk_frozen h2 1
    have P2 := Aside0.mk h2
    have P3 := Aside0.mk h3
    have P6 := Aside0.mk h6
    clear h1 h2 h3 h4 h6
    gi_wp2
    have hz2 : ∀ (W : World) (q : Addr) (u : Value), (W.setCell q u).heap.size = W.heap.size := fun W q u => by simp [World.setCell]
    have k1 : ((W.setCell ⟨w.heap.size + 1, 0, none⟩ (.slice (some ⟨w.heap.size + 2, 0, none⟩) l0.length l0.length)).setCell ⟨w.heap.size + 1, 1, none⟩ (.slice none 0 0)).heap[w.heap.size + 1]? = some (.cells #[.slice (some ⟨w.heap.size + 2, 0, none⟩) l0.length l0.length, .slice none 0 0] 63 (0, 0)) :=
      blk_put (blk_put P2.out 0 _ rfl) 1 _ rfl
    have k2 := blk_far (p := ⟨w.heap.size + 1, 1, none⟩) (blk_far (p := ⟨w.heap.size + 1, 0, none⟩) P3.out (by show w.heap.size + 2 ≠ w.heap.size + 1; omega) (.slice (some ⟨w.heap.size + 2, 0, none⟩) l0.length l0.length)) (by show w.heap.size + 2 ≠ w.heap.size + 1; omega) (.slice none 0 0)
    have hk2 : ((W.setCell ⟨w.heap.size + 1, 0, none⟩ (.slice (some ⟨w.heap.size + 2, 0, none⟩) l0.length l0.length)).setCell ⟨w.heap.size + 1, 1, none⟩ (.slice none 0 0)).heap[D]? = some (.deferred (some [])) := (KeepsOthers.setCell _ _ _).same D _ ((KeepsOthers.setCell _ _ _).same D _ hK rfl) rfl
    have hB2 := (h5.setCell (p := ⟨w.heap.size + 1, 0, none⟩) (by show w.heap.size ≤ w.heap.size + 1; omega) (.slice (some ⟨w.heap.size + 2, 0, none⟩) l0.length l0.length)).setCell (p := ⟨w.heap.size + 1, 1, none⟩) (by show w.heap.size ≤ w.heap.size + 1; omega) (.slice none 0 0)
    refine laid_out rfl k1 (by omega) hk2 ?_
    have hll : (layF l0 (keptL p l1 0)).length = l0.length := layF_length _ _
    have k3 := (World.putObj_heap_other (r := D) (o := .deferred none) (by omega)).trans k2
    refine ⟨_, rfl, ?_, hB2.trans (belowK_b (w := W5) (by omega) _ D _ _ (by omega) hk2 rfl rfl)⟩
    refine Kd.R_of_own (enc := Value.string) ?_ (fun _ _ => trivial)
    refine ⟨by simp [encs], .inr ⟨w.heap.size + 2, l0.length, _, by rw [hll], by omega, k3, by omega, by have := HG.out; unfold maxLen; omega, by simp [hll], ?_⟩⟩
    rw [hll]
    simp only [encs, Nat.mul_one]
    exact List.take_of_length_le (by simp [hll])
  case stop =>
    rintro D c pre W hD hsp hf hK
    exact hf.elim
theorem results_c1 {P : Program} {fn : Func} {p : Tmp} {ty : TypeId} (h : fn.results = #[.cell p ty]) (tmps : Array Value) (w : World) (g : Nat) (t : TypeId) (cs : Array Value) (fr : Nat × Nat) (d : TypeDesc)
    (hp : tmps.getD p undef = .pointer (some ⟨g, 0, none⟩)) (hg : w.heap[g]? = some (.cells cs t fr))
    (hu : P.underlying ty = some d) (hd : (match d with | .struct _ | .array _ _ => true | _ => false) = true) (hi : (P.info? ty).map (·.size) = some cs.size) :
    (results fn tmps).run P w = .ok (.agg cs) w := by
  have hp' : tmps[p]?.getD undef = .pointer (some ⟨g, 0, none⟩) := by simpa using hp
  simp [results, h, hp', asAddr, run_loadVar_row w g t ty cs fr d hg hu hd hi]
theorem keptL_all (l : List S79) : ∀ i, keptL (fun _ => true) l i = l := by
  induction l with
  | nil => intro i; rfl
  | cons x l ih => intro i; rw [keptL, if_pos rfl, ih]
/-- May the writes be laid? -/
def layOk (b : List ByteArray) (l : List S79) : Bool := decide (0 < b.length) && (decide (b.length ≤ 1000000) && l.all (fitsB b.length))
theorem layOk_iff {b : List ByteArray} {l : List S79} (h : layOk b l = true) : 0 < b.length ∧ b.length ≤ 1000000 ∧ ∀ x ∈ l, fitsB b.length x = true := by
  unfold layOk at h
  simp only [Bool.and_eq_true, decide_eq_true_eq, List.all_eq_true] at h
  exact ⟨h.1, h.2.1, h.2.2⟩
def disk_Flush.f (l0_0 : List ByteArray) (l0_1 : List (S79)) : Option (List ByteArray × (List (S79))) := if layOk l0_0 l0_1 = true then some (layF l0_0 l0_1, []) else none
def disk_Crash.f (l0_0 : List ByteArray) (l0_1 : List (S79)) (l1 : List Bool) : Option (List ByteArray × (List (S79))) := if layOk l0_0 l0_1 = true then some (layF l0_0 (keptL (fun i => l1.getD i false) l0_1 0), []) else none
theorem laid_tail {w W3 : World} {base : Nat} {v : Value} {l : List ByteArray} {o1 : Nat} (hR : Kd.R Kd.string 9 W3 base (fun _ => True) v l) (h1 : w.heap.size ≤ base) (h2 : o1 < base) :
    Kd.R Kd.string 9 ((W3.setCell ⟨o1, 0, none⟩ v).setCell ⟨o1, 1, none⟩ (.slice none 0 0)) w.heap.size (fun _ => True) v l := by
  have h := Kd.R_bound hR
  have h3 := Kd.R_far (p := ⟨o1, 1, none⟩) (Kd.R_far (p := ⟨o1, 0, none⟩) h (fun k hk => by have := hk.2.1; show k ≠ o1; omega) v) (fun k hk => by have := hk.2.1; show k ≠ o1; omega) (.slice none 0 0)
  exact Kd.R_mono (Kd.R_lower h3 h1) (fun _ _ => trivial)
theorem C_same_bool {A : Option Addr} {n : Nat} {l : List Bool} {w W : World} (h : Kd.C Kd.bool w A n l) (hk : ∀ k, k < w.heap.size → W.heap[k]? = w.heap[k]?) : Kd.C Kd.bool W A n l := by
  refine ⟨h.1, h.2.1, fun hn => ?_⟩
  obtain ⟨ad, e, hc⟩ := h.2.2 hn
  refine ⟨ad, e, fun j p hj => ?_⟩
  obtain ⟨c, h1, h2, h3⟩ := hc j p hj
  have hlt : ad.block < w.heap.size := by rw [e] at h; exact Kd.C_lt h hn (by decide)
  refine ⟨c, h1, h2, fun i u hu => (cell_blk (p := ad.add (j * Kd.bool.sz + i)) (by rw [show (ad.add (j * Kd.bool.sz + i)).block = ad.block by unfold Addr.add; split <;> rfl]; exact hk _ hlt)).trans (h3 i u hu)⟩
set_option maxHeartbeats 4000000 in
theorem disk_Flush.calls (A0_0 : Option Addr) (c0_0 : Nat) (l0_0 : List ByteArray) (A0_1 : Option Addr) (c0_1 : Nat) (l0_1 : List (S79)) (r1 : List ByteArray) (r2 : List (S79)) (w : World) (hr0_0 : Kd.C Kd.string w A0_0 l0_0.length l0_0) (hc0_0 : l0_0.length ≤ c0_0) (hr0_1 : Kd.C k79 w A0_1 l0_1.length l0_1) (hc0_1 : l0_1.length ≤ c0_1) (h : disk_Flush.f l0_0 l0_1 = some (r1, r2)) :
    Calls Try.prog 48 #[.agg #[.slice A0_0 l0_0.length c0_0, .slice A0_1 l0_1.length c0_1]] w fun e w' => ∃ v0_ v1_ : Value, e = .returned (.agg #[v0_, v1_]) ∧ Kd.R Kd.string 9 w' w.heap.size (fun _ => True) v0_ r1 ∧ Kd.R k79 79 w' w.heap.size (fun _ => True) v1_ r2 ∧ Below w.heap.size w w' := by
  unfold disk_Flush.f at h
  by_cases hl : layOk l0_0 l0_1 = true
  · rw [if_pos hl] at h
    simp only [Option.some.injEq, Prod.mk.injEq] at h
    obtain ⟨rfl, rfl⟩ := h
    obtain ⟨h0, h1, h2⟩ := layOk_iff hl
    have HL := Aside0.mk (fun W h3 h4 => laid_walk A0_0 c0_0 l0_0 A0_1 c0_1 l0_1 94 #[] (fun _ => true) W h3 hc0_0 h4 hc0_1 h0 h1 h2 (Go.Proofs.enters_of Try.func94 (by kernel_rfl) rfl) (fun W i _ _ => flush1_walk i W))
    have HR0 := Aside0.mk hr0_0
    have HR1 := Aside0.mk hr0_1
    have hk := keptL_all l0_1 0
    rw [hk] at HL
    clear hk hr0_0 hr0_1 hc0_0 hc0_1 hl h0 h1 h2
    generalize layF l0_0 l0_1 = r at HL ⊢
    go_enter Try.func48, Try.ntmps48
    go_wp2_with (first | (go_at_call 93; (with_reducible refine (HL.out _ ?s1 ?s2).mono ?_); (case s1 => exact Kd.C_alloc (Kd.C_alloc HR0.out _) _); (case s2 => exact Kd.C_alloc (Kd.C_alloc HR1.out _) _); rintro e w3 ⟨v, rfl, hR, hb⟩; obtain ⟨Av, cv, rfl⟩ := Kd.R_slice hR; have BK1 := Aside0.mk (blk_below (g := w.heap.size + 1) (o := .cells #[.slice none 0 0, .slice none 0 0] 63 (0, 0)) (blk2 _ _ _) hb); have hx10 := (blk_cell BK1.out 0).trans (show _ = some (Value.slice none 0 0) from rfl); have hx11 := (blk_cell BK1.out 1).trans (show _ = some (Value.slice none 0 0) from rfl); have hf10 := blk_frozen BK1.out 0; have hf11 := blk_frozen BK1.out 1; have HRR := Aside0.mk hR; have HB := Aside0.mk (show Below w.heap.size w w3 from below_step (below_alloc (below_alloc (Below.refl _ _) _) _) hb); clear hb hR))
    refine bodyPost_ret (results_c1 rfl _ _ (w.heap.size + 1) 63 #[.slice Av r.length cv, .slice none 0 0] (0, 0) _ rfl (blk_put (blk_put BK1.out 0 _ rfl) 1 _ rfl) Try.underlying63 rfl (by kernel_rfl)) rfl ?_
    exact ⟨_, _, rfl, laid_tail HRR.out (by simp; omega) (by simp), Kd.R_nil _ _ _ _ _, below_setc (below_setc HB.out (Nat.le_succ _) 0 (.slice Av r.length cv)) (Nat.le_succ _) 1 (.slice none 0 0)⟩
  · rw [if_neg hl] at h; cases h
set_option maxHeartbeats 4000000 in
theorem disk_Crash.calls (A0_0 : Option Addr) (c0_0 : Nat) (l0_0 : List ByteArray) (A0_1 : Option Addr) (c0_1 : Nat) (l0_1 : List (S79)) (A1 : Option Addr) (c1 : Nat) (l1 : List Bool) (r1 : List ByteArray) (r2 : List (S79)) (w : World) (hr0_0 : Kd.C Kd.string w A0_0 l0_0.length l0_0) (hc0_0 : l0_0.length ≤ c0_0) (hr0_1 : Kd.C k79 w A0_1 l0_1.length l0_1) (hc0_1 : l0_1.length ≤ c0_1) (hr1 : Kd.C Kd.bool w A1 l1.length l1) (hc1 : l1.length ≤ c1) (h : disk_Crash.f l0_0 l0_1 l1 = some (r1, r2)) :
    Calls Try.prog 50 #[.agg #[.slice A0_0 l0_0.length c0_0, .slice A0_1 l0_1.length c0_1], .slice A1 l1.length c1] w fun e w' => ∃ v0_ v1_ : Value, e = .returned (.agg #[v0_, v1_]) ∧ Kd.R Kd.string 9 w' w.heap.size (fun _ => True) v0_ r1 ∧ Kd.R k79 79 w' w.heap.size (fun _ => True) v1_ r2 ∧ Below w.heap.size w w' := by
  unfold disk_Crash.f at h
  by_cases hl : layOk l0_0 l0_1 = true
  · rw [if_pos hl] at h
    simp only [Option.some.injEq, Prod.mk.injEq] at h
    obtain ⟨rfl, rfl⟩ := h
    obtain ⟨h0, h1, h2⟩ := layOk_iff hl
    have HL := Aside0.mk (fun (W : World) h3 h4 (hb : W.heap[w.heap.size + 1]? = some (.cells #[.slice A1 l1.length c1] 80 (0, 0))) (hC : Kd.C Kd.bool W A1 l1.length l1) => laid_walk A0_0 c0_0 l0_0 A0_1 c0_1 l0_1 95 #[.pointer (some ⟨w.heap.size + 1, 0, none⟩)] (fun i => l1.getD i false) W h3 hc0_0 h4 hc0_1 h0 h1 h2 (Go.Proofs.enters_of Try.func95 (by kernel_rfl) rfl)
      (fun W2 i _ hk => crash1_walk (w.heap.size + 1) A1 c1 l1 i W2 ((hk _ (Array.getElem?_eq_some_iff.1 hb).1).trans hb) (C_same_bool hC hk)))
    have HR0 := Aside0.mk hr0_0
    have HR1 := Aside0.mk hr0_1
    have HR2 := Aside0.mk hr1
    clear hr0_0 hr0_1 hc0_0 hc0_1 hl h0 h1 h2 hr1 hc1
    generalize layF l0_0 (keptL (fun i => l1.getD i false) l0_1 0) = r at HL ⊢
    go_enter Try.func50, Try.ntmps50
    go_wp2_with (first | (go_at_call 93; (with_reducible refine (HL.out _ ?s1 ?s2 ?s3 ?s4).mono ?_); (case s1 => exact Kd.C_alloc (Kd.C_alloc (Kd.C_alloc HR0.out _) _) _); (case s2 => exact Kd.C_alloc (Kd.C_alloc (Kd.C_alloc HR1.out _) _) _); (case s3 => exact blk_alloc (blk2 _ _ _) _); (case s4 => exact Kd.C_alloc (Kd.C_alloc (Kd.C_alloc HR2.out _) _) _); rintro e w3 ⟨v, rfl, hR, hb⟩; obtain ⟨Av, cv, rfl⟩ := Kd.R_slice hR; have BK1 := Aside0.mk (blk_below (g := w.heap.size + 1 + 1) (o := .cells #[.slice none 0 0, .slice none 0 0] 63 (0, 0)) (blk3 _ _ _ _) hb); have hx10 := (blk_cell BK1.out 0).trans (show _ = some (Value.slice none 0 0) from rfl); have hx11 := (blk_cell BK1.out 1).trans (show _ = some (Value.slice none 0 0) from rfl); have hf10 := blk_frozen BK1.out 0; have hf11 := blk_frozen BK1.out 1; have HRR := Aside0.mk hR; have HB := Aside0.mk (show Below w.heap.size w w3 from below_step (below_alloc (below_alloc (below_alloc (Below.refl _ _) _) _) _) hb); clear hb hR))
    refine bodyPost_ret (results_c1 rfl _ _ (w.heap.size + 1 + 1) 63 #[.slice Av r.length cv, .slice none 0 0] (0, 0) _ rfl (blk_put (blk_put BK1.out 0 _ rfl) 1 _ rfl) Try.underlying63 rfl (by kernel_rfl)) rfl ?_
    exact ⟨_, _, rfl, laid_tail HRR.out (by simp; omega) (by simp), Kd.R_nil _ _ _ _ _, below_setc (below_setc HB.out (by omega) 0 (.slice Av r.length cv)) (by omega) 1 (.slice none 0 0)⟩
  · rw [if_neg hl] at h; cases h
end Go.Proofs.Ytgjjcgemelafaaa.P
