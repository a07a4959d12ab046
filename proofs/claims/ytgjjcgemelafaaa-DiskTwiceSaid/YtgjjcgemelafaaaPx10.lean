-- By wip/tools/drive.py: the kit's print, with contracts of this session's own among the functions.
import Derived.Test.YtgjjcgemelafaaaPx0
import Derived.Test.YtgjjcgemelafaaaPx8
namespace Go.Proofs.Ytgjjcgemelafaaa.P
open Go.RowKit Go.Proofs.YtgjjcgemelafaaaW.PrintWords Go.Proofs.YtgjjcgemelafaaaW.PrintLast Go.Proofs.YtgjjcgemelafaaaW.PrintMore
attribute [local go_sem] max2_int min2_int max_two min_two max_three min_three max_four min_four   -- for this text's walks alone
set_option linter.unusedVariables false
set_option linter.unusedSimpArgs false
attribute [local go_sem] Oper.semAt_some
section
variable {F : Fence} {n : Nat} {P : Program}
/-- An iterator that stores into a variable of its own between two rounds: St says which turns of memory that is. -/
def SeqSt {α : Type} (F : Fence) (n : Nat) (P : Program) (g : Nat) (lb : Array Value) (encs : α → Array Value) (Kp St : World → World → Prop) (S Sp : List α → Prop) (N : Nat) (w : World) : Prop :=
  ∀ (l : Nat) (J Jx : List α → World → Prop) (W : World), Below w.heap.size w W → AbidesFrom W.heap.size J → AbidesFrom W.heap.size Jx → (∀ s A B, J s A → St A B → J s B) →
    (∀ pre x W1, J pre W1 → pre.length < N → Sp (pre ++ [x]) → YieldAt F (n - 1) P l (encs x) W1 fun e W' =>
      (e = .returned (.bool true) ∧ J (pre ++ [x]) W' ∧ Kp W1 W') ∨ (e = .returned (.bool false) ∧ Jx (pre ++ [x]) W')) →
    J [] W →
    CallsIn F n P g (#[.func (.yield l) #[] #[]] ++ lb) W fun e W' => (∃ v, e = .returned v) ∧ ((∃ xs, S xs ∧ J xs W') ∨ (∃ pre, Sp pre ∧ Jx pre W'))
end
theorem box_kept {W W' : World} {B t : Nat} {v : Value} (h : W.heap[B]? = some (.cells #[v] t (0, 0))) (e : W'.heap[B]? = W.heap[B]?) : W'.heap[B]? = some (.cells #[v] t (0, 0)) := e.trans h
theorem cell_blk {W W' : World} {p : Addr} (h : W'.heap[p.block]? = W.heap[p.block]?) : W'.cell? p = W.cell? p := by
  unfold World.cell?
  rw [h]
theorem C_blk79 {W W' : World} {A : Option Addr} {n : Nat} {xs : List S79} (h : Kd.C k79 W A n xs) (hb : 0 < n → ∀ ad, A = some ad → W'.heap[ad.block]? = W.heap[ad.block]?) : Kd.C k79 W' A n xs := by
  refine ⟨h.1, h.2.1, fun hn => ?_⟩
  obtain ⟨ad, e, hc⟩ := h.2.2 hn
  refine ⟨ad, e, fun j p hj => ?_⟩
  obtain ⟨c, h1, h2, h3⟩ := hc j p hj
  refine ⟨c, h1, ?_, fun i u hu => (cell_blk (p := ad.add (j * k79.sz + i)) (by rw [show (ad.add (j * k79.sz + i)).block = ad.block by unfold Addr.add; split <;> rfl]; exact hb hn ad e)).trans (h3 i u hu)⟩
  obtain rfl := k79_open h2
  exact k79_mk _ _
/-- What slices.Backward hands out of the first k. -/
def bwdN (l : List S79) : Nat → List (Int × S79)
  | 0 => []
  | k + 1 => ((k : Int), l.getD k z79) :: bwdN l k
def rowKp {α : Type} (Bs : Nat) (A1 : Option Addr) (l1 : List α) (A B : World) : Prop := ∀ k, (k = Bs ∨ (0 < l1.length ∧ ∃ ad, A1 = some ad ∧ k = ad.block)) → B.heap[k]? = A.heap[k]?
set_option maxHeartbeats 2000000 in
set_option maxRecDepth 100000 in
theorem backIter (n : Nat) (Bs : Nat) (A1 : Option Addr) (c1 : Nat) (l1 : List S79) (w : World) (hlt : Bs < w.heap.size)
    (c0 : w.heap[Bs]? = some (.cells #[.slice A1 l1.length c1] 61 (0, 0))) (hr1 : Kd.C k79 w A1 l1.length l1) :
    SeqSt Fence.wide n Try.prog 140 #[.pointer (some ⟨Bs, 0, none⟩)] (fun x : Int × S79 => #[.int .i64 x.1, encW x.2])
      (rowKp Bs A1 l1) (fun A B => B = A) (fun xs => xs = bwdN l1 l1.length) (fun xs => xs <+: bwdN l1 l1.length) l1.length w := by
  intro l J Jx W hb hJ hJx hJs hY h0
  have hro : Fence.wide.round = none := rfl
  have hmax := Kd.C_max hr1
  refine callsIn_of_wp Try.func140 rfl trivial ?_ hro
  simp only [Try.ntmps140, List.size_toArray, List.length_cons, List.length_nil, Nat.reduceAdd, Nat.reduceSub, Array.replicate_succ, Array.replicate_zero, List.push_toArray, List.append_toArray, List.nil_append, List.cons_append]
  have d0 := (blk_cell (box_kept c0 (hb.block Bs hlt)) 0).trans (show _ = some (Value.slice A1 l1.length c1) from rfl)
  have HR := Aside0.mk (Kd.C_below hr1 hb)
  gi_wp2
  gi_loopw [3] (fun v3 wr => ∃ (pre : List (Int × S79)) (k : Nat), v3 = .int .i64 ((k : Int) - 1) ∧ k ≤ l1.length ∧ bwdN l1 l1.length = pre ++ bwdN l1 k ∧ pre.length + k = l1.length ∧ J pre wr ∧ wr.heap[Bs]? = some (.cells #[.slice A1 l1.length c1] 61 (0, 0)) ∧ Aside0 (Kd.C k79 wr A1 l1.length l1))
    (fun v3 _ => ((intOf v3) + 1).toNat)
  case atStart =>
    exact ⟨[], l1.length, by first | rfl | (rw [show wrap64 ((l1.length : Int) - 1) = (l1.length : Int) - 1 by unfold wrap64; omega]), Nat.le_refl _, rfl, by simp, h0, box_kept c0 (hb.block Bs hlt), HR⟩
  case round =>
    clear HR d0
    obtain ⟨pre, k, rfl, hk, hp, hl, hj, a0, HR⟩ := hrel
    have d0 := (blk_cell a0 0).trans (show _ = some (Value.slice A1 l1.length c1) from rfl)
    have A0 := Aside0.mk a0
    clear a0
    cases k with
    | zero =>
      have hc : decide (0 ≤ ((0 : Nat) : Int) - 1) = false := decide_eq_false (by omega)
      have HP := Aside0.mk hp
      clear hp
      gi_wp2
      refine bodyPost_end (results_none rfl _ _ _) rfl ?_
      exact ⟨⟨_, rfl⟩, .inl ⟨pre, by rw [HP.out]; simp [bwdN], hj⟩⟩
    | succ k =>
      rw [show ((k + 1 : Nat) : Int) - 1 = (k : Int) by omega]
      have hlt : k < l1.length := by omega
      have q1 : (k < l1.length) = True := eq_true hlt
      have hc : decide (0 ≤ (k : Int)) = true := decide_eq_true (by omega)
      have hc2 : decide ((k : Int) < (l1.length : Int)) = true := decide_eq_true (by omega)
      obtain ⟨ad, e1, hx, hx2⟩ := at_T79 HR.out (k : Int) (by omega) (by omega)
      subst e1
      rw [Int.toNat_natCast, rd_nat79 _ _ hlt] at hx hx2
      obtain ⟨y, hy⟩ : ∃ y, y = l1[k] := ⟨_, rfl⟩
      rw [← hy] at hx hx2
      have hgd : l1.getD k z79 = y := by rw [hy, List.getD_eq_getElem?_getD, List.getElem?_eq_getElem hlt]; rfl
      have hp2 : bwdN l1 l1.length = (pre ++ [((k : Int), y)]) ++ bwdN l1 k := by rw [hp, bwdN, hgd]; simp
      obtain ⟨fn, tmps, assign, body, hyl, hRn⟩ := hY pre ((k : Int), y) wr hj (by omega) ⟨bwdN l1 k, hp2.symm⟩
      have HP := Aside0.mk hp2
      have HL := Aside0.mk hl
      have HT := Aside0.mk hlt
      have e2 : wrap64 ((k : Int) - 1) = (k : Int) - 1 := by unfold wrap64; omega
      clear hy hgd hp hp2 hl hk hlt
      replace hyl : (Instr.yield l #[.int .i64 (k : Int), .agg #[.int .i64 y.f0, .string y.f1]]).run Try.prog wr = _ := hyl
      gi_wp2_with fail
      refine ⟨(fun h => by cases h), ?_⟩
      refine hRn.mono ?_
      rintro e W3 (⟨rfl, hJ3, hk3⟩ | ⟨rfl, hJx3⟩)
      · have a0 := box_kept A0.out (hk3 Bs (.inl rfl))
        have HR3 := Aside0.mk (C_blk79 HR.out (fun hn ad' e' => hk3 ad'.block (.inr ⟨hn, ad', e', rfl⟩)))
        have A3 := Aside0.mk a0
        clear a0 hk3
        gi_wp2
        go_roundw
        case rel => exact ⟨pre ++ [((k : Int), y)], k, by first | rfl | rw [e2], by have := HT.out; omega, HP.out, by have := HL.out; simp; omega, hJ3, A3.out, HR3⟩
        case measure => simp [intOf]; omega
      · gi_wp2
        refine bodyPost_ret (results_none rfl _ _ _) rfl ?_
        exact ⟨⟨_, rfl⟩, .inr ⟨pre ++ [((k : Int), y)], ⟨bwdN l1 k, by rw [HP.out]⟩, hJx3⟩⟩
attribute [local go_sem] Oper.semAt_some
section
variable {F : Fence} {n : Nat} {P : Program}
theorem range_sa {α : Type} {g : Operand} {ps : Array Tmp} {assign body : Code} {Q : Exit → Act → World → Prop} {a : Act} {w : World}
    (hro : F.round = none) (h1 : 1 ≤ n) {gf : Nat} {lb : Array Value} (hg : a.eval g = .func (.func gf) #[] lb) (hFg : F.fn gf) (eg : ∀ args w, (callFunc gf args).run P w = .ok (.enter gf args) w)
    {encs : α → Array Value} {Kp St : World → World → Prop} {S Sp : List α → Prop} {N : Nat} (hseq : SeqSt F (n - 1) P gf lb encs Kp St S Sp N w)
    (hKt : ∀ {A B C : World}, Kp A B → Kp B C → Kp A C) (hKb : ∀ (W : World) (l : Nat) (o' : Obj), w.heap.size ≤ l → Kp W (W.putObj l o')) (hps : ∀ x, (encs x).size = ps.size)
    (hSt : ∀ {A B : World} {l : Nat} {o : Obj}, St A B → A.heap[l]? = some o → w.heap.size ≤ l → B.heap[l]? = some o)
    (I : List α → World → Prop) (Ix : Code → List α → World → Prop) (hI : OwnFrom w.heap.size I) (hIs : ∀ s A B, I s A → St A B → I s B) (hIx : ∀ c, OwnFrom w.heap.size (Ix c)) (h0 : I [] w) (a₁ : α → Nat → Act) (ob : α → Obj) (hKa : ∀ (x : α) (W : World), w.heap.size ≤ W.heap.size → Kp W (W.alloc (ob x)))
    (hassign : ∀ (l : Nat) (x : α) (W : World) (K : Act → World → Prop), K (a₁ x W.heap.size) (W.alloc (ob x)) →
      assign.wpIn (F.inRound l) (n - 1 - 1) P (Exit.then K (fun _ _ _ => False)) { tmps := (ps.zip (encs x)).foldl (fun t (p, v) => t.setIfInBounds p v) a.tmps, defers := [] } W)
    (hbody : ∀ (l : Nat) (pre : List α) (x : α) (W : World) (blk : Nat), I pre W → pre.length < N → Sp (pre ++ [x]) → W.heap[blk]? = some (ob x) → w.heap.size + 2 ≤ blk → body.wpIn (F.inRound l) (n - 1 - 1) P (ownPostK Kp I Ix (pre ++ [x]) W) (a₁ x blk) W)
    (hdone : ∀ (D : Nat) (xs : List α) (W : World), w.heap.size ≤ D → S xs → I xs W → W.heap[D]? = some (.deferred (some [])) → Q .normal { a with defers := { target := .collected D, args := #[] } :: a.defers } W)
    (hstop : ∀ (D : Nat) (c : Code) (pre : List α) (W : World), w.heap.size ≤ D → Sp pre → Ix c pre W → W.heap[D]? = some (.deferred (some [])) → c.wpIn F n P Q { a with defers := { target := .collected D, args := #[] } :: a.defers } W) :
    (Code.rangeFunc g ps assign body).wpIn F n P Q a w := by
  refine wpIn_rangeFunc fun fn hfn => ?_
  rw [hro]
  let rec_ : LoopState → Option Code → Loop := fun st pe => { state := st, pending := pe, fn, tmps := a.tmps, params := ps, assign, body, defers := w.heap.size }
  obtain ⟨rec, hrec⟩ : ∃ rec : LoopState → Option Code → Loop, rec = rec_ := ⟨_, rfl⟩
  obtain ⟨W1, hW1⟩ : ∃ W1, (w.alloc (.deferred (some []))).alloc (.loop (rec .ready none)) = W1 := ⟨_, rfl⟩
  have hL1 : W1.heap[w.heap.size + 1]? = some (.loop (rec .ready none)) := by
    rw [← hW1]; have := World.alloc_heap_new (w.alloc (.deferred (some []))) (.loop (rec .ready none)); rwa [World.size_alloc] at this
  have hK1 : W1.heap[w.heap.size]? = some (.deferred (some [])) := by
    rw [← hW1]; exact (Below.heap_alloc _ _ _ (by simp)).trans (World.alloc_heap_new w _)
  have hI1 : I [] W1 := by rw [← hW1]; exact hI.alloc _ (hI.alloc _ h0)
  have hb1 : Below w.heap.size w W1 := by rw [← hW1]; exact ((Below.refl _ w).alloc (Nat.le_refl _) _).alloc (by simp) _
  refine ⟨w.heap.size + 1, [{ target := .collected w.heap.size, args := #[] }], W1, { target := .fn (.func gf) lb, args := #[.func (.yield (w.heap.size + 1)) #[] #[]] }, W1, gf,
    #[.func (.yield (w.heap.size + 1)) #[] #[]] ++ lb, W1, ?_, ?_, ?_, ?_, fun _ => h1, ?_⟩
  · rw [← hW1, hrec]; exact run_enterLoop_outer _ _ _ _ _
  · simp only [resolve, hg]
    simp [go_sem]
  · intro f' hf'
    have e : gf = f' := by simpa [Target.leads] using hf'
    exact e ▸ hFg
  · simp [invoke, go_sem, eg]
  have hnc : ∀ {A : World} {row : Option Nat}, (∀ r, row = some r → W1.heap.size ≤ r ∧ ∃ o : Obj, A.heap[r]? = some o ∧ o.isWalk = true) → (∀ r, row = some r → w.heap.size ≤ r ∧ ∃ o : Obj, A.heap[r]? = some o ∧ o.isCells = false) := by
    intro A row hr r e
    obtain ⟨hB, o, ho, hw⟩ := hr r e
    exact ⟨Nat.le_trans hb1.size hB, o, ho, Obj.not_cells_of_walk hw⟩
  refine (hseq (w.heap.size + 1)
    (fun pre W => I pre W ∧ W.heap[w.heap.size + 1]? = some (.loop (rec .ready none)) ∧ W.heap[w.heap.size]? = some (.deferred (some [])))
    (fun pre W => ∃ c, Ix c pre W ∧ W.heap[w.heap.size + 1]? = some (.loop (rec .done (some c))) ∧ W.heap[w.heap.size]? = some (.deferred (some [])))
    W1 hb1 ?j1 ?j2 ?j3 ?round ⟨hI1, hL1, hK1⟩).mono ?behind
  case j1 =>
    intro s A B row hs hg' hr
    exact ⟨hI s A B row hs.1 hg' (hnc hr), (grownBy_keeps hg' (fun r e => (hr r e).2) hs.2.1 rfl).trans hs.2.1, (grownBy_keeps hg' (fun r e => (hr r e).2) hs.2.2 rfl).trans hs.2.2⟩
  case j2 =>
    rintro s A B row ⟨c, hc, hl, hk⟩ hg' hr
    exact ⟨c, hIx c s A B row hc hg' (hnc hr), (grownBy_keeps hg' (fun r e => (hr r e).2) hl rfl).trans hl, (grownBy_keeps hg' (fun r e => (hr r e).2) hk rfl).trans hk⟩
  case j3 => exact fun s A B hs hst => ⟨hIs s A B hs.1 hst, hSt hst hs.2.1 (by omega), hSt hst hs.2.2 (Nat.le_refl _)⟩
  case round =>
    rintro pre x W ⟨hi, hl, hk⟩ hlen hsp
    have hlt : w.heap.size + 1 < W.heap.size := (Array.getElem?_eq_some_iff.1 hl).1
    have hy := run_yield (P := P) (args := encs x) hl (by rw [hrec]; exact hps x)
    rw [hrec] at hy
    have hla := (Below.heap_alloc W (ob x) _ hlt).trans hl
    have hka := (Below.heap_alloc W (ob x) _ (by omega)).trans hk
    have hia : I pre (W.alloc (ob x)) := hI.alloc _ hi
    have hwa : Kp W (W.alloc (ob x)) := hKa x W (by omega)
    have hba : (W.alloc (ob x)).heap[W.heap.size]? = some (ob x) := World.alloc_heap_new W _
    refine ⟨fn, _, assign, body, hy, roundIn_of_wpIn hfn (hassign _ x W _ ⟨_, run_beginRound hla (by rw [hrec]), ?_⟩)⟩
    have hlt' : w.heap.size + 1 < (W.alloc (ob x)).heap.size := (Array.getElem?_eq_some_iff.1 hla).1
    obtain ⟨W2, hW2⟩ : ∃ W2, (W.alloc (ob x)).putObj (w.heap.size + 1) (.loop { rec .ready none with state := .busy }) = W2 := ⟨_, rfl⟩
    have hl2 : W2.heap[w.heap.size + 1]? = some (.loop { rec .ready none with state := .busy }) := by rw [← hW2]; exact World.putObj_heap_same hlt'
    have hk2 : W2.heap[w.heap.size]? = some (.deferred (some [])) := by rw [← hW2]; exact (World.putObj_heap_other (by omega)).trans hka
    have hb2 : W2.heap[W.heap.size]? = some (ob x) := by rw [← hW2]; exact (World.putObj_heap_other (by omega)).trans hba
    have hw2 : Kp W W2 := by rw [← hW2]; exact hKt hwa (hKb _ _ _ (by omega))
    have hi2 : I pre W2 := by rw [← hW2]; exact hI.putObj _ hia (by omega) hla rfl
    rw [hW2]
    refine wpIn_mono (hbody _ pre x _ W.heap.size hi2 hlen hsp hb2 (by omega)) ?_
    have fin : ∀ (jump : Option Code) (W3 : World), KeepsOthers W2 W3 →
        (Instr.endRound (w.heap.size + 1) jump).run P W3 = .ok (.bool jump.isNone) (W3.putObj (w.heap.size + 1) (.loop (rec (if jump.isNone then .ready else .done) jump))) ∧
        W3.heap[w.heap.size + 1]? = some (.loop { rec .ready none with state := .busy }) ∧
        (W3.putObj (w.heap.size + 1) (.loop (rec (if jump.isNone then .ready else .done) jump))).heap[w.heap.size + 1]? = some (.loop (rec (if jump.isNone then .ready else .done) jump)) ∧
        (W3.putObj (w.heap.size + 1) (.loop (rec (if jump.isNone then .ready else .done) jump))).heap[w.heap.size]? = some (.deferred (some [])) := by
      intro jump W3 hk3
      have hl3 := hk3.same _ _ hl2 rfl
      have := run_endRound (P := P) jump hl3
      rw [hrec] at this ⊢
      exact ⟨this, by rw [hrec] at hl3; exact hl3, World.putObj_heap_same (Array.getElem?_eq_some_iff.1 hl3).1, (World.putObj_heap_other (by omega)).trans (hk3.same _ _ hk2 rfl)⟩
    have out : ∀ (c : Code) (W3 : World), KeepsOthers W2 W3 → Ix c (pre ++ [x]) W3 → _ := fun c W3 hk3 hi3 => And.intro (fin (some c) W3 hk3) ((hIx c).putObj (.loop (rec .done (some c))) hi3 (by omega) (fin (some c) W3 hk3).2.1 rfl)
    rintro e a3 W3 hp
    cases e with
    | normal =>
      obtain ⟨hk3, hkp3, hi3⟩ := hp
      obtain ⟨hr, hl3, hl4, hk4⟩ := fin none W3 hk3
      exact ⟨_, _, hr, .inl ⟨rfl, ⟨hI.putObj _ hi3 (by omega) hl3 rfl, hl4, hk4⟩, hKt (hKt hw2 hkp3) (hKb _ _ _ (by omega))⟩⟩
    | ret =>
      obtain ⟨⟨hr, _, hl4, hk4⟩, hi4⟩ := out .ret W3 hp.1 hp.2
      exact ⟨_, _, hr, .inr ⟨rfl, .ret, hi4, hl4, hk4⟩⟩
    | exit id =>
      obtain ⟨⟨hr, _, hl4, hk4⟩, hi4⟩ := out (.exit id) W3 hp.1 hp.2
      exact ⟨_, _, hr, .inr ⟨rfl, .exit id, hi4, hl4, hk4⟩⟩
    | goto t =>
      obtain ⟨⟨hr, _, hl4, hk4⟩, hi4⟩ := out (.goto t) W3 hp.1 hp.2
      exact ⟨_, _, hr, .inr ⟨rfl, .goto t, hi4, hl4, hk4⟩⟩
    | panic ch => exact hp.elim
    | outgrown => exact hp.elim
  case behind =>
    rintro e W2 ⟨⟨v, rfl⟩, (⟨xs, hS, hi, hl, hk⟩ | ⟨pre, hSp, c, hi, hl, hk⟩)⟩
    · have he := run_endLoop (P := P) hl (by rw [hrec]; simp [rec_])
      rw [hrec] at he
      exact ⟨none, _, he, hdone _ xs _ (Nat.le_refl _) hS (hI.putObj _ hi (by omega) hl rfl) ((World.putObj_heap_other (by omega)).trans hk)⟩
    · have he := run_endLoop (P := P) hl (by rw [hrec]; simp [rec_])
      rw [hrec] at he
      exact ⟨some c, _, he, hstop _ c pre _ (Nat.le_refl _) hSp ((hIx c).putObj _ hi (by omega) hl rfl) ((World.putObj_heap_other (by omega)).trans hk)⟩
end
attribute [local go_sem] Oper.semAt_some
theorem boxed_next {W : World} {n : Nat} (hz : W.heap.size = n) (t : TypeId) (v : Value) : Boxed (W.alloc (.cells #[v] t)) n t v ∧ (W.alloc (.cells #[v] t)).heap.size = n + 1 := by
  subst hz
  exact ⟨Boxed.new W t v, World.size_alloc _ _⟩
theorem read_out {tmps : Array Value} {b : Nat} {s : ByteArray} {r : Int} {W : World} {R : Ending → World → Prop} (h2 : tmps[4]?.getD undef = .pointer (some ⟨b, 0, none⟩)) (h3 : tmps[5]?.getD undef = .pointer (some ⟨b + 1, 0, none⟩))
    (c2 : Boxed W b 9 (.string s)) (c3 : Boxed W (b + 1) 32 (.int .i64 r)) (hR : R (.returned (.tuple #[.string s, .int .i64 r])) W) : bodyPostM Fence.wide 10 Try.prog Try.f40 R .ret { tmps := tmps, defers := [] } W := by
  have c2 := c2.cell
  have c3 := c3.cell
  unfold bodyPostM LeavesInM
  refine ⟨_, ?_, hR⟩
  simp [results, go_sem, h2, h3, c2, c3]
theorem read_out2 {tmps : Array Value} {b D : Nat} {s : ByteArray} {r : Int} {W : World} {R : Ending → World → Prop} (h2 : tmps[4]?.getD undef = .pointer (some ⟨b, 0, none⟩)) (h3 : tmps[5]?.getD undef = .pointer (some ⟨b + 1, 0, none⟩))
    (c2 : Boxed W b 9 (.string s)) (c3 : Boxed W (b + 1) 32 (.int .i64 r)) (hD : b + 1 < D) (hK : W.heap[D]? = some (.deferred (some []))) (hR : R (.returned (.tuple #[.string s, .int .i64 r])) (W.putObj D (.deferred none))) :
    bodyPostM Fence.wide 10 Try.prog Try.f40 R .ret { tmps := tmps, defers := [{ target := .collected D, args := #[] }] } W := by
  have c2 : Boxed (W.putObj D (.deferred none)) b 9 (.string s) := (World.putObj_heap_other (by omega)).trans c2
  have c3 : Boxed (W.putObj D (.deferred none)) (b + 1) 32 (.int .i64 r) := (World.putObj_heap_other (by omega)).trans c3
  have c2 := c2.cell
  have c3 := c3.cell
  unfold bodyPostM LeavesInM
  refine ⟨by simp, .inl ⟨D, _, rfl, run_takeDeferred hK, ?_⟩⟩
  unfold LeavesInM
  refine ⟨_, ?_, hR⟩
  simp [results, go_sem, h2, h3, c2, c3]
/-- What was written to a block last, of the first k writes. -/
def lastN (l : List S79) (a : Int) : Nat → Option ByteArray
  | 0 => none
  | k + 1 => if (l.getD k z79).f0 = a then some (l.getD k z79).f1 else lastN l a k
theorem lastN_pre (l : List S79) (a : Int) : ∀ (k : Nat) (pre : List (Int × S79)) (rest : List (Int × S79)), bwdN l k = pre ++ rest → (∀ y ∈ pre, y.2.f0 ≠ a) → ∀ (x : Int × S79) (rest' : List (Int × S79)), rest = x :: rest' → x.2.f0 = a → lastN l a k = some x.2.f1
  | 0, pre, rest, h, hp, x, rest', hr, hx => by subst hr; simp [bwdN] at h
  | k + 1, [], rest, h, hp, x, rest', hr, hx => by
    subst hr
    simp only [bwdN, List.nil_append, List.cons.injEq] at h
    obtain ⟨rfl, _⟩ := h
    simp only [lastN]
    rw [if_pos hx]
  | k + 1, y :: pre, rest, h, hp, x, rest', hr, hx => by
    simp only [bwdN, List.cons_append, List.cons.injEq] at h
    obtain ⟨rfl, h2⟩ := h
    simp only [lastN]
    rw [if_neg (show ¬ (l.getD k z79).f0 = a from hp ((k : Int), l.getD k z79) (by simp))]
    exact lastN_pre l a k pre rest h2 (fun z hz => hp z (by simp [hz])) x rest' hr hx
theorem lastN_none (l : List S79) (a : Int) : ∀ (k : Nat), (∀ y ∈ bwdN l k, y.2.f0 ≠ a) → lastN l a k = none
  | 0, _ => rfl
  | k + 1, h => by
    simp only [lastN]
    rw [if_neg (show ¬ (l.getD k z79).f0 = a from h ((k : Int), l.getD k z79) (by simp [bwdN]))]
    exact lastN_none l a k (fun y hy => h y (by simp [bwdN, hy]))
def readF (b : List ByteArray) (l : List S79) (a : Int) : ByteArray × Int :=
  if 0 ≤ a ∧ a < b.length then ((lastN l a l.length).getD (rdOf ByteArray.empty b a), 0) else (⟨#[]⟩, 1)
def ReadB (w : World) (A0 : Option Addr) (c0 : Nat) (l0 : List ByteArray) (A1 : Option Addr) (c1 : Nat) (l1 : List S79) (a : Int) (W : World) : Prop :=
  W.heap[w.heap.size]? = some (.cells #[.slice A0 l0.length c0, .slice A1 l1.length c1] 63 (0, 0)) ∧ Boxed W (w.heap.size + 1) 3 (.int .i64 a) ∧ Below w.heap.size w W ∧ w.heap.size + 5 ≤ W.heap.size
def ReadI (w : World) (A0 : Option Addr) (c0 : Nat) (l0 : List ByteArray) (A1 : Option Addr) (c1 : Nat) (l1 : List S79) (a : Int) (pre : List (Int × S79)) (W : World) : Prop :=
  ReadB w A0 c0 l0 A1 c1 l1 a W ∧ Boxed W (w.heap.size + 2) 9 (.string ⟨#[]⟩) ∧ Boxed W (w.heap.size + 3) 32 (.int .i64 0) ∧ ∀ y ∈ pre, y.2.f0 ≠ a
def ReadX (w : World) (A0 : Option Addr) (c0 : Nat) (l0 : List ByteArray) (A1 : Option Addr) (c1 : Nat) (l1 : List S79) (a : Int) (c : Code) (pre : List (Int × S79)) (W : World) : Prop :=
  c = .ret ∧ ReadB w A0 c0 l0 A1 c1 l1 a W ∧ ∃ (p : List (Int × S79)) (x : Int × S79), pre = p ++ [x] ∧ (∀ y ∈ p, y.2.f0 ≠ a) ∧ x.2.f0 = a ∧ Boxed W (w.heap.size + 2) 9 (.string x.2.f1) ∧ Boxed W (w.heap.size + 3) 32 (.int .i64 0)
theorem readB_own {w : World} {A0 : Option Addr} {c0 : Nat} {l0 : List ByteArray} {A1 : Option Addr} {c1 : Nat} {l1 : List S79} {a : Int} {W W' : World} {row : Option Nat} (h : ReadB w A0 c0 l0 A1 c1 l1 a W) (hg : W.grownBy W' row) (hr : ∀ r, row = some r → w.heap.size + 5 ≤ r) : ReadB w A0 c0 l0 A1 c1 l1 a W' := by
  obtain ⟨h1, h2, h3, h4⟩ := h
  refine ⟨blk_grown h1 hg (fun e => by have := hr _ e.symm; omega), h2.kept hg (fun e => by have := hr _ e.symm; omega), h3.grown hg h3.size (fun k e => by have := hr k e; omega), by have := hg.size; omega⟩
theorem readI_own (w : World) (A0 : Option Addr) (c0 : Nat) (l0 : List ByteArray) (A1 : Option Addr) (c1 : Nat) (l1 : List S79) (a : Int) {B : Nat} (hB : w.heap.size + 5 = B) : OwnFrom B (ReadI w A0 c0 l0 A1 c1 l1 a) := by
  rintro pre W W' row ⟨h1, h2, h3, h4⟩ hg hr
  exact ⟨readB_own h1 hg (fun r e => by have := (hr r e).1; omega), h2.kept hg (fun e => by have := (hr _ e.symm).1; omega), h3.kept hg (fun e => by have := (hr _ e.symm).1; omega), h4⟩
theorem readX_own (w : World) (A0 : Option Addr) (c0 : Nat) (l0 : List ByteArray) (A1 : Option Addr) (c1 : Nat) (l1 : List S79) (a : Int) (c : Code) {B : Nat} (hB : w.heap.size + 5 = B) : OwnFrom B (ReadX w A0 c0 l0 A1 c1 l1 a c) := by
  rintro pre W W' row ⟨hc, h1, p, x, h5, h6, h7, h2, h3⟩ hg hr
  exact ⟨hc, readB_own h1 hg (fun r e => by have := (hr r e).1; omega), p, x, h5, h6, h7, h2.kept hg (fun e => by have := (hr _ e.symm).1; omega), h3.kept hg (fun e => by have := (hr _ e.symm).1; omega)⟩
theorem backward_walk (A : Option Addr) (n c : Nat) (w : World) : Calls Try.prog 89 #[.slice A n c] w fun e w' => e = .returned (.func (.func 140) #[] #[.pointer (some ⟨w.heap.size, 0, none⟩)]) ∧ w' = w.alloc (.cells #[.slice A n c] 61) := by
  go_enter Try.func89, Try.ntmps89
  go_wp2
  go_ret
  exact ⟨rfl, rfl⟩
theorem read4 (w : World) (v0 v1 : Value) (a : Int) : ∃ W, ((((w.alloc (.cells #[v0, v1] 63)).alloc (.cells #[.int .i64 a] 3)).alloc (.cells #[.string ⟨#[]⟩] 9)).alloc (.cells #[.int .i64 0] 32)) = W ∧ W.heap[w.heap.size]? = some (.cells #[v0, v1] 63 (0, 0)) ∧ Boxed W (w.heap.size + 1) 3 (.int .i64 a) ∧ Boxed W (w.heap.size + 2) 9 (.string ⟨#[]⟩) ∧ Boxed W (w.heap.size + 3) 32 (.int .i64 0) ∧ Below w.heap.size w W ∧ W.heap.size = w.heap.size + 4 := by
  refine ⟨_, rfl, blk_alloc (blk_alloc (blk_alloc (blk_new _ _) _) _) _, ?_, ?_, ?_, below_alloc (below_alloc (below_alloc (below_alloc (Below.refl _ _) _) _) _) _, by simp⟩
  · exact ((boxed_next (by simp) 3 (.int .i64 a)).1.alloc _).alloc _
  · exact (boxed_next (by simp) 9 (.string ⟨#[]⟩)).1.alloc _
  · exact (boxed_next (by simp) 32 (.int .i64 0)).1
set_option maxHeartbeats 2000000 in
set_option maxRecDepth 100000 in
theorem read_bad (A0 : Option Addr) (c0 : Nat) (l0 : List ByteArray) (A1 : Option Addr) (c1 : Nat) (l1 : List S79) (a : Int) (w : World) (hbad : ¬ (0 ≤ a ∧ a < l0.length)) :
    Calls Try.prog 40 #[.agg #[.slice A0 l0.length c0, .slice A1 l1.length c1], .int .i64 a] w fun e w' => e = .returned (.tuple #[.string ⟨#[]⟩, .int .i64 1]) ∧ Below w.heap.size w w' := by
  refine (callsIn_wide (n := 10)).1 ?_
  refine callsIn_of_wp_marks Try.func40 rfl trivial ?_ rfl
  simp only [Try.ntmps40, List.size_toArray, List.length_cons, List.length_nil, Nat.reduceAdd, Nat.reduceSub, Array.replicate_succ, Array.replicate_zero, List.push_toArray, List.append_toArray, List.nil_append, List.cons_append]
  by_cases h1 : a < 0
  · have b1 : decide (a < 0) = true := decide_eq_true h1
    clear hbad h1
    gi_wp2
    exact read_out (b := w.heap.size + 1 + 1) rfl rfl ((boxed_next (by simp) 9 (.string ⟨#[]⟩)).1.alloc _) (boxed_next (by simp) 32 (.int .i64 1)).1 ⟨rfl, below_alloc (below_alloc (below_alloc (below_alloc (Below.refl _ _) _) _) _) _⟩
  · have b1 : decide (a < 0) = false := decide_eq_false h1
    have b2 : decide ((l0.length : Int) ≤ a) = true := decide_eq_true (by omega)
    clear hbad h1
    gi_wp2
    exact read_out (b := w.heap.size + 1 + 1) rfl rfl ((boxed_next (by simp) 9 (.string ⟨#[]⟩)).1.alloc _) (boxed_next (by simp) 32 (.int .i64 1)).1 ⟨rfl, below_alloc (below_alloc (below_alloc (below_alloc (Below.refl _ _) _) _) _) _⟩
set_option maxHeartbeats 4000000 in
set_option maxRecDepth 100000 in
theorem read_good (A0 : Option Addr) (c0 : Nat) (l0 : List ByteArray) (A1 : Option Addr) (c1 : Nat) (l1 : List S79) (a : Int) (w : World) (hr0 : Kd.C Kd.string w A0 l0.length l0) (hc0 : l0.length ≤ c0) (hr1 : Kd.C k79 w A1 l1.length l1) (hc1 : l1.length ≤ c1) (h0 : 0 ≤ a) (h1 : a < l0.length) :
    Calls Try.prog 40 #[.agg #[.slice A0 l0.length c0, .slice A1 l1.length c1], .int .i64 a] w fun e w' => e = .returned (.tuple #[.string ((lastN l1 a l1.length).getD (rdOf ByteArray.empty l0 a)), .int .i64 0]) ∧ Below w.heap.size w w' := by
  obtain ⟨res, hres⟩ : ∃ res, (lastN l1 a l1.length).getD (rdOf ByteArray.empty l0 a) = res := ⟨_, rfl⟩
  rw [hres]
  have HRES := Aside0.mk hres
  clear hres
  refine (callsIn_wide (n := 10)).1 ?_
  refine callsIn_of_wp_marks Try.func40 rfl trivial ?_ rfl
  simp only [Try.ntmps40, List.size_toArray, List.length_cons, List.length_nil, Nat.reduceAdd, Nat.reduceSub, Array.replicate_succ, Array.replicate_zero, List.push_toArray, List.append_toArray, List.nil_append, List.cons_append]
  have b1 : decide (a < 0) = false := decide_eq_false (by omega)
  have b2 : decide ((l0.length : Int) ≤ a) = false := decide_eq_false (by omega)
  have HR0 := Aside0.mk hr0
  have HR1 := Aside0.mk hr1
  have H0 := Aside0.mk h0
  have H1 := Aside0.mk h1
  have HC0 := Aside0.mk hc0
  clear hr0 hr1 hc0 hc1 h0 h1
  gi_wp2_with fail
  refine ⟨trivial, ?_⟩
  refine (callsIn_wide.2 (backward_walk A1 l1.length c1 _)).mono ?_
  rintro e w2 ⟨rfl, rfl⟩
  obtain ⟨W, hW, g0, g1, g2, g3, gB, gz⟩ := read4 w (.slice A0 l0.length c0) (.slice A1 l1.length c1) a
  rw [hW]
  clear hW
  have k0 := blk_alloc g0 (.cells #[.slice A1 l1.length c1] 61)
  have k1 := g1.alloc (.cells #[.slice A1 l1.length c1] 61)
  have k2 := g2.alloc (.cells #[.slice A1 l1.length c1] 61)
  have k3 := g3.alloc (.cells #[.slice A1 l1.length c1] 61)
  have k4 := boxed_next gz 61 (.slice A1 l1.length c1)
  have kB := below_alloc gB (.cells #[.slice A1 l1.length c1] 61)
  rw [gz]
  clear g0 g1 g2 g3 gB gz
  revert k0 k1 k2 k3 k4 kB
  generalize W.alloc (.cells #[.slice A1 l1.length c1] 61) = W5
  intro k0 k1 k2 k3 k4 kB
  have hrow : ∀ ad, A1 = some ad → 0 < l1.length → ad.block < w.heap.size := fun ad e hn => by
    have := HR1.out
    rw [e] at this
    exact Kd.C_lt this hn (by decide)
  gi_wp2
  refine range_sa (F := Fence.wide) (n := 10) rfl (by decide) (gf := 140) (lb := #[.pointer (some ⟨w.heap.size + 4, 0, none⟩)]) rfl trivial (enters_of Try.func140 (by kernel_rfl) rfl)
    (backIter 9 (w.heap.size + 4) A1 c1 l1 W5 (by omega) k4.1 (Kd.C_below HR1.out kB)) (fun h1 h2 k hk => (h2 k hk).trans (h1 k hk)) ?hkb (fun _ => rfl) ?hst (ReadI w A0 c0 l0 A1 c1 l1 a) (ReadX w A0 c0 l0 A1 c1 l1 a) (readI_own w A0 c0 l0 A1 c1 l1 a k4.2.symm) (fun s A B h e => by subst e; exact h) (fun c => readX_own w A0 c0 l0 A1 c1 l1 a c k4.2.symm) ?h0
    (fun x blk => { tmps := #[.agg #[.slice A0 l0.length c0, .slice A1 l1.length c1], .int .i64 a, .pointer (some ⟨w.heap.size, 0, none⟩), .pointer (some ⟨w.heap.size + 1, 0, none⟩), .pointer (some ⟨w.heap.size + 1 + 1, 0, none⟩), .pointer (some ⟨w.heap.size + 1 + 1 + 1, 0, none⟩), undef, .pointer (some ⟨blk, 0, none⟩), .int .i64 a, .bool false, .bool false, .int .i64 a, .pointer (some ⟨w.heap.size, 0, none⟩), .slice A0 l0.length c0, .int .i64 l0.length, .bool false, .bool false, .pointer (some ⟨w.heap.size, 1, none⟩), .slice A1 l1.length c1, .func (.func 140) #[] #[.pointer (some ⟨w.heap.size + 4, 0, none⟩)], .int .i64 x.1, encW x.2, undef, undef, undef, undef, undef, undef, undef, undef, undef, undef, undef], defers := [] }) (fun x => .cells #[.int .i64 x.2.f0, .string x.2.f1] 79) ?hka ?assign ?body ?done ?stop
  case hkb =>
    rintro W l o' hl k (rfl | ⟨hn, ad, e, rfl⟩)
    · exact World.putObj_heap_other (by omega)
    · exact World.putObj_heap_other (by have := hrow ad e hn; omega)
  case hst =>
    rintro A B l o rfl ho hl
    exact ho
  case h0 => exact ⟨⟨k0, k1, kB, by rw [k4.2]; omega⟩, k2, k3, fun y hy => absurd hy (by simp)⟩
  case hka =>
    rintro x W hW k (rfl | ⟨hn, ad, e, rfl⟩)
    · exact Below.heap_alloc _ _ _ (by omega)
    · exact Below.heap_alloc _ _ _ (by have := hrow ad e hn; omega)
  case assign =>
    intro l x W K hK
    obtain ⟨i, y0, y1⟩ := x
    simp only [encW] at hK ⊢
    gi_wp2
    exact hK
  case body =>
    rintro l pre x W blk ⟨⟨h1, h2, h3, h4⟩, h5, h6, h7⟩ _ _ hbl hge
    obtain ⟨i, y0, y1⟩ := x
    have d1 := h2.cell
    have e0 := (blk_cell hbl 0).trans (show _ = some (Value.int .i64 y0) from rfl)
    have e1 := (blk_cell hbl 1).trans (show _ = some (Value.string y1) from rfl)
    have f2 := h5.frozen
    have f3 := h6.frozen
    have d2 := h5.cell
    have d3 := h6.cell
    have P1 := Aside0.mk h1
    have P2 := Aside0.mk h2
    have P5 := Aside0.mk h5
    have P6 := Aside0.mk h6
    have P7 := Aside0.mk h7
    clear h1 h2 h5 h6 h7 hbl
    simp only [encW]
    by_cases he : y0 = a
    · have heb : (y0 == a) = true := beq_iff_eq.mpr he
      have HE := Aside0.mk he
      clear he
      gi_wp2
      refine ⟨(KeepsOthers.setCell _ _ _).trans (KeepsOthers.setCell _ _ _), rfl, ⟨blk_far (blk_far P1.out (by show w.heap.size ≠ w.heap.size + 1 + 1; omega) _) (by show w.heap.size ≠ w.heap.size + 1 + 1 + 1; omega) _, (P2.out.other (by omega) _).other (by omega) _, (h3.setCell (p := ⟨w.heap.size + 1 + 1, 0, none⟩) (by show w.heap.size ≤ w.heap.size + 1 + 1; omega) _).setCell (p := ⟨w.heap.size + 1 + 1 + 1, 0, none⟩) (by show w.heap.size ≤ w.heap.size + 1 + 1 + 1; omega) _, ?_⟩, pre, (i, ⟨y0, y1⟩), rfl, P7.out, HE.out, Boxed.other (P5.out.set _) (by omega) _, (P6.out.other (by omega) _).set _⟩
      have z1 := (grownBy_setCell' W (w.heap.size + 1 + 1) (.string y1)).size
      have z2 := (grownBy_setCell' (W.setCell ⟨w.heap.size + 1 + 1, 0, none⟩ (.string y1)) (w.heap.size + 1 + 1 + 1) (.int .i64 0)).size
      omega
    · have heb : (y0 == a) = false := beq_eq_false_iff_ne.mpr he
      have HE := Aside0.mk he
      clear he
      gi_wp2
      refine ⟨KeepsOthers.refl _, fun k _ => rfl, ⟨P1.out, P2.out, h3, h4⟩, P5.out, P6.out, fun y hy => ?_⟩
      rcases List.mem_append.1 hy with hy | hy
      · exact P7.out y hy
      · obtain rfl := List.mem_singleton.1 hy
        exact HE.out
  case done =>
    rintro D ys W hD rfl ⟨⟨h1, h2, h3, h4⟩, h5, h6, h7⟩ hK
    have hl := HRES.out
    rw [lastN_none l1 a l1.length h7] at hl
    replace hl : rdOf ByteArray.empty l0 a = res := hl
    subst hl
    have d0 := (blk_cell h1 0).trans (show _ = some (Value.slice A0 l0.length c0) from rfl)
    have d1 := h2.cell
    have d2 := h5.cell
    have d3 := h6.cell
    have f2 := h5.frozen
    have f3 := h6.frozen
    obtain ⟨ad, e1, hx⟩ := Kd.at_string (Kd.C_below HR0.out h3) a H0.out H1.out
    subst e1
    have p1 : (0 ≤ a) = True := eq_true H0.out
    have p2 : (a < (l0.length : Int)) = True := eq_true H1.out
    have P5 := Aside0.mk h5
    have P6 := Aside0.mk h6
    clear h1 h2 h5 h6 h7
    gi_wp2
    have hk2 : ((W.setCell ⟨w.heap.size + 1 + 1, 0, none⟩ (.string (rdOf ByteArray.empty l0 a))).setCell ⟨w.heap.size + 1 + 1 + 1, 0, none⟩ (.int .i64 0)).heap[D]? = some (.deferred (some [])) := (KeepsOthers.setCell _ _ _).same D _ ((KeepsOthers.setCell _ _ _).same D _ hK rfl) rfl
    refine read_out2 (b := w.heap.size + 1 + 1) rfl rfl (Boxed.other (P5.out.set _) (by omega) _) ((P6.out.other (by omega) _).set _) (by omega) hk2 ⟨rfl, ?_⟩
    have hB2 := (h3.setCell (p := ⟨w.heap.size + 1 + 1, 0, none⟩) (by show w.heap.size ≤ w.heap.size + 1 + 1; omega) (.string (rdOf ByteArray.empty l0 a))).setCell (p := ⟨w.heap.size + 1 + 1 + 1, 0, none⟩) (by show w.heap.size ≤ w.heap.size + 1 + 1 + 1; omega) (.int .i64 0)
    exact hB2.trans (belowK_b (w := W5) (by omega) _ D _ _ (by omega) hk2 rfl rfl)
  case stop =>
    rintro D c pre W hD ⟨rest', hsp⟩ ⟨rfl, ⟨h1, h2, h3, h4⟩, p, x, rfl, h5, h6, h7, h8⟩ hK
    have hl := HRES.out
    rw [lastN_pre l1 a l1.length p ([x] ++ rest') (by rw [← hsp]; simp) h5 x rest' rfl h6] at hl
    replace hl : x.2.f1 = res := hl
    subst hl
    gi_wp2
    exact read_out2 (b := w.heap.size + 2) rfl rfl h7 h8 (by omega) hK ⟨rfl, h3.trans (belowK_b (w := W5) (by omega) W D _ _ (by omega) hK rfl rfl)⟩
/-- disk.Read. -/
theorem read_walk (A0 : Option Addr) (c0 : Nat) (l0 : List ByteArray) (A1 : Option Addr) (c1 : Nat) (l1 : List S79) (a : Int) (w : World) (hr0 : Kd.C Kd.string w A0 l0.length l0) (hc0 : l0.length ≤ c0) (hr1 : Kd.C k79 w A1 l1.length l1) (hc1 : l1.length ≤ c1) :
    Calls Try.prog 40 #[.agg #[.slice A0 l0.length c0, .slice A1 l1.length c1], .int .i64 a] w fun e w' => e = .returned (.tuple #[.string (readF l0 l1 a).1, .int .i64 (readF l0 l1 a).2]) ∧ Below w.heap.size w w' := by
  unfold readF
  by_cases h : 0 ≤ a ∧ a < (l0.length : Int)
  · rw [if_pos h]
    exact read_good A0 c0 l0 A1 c1 l1 a w hr0 hc0 hr1 hc1 h.1 h.2
  · rw [if_neg h]
    exact read_bad A0 c0 l0 A1 c1 l1 a w h
def disk_Read.f (l0_0 : List ByteArray) (l0_1 : List (S79)) (a1 : Int) : Option (ByteArray × Int) := some (readF l0_0 l0_1 a1)
theorem disk_Read.calls (A0_0 : Option Addr) (c0_0 : Nat) (l0_0 : List ByteArray) (A0_1 : Option Addr) (c0_1 : Nat) (l0_1 : List (S79)) (a1 : Int) (r1 : ByteArray) (r2 : Int) (w : World) (hr0_0 : Kd.C Kd.string w A0_0 l0_0.length l0_0) (hc0_0 : l0_0.length ≤ c0_0) (hr0_1 : Kd.C k79 w A0_1 l0_1.length l0_1) (hc0_1 : l0_1.length ≤ c0_1) (h : disk_Read.f l0_0 l0_1 a1 = some (r1, r2)) :
    Calls Try.prog 40 #[.agg #[.slice A0_0 l0_0.length c0_0, .slice A0_1 l0_1.length c0_1], .int .i64 a1] w fun e w' => e = .returned (.tuple #[.string r1, .int .i64 r2]) ∧ Below w.heap.size w w' := by
  have e := Option.some.inj h
  rw [show r1 = (readF l0_0 l0_1 a1).1 by rw [e], show r2 = (readF l0_0 l0_1 a1).2 by rw [e]]
  exact read_walk A0_0 c0_0 l0_0 A0_1 c0_1 l0_1 a1 w hr0_0 hc0_0 hr0_1 hc0_1
end Go.Proofs.Ytgjjcgemelafaaa.P
