-- By wip/tools/drive.py: the kit's print, with contracts of this session's own among the functions.
import Derived.Test.YtcdgbpojcdecbaaDoorPx0
namespace Go.Proofs.YtcdgbpojcdecbaaDoor.P
open Go.RowKit Go.Proofs.YtcdgbpojcdecbaaDoorW.PrintWords Go.Proofs.YtcdgbpojcdecbaaDoorW.PrintLast Go.Proofs.YtcdgbpojcdecbaaDoorW.PrintMore
attribute [local go_sem] max2_int min2_int max_two min_two max_three min_three max_four min_four   -- for this text's walks alone
set_option linter.unusedVariables false
set_option linter.unusedSimpArgs false

-- GIVEN
/-! ### strings_splitSeq: function 28 -/
section
variable {F : Fence} {n : Nat} {P : Program}
/-- An iterator that stores into a variable of its own between two rounds: St says which turns of memory that is. -/
def SeqSt {α : Type} (F : Fence) (n : Nat) (P : Program) (g : Nat) (lb : Array Value) (encs : α → Array Value) (Kp St : World → World → Prop) (S Sp : List α → Prop) (N : Nat) (w : World) : Prop :=
  ∀ (l : Nat) (J Jx : List α → World → Prop) (W : World), Below w.heap.size w W → AbidesFrom W.heap.size J → AbidesFrom W.heap.size Jx → (∀ s A B, J s A → St A B → J s B) →
    (∀ pre x W1, J pre W1 → pre.length < N → YieldAt F (n - 1) P l (encs x) W1 fun e W' =>
      (e = .returned (.bool true) ∧ J (pre ++ [x]) W' ∧ Kp W1 W') ∨ (e = .returned (.bool false) ∧ Jx (pre ++ [x]) W')) →
    J [] W →
    CallsIn F n P g (#[.func (.yield l) #[] #[]] ++ lb) W fun e W' => (∃ v, e = .returned v) ∧ ((∃ xs, S xs ∧ J xs W') ∨ (∃ pre, Sp pre ∧ Jx pre W'))
theorem range_st {α : Type} {g : Operand} {ps : Array Tmp} {assign body : Code} {Q : Exit → Act → World → Prop} {a : Act} {w : World}
    (hro : F.round = none) (h1 : 1 ≤ n) {gf : Nat} {lb : Array Value} (hg : a.eval g = .func (.func gf) #[] lb) (hFg : F.fn gf) (eg : ∀ args w, (callFunc gf args).run P w = .ok (.enter gf args) w)
    {encs : α → Array Value} {Kp St : World → World → Prop} {S Sp : List α → Prop} {N : Nat} (hseq : SeqSt F (n - 1) P gf lb encs Kp St S Sp N w)
    (hKt : ∀ {A B C : World}, Kp A B → Kp B C → Kp A C) (hKb : ∀ (W : World) (l : Nat) (o' : Obj), w.heap.size ≤ l → Kp W (W.putObj l o')) (hps : ∀ x, (encs x).size = ps.size)
    (hSt : ∀ {A B : World} {l : Nat} {o : Obj}, St A B → A.heap[l]? = some o → w.heap.size ≤ l → B.heap[l]? = some o)
    (I : List α → World → Prop) (Ix : Code → List α → World → Prop) (hI : OwnFrom w.heap.size I) (hIs : ∀ s A B, I s A → St A B → I s B) (hIx : ∀ c, OwnFrom w.heap.size (Ix c)) (h0 : I [] w) (a₁ : α → Act)
    (hassign : ∀ (l : Nat) (x : α) (W : World) (K : Act → World → Prop), K (a₁ x) W →
      assign.wpIn (F.inRound l) (n - 1 - 1) P (Exit.then K (fun _ _ _ => False)) { tmps := (ps.zip (encs x)).foldl (fun t (p, v) => t.setIfInBounds p v) a.tmps, defers := [] } W)
    (hbody : ∀ (l : Nat) (pre : List α) (x : α) (W : World), I pre W → pre.length < N → body.wpIn (F.inRound l) (n - 1 - 1) P (ownPostK Kp I Ix (pre ++ [x]) W) (a₁ x) W)
    (hdone : ∀ (D : Nat) (xs : List α) (W : World), w.heap.size ≤ D → S xs → I xs W → W.heap[D]? = some (.deferred (some [])) → Q .normal { a with defers := { target := .collected D, args := #[] } :: a.defers } W)
    (hstop : ∀ (D : Nat) (c : Code) (pre : List α) (W : World), w.heap.size ≤ D → Sp pre → Ix c pre W → W.heap[D]? = some (.deferred (some [])) → c.wpIn F n P Q { a with defers := { target := .collected D, args := #[] } :: a.defers } W) :
    (Code.rangeFunc g ps assign body).wpIn F n P Q a w := by
  refine wpIn_rangeFunc fun fn hfn => ?_
  rw [hro]
  let rec_ : LoopState → Option Code → Loop := fun st pe => { state := st, pending := pe, fn, tmps := a.tmps, params := ps, assign, body, defers := w.heap.size }
  obtain ⟨rec, hrec⟩ : ∃ rec : LoopState → Option Code → Loop, rec = rec_ := ⟨_, rfl⟩
  obtain ⟨W1, hW1⟩ : ∃ W1, (w.alloc (.deferred (some []))).alloc (.loop (rec .ready none)) = W1 := ⟨_, rfl⟩
  have hL1 : W1.heap[w.heap.size + 1]? = some (.loop (rec .ready none)) := by
    rw [← hW1]; have := World.alloc_heap_new (w.alloc (.deferred (some []))) (.loop (rec .ready none)); rwa [World.size_alloc] at this
  have hK1 : W1.heap[w.heap.size]? = some (.deferred (some [])) := by
    rw [← hW1]; exact (Below.heap_alloc _ _ _ (by simp)).trans (World.alloc_heap_new w _)
  have hI1 : I [] W1 := by rw [← hW1]; exact hI.alloc _ (hI.alloc _ h0)
  have hb1 : Below w.heap.size w W1 := by rw [← hW1]; exact ((Below.refl _ w).alloc (Nat.le_refl _) _).alloc (by simp) _
  refine ⟨w.heap.size + 1, [{ target := .collected w.heap.size, args := #[] }], W1, { target := .fn (.func gf) lb, args := #[.func (.yield (w.heap.size + 1)) #[] #[]] }, W1, gf,
    #[.func (.yield (w.heap.size + 1)) #[] #[]] ++ lb, W1, ?_, ?_, ?_, ?_, fun _ => h1, ?_⟩
  · rw [← hW1, hrec]; exact run_enterLoop_outer _ _ _ _ _
  · simp only [resolve, hg]
    simp [go_sem]
  · intro f' hf'
    have e : gf = f' := by simpa [Target.leads] using hf'
    exact e ▸ hFg
  · simp [invoke, go_sem, eg]
  have hnc : ∀ {A : World} {row : Option Nat}, (∀ r, row = some r → W1.heap.size ≤ r ∧ ∃ o : Obj, A.heap[r]? = some o ∧ o.isWalk = true) → (∀ r, row = some r → w.heap.size ≤ r ∧ ∃ o : Obj, A.heap[r]? = some o ∧ o.isCells = false) := by
    intro A row hr r e
    obtain ⟨hB, o, ho, hw⟩ := hr r e
    exact ⟨Nat.le_trans hb1.size hB, o, ho, Obj.not_cells_of_walk hw⟩
  refine (hseq (w.heap.size + 1)
    (fun pre W => I pre W ∧ W.heap[w.heap.size + 1]? = some (.loop (rec .ready none)) ∧ W.heap[w.heap.size]? = some (.deferred (some [])))
    (fun pre W => ∃ c, Ix c pre W ∧ W.heap[w.heap.size + 1]? = some (.loop (rec .done (some c))) ∧ W.heap[w.heap.size]? = some (.deferred (some [])))
    W1 hb1 ?j1 ?j2 ?j3 ?round ⟨hI1, hL1, hK1⟩).mono ?behind
  case j1 =>
    intro s A B row hs hg' hr
    exact ⟨hI s A B row hs.1 hg' (hnc hr), (grownBy_keeps hg' (fun r e => (hr r e).2) hs.2.1 rfl).trans hs.2.1, (grownBy_keeps hg' (fun r e => (hr r e).2) hs.2.2 rfl).trans hs.2.2⟩
  case j2 =>
    rintro s A B row ⟨c, hc, hl, hk⟩ hg' hr
    exact ⟨c, hIx c s A B row hc hg' (hnc hr), (grownBy_keeps hg' (fun r e => (hr r e).2) hl rfl).trans hl, (grownBy_keeps hg' (fun r e => (hr r e).2) hk rfl).trans hk⟩
  case j3 => exact fun s A B hs hst => ⟨hIs s A B hs.1 hst, hSt hst hs.2.1 (by omega), hSt hst hs.2.2 (Nat.le_refl _)⟩
  case round =>
    rintro pre x W ⟨hi, hl, hk⟩ hlen
    have hlt : w.heap.size + 1 < W.heap.size := (Array.getElem?_eq_some_iff.1 hl).1
    have hy := run_yield (P := P) (args := encs x) hl (by rw [hrec]; exact hps x)
    rw [hrec] at hy
    refine ⟨fn, _, assign, body, hy, roundIn_of_wpIn hfn (hassign _ x W _ ⟨_, run_beginRound hl (by rw [hrec]), ?_⟩)⟩
    obtain ⟨W2, hW2⟩ : ∃ W2, W.putObj (w.heap.size + 1) (.loop { rec .ready none with state := .busy }) = W2 := ⟨_, rfl⟩
    have hl2 : W2.heap[w.heap.size + 1]? = some (.loop { rec .ready none with state := .busy }) := by rw [← hW2]; exact World.putObj_heap_same hlt
    have hk2 : W2.heap[w.heap.size]? = some (.deferred (some [])) := by rw [← hW2]; exact (World.putObj_heap_other (by omega)).trans hk
    have hw2 : Kp W W2 := by rw [← hW2]; exact hKb _ _ _ (by omega)
    have hi2 : I pre W2 := by rw [← hW2]; exact hI.putObj _ hi (by omega) hl rfl
    rw [hW2]
    refine wpIn_mono (hbody _ pre x _ hi2 hlen) ?_
    have fin : ∀ (jump : Option Code) (W3 : World), KeepsOthers W2 W3 →
        (Instr.endRound (w.heap.size + 1) jump).run P W3 = .ok (.bool jump.isNone) (W3.putObj (w.heap.size + 1) (.loop (rec (if jump.isNone then .ready else .done) jump))) ∧
        W3.heap[w.heap.size + 1]? = some (.loop { rec .ready none with state := .busy }) ∧
        (W3.putObj (w.heap.size + 1) (.loop (rec (if jump.isNone then .ready else .done) jump))).heap[w.heap.size + 1]? = some (.loop (rec (if jump.isNone then .ready else .done) jump)) ∧
        (W3.putObj (w.heap.size + 1) (.loop (rec (if jump.isNone then .ready else .done) jump))).heap[w.heap.size]? = some (.deferred (some [])) := by
      intro jump W3 hk3
      have hl3 := hk3.same _ _ hl2 rfl
      have := run_endRound (P := P) jump hl3
      rw [hrec] at this ⊢
      exact ⟨this, by rw [hrec] at hl3; exact hl3, World.putObj_heap_same (Array.getElem?_eq_some_iff.1 hl3).1, (World.putObj_heap_other (by omega)).trans (hk3.same _ _ hk2 rfl)⟩
    have out : ∀ (c : Code) (W3 : World), KeepsOthers W2 W3 → Ix c (pre ++ [x]) W3 → _ := fun c W3 hk3 hi3 => And.intro (fin (some c) W3 hk3) ((hIx c).putObj (.loop (rec .done (some c))) hi3 (by omega) (fin (some c) W3 hk3).2.1 rfl)
    rintro e a3 W3 hp
    cases e with
    | normal =>
      obtain ⟨hk3, hkp3, hi3⟩ := hp
      obtain ⟨hr, hl3, hl4, hk4⟩ := fin none W3 hk3
      exact ⟨_, _, hr, .inl ⟨rfl, ⟨hI.putObj _ hi3 (by omega) hl3 rfl, hl4, hk4⟩, hKt (hKt hw2 hkp3) (hKb _ _ _ (by omega))⟩⟩
    | ret =>
      obtain ⟨⟨hr, _, hl4, hk4⟩, hi4⟩ := out .ret W3 hp.1 hp.2
      exact ⟨_, _, hr, .inr ⟨rfl, .ret, hi4, hl4, hk4⟩⟩
    | exit id =>
      obtain ⟨⟨hr, _, hl4, hk4⟩, hi4⟩ := out (.exit id) W3 hp.1 hp.2
      exact ⟨_, _, hr, .inr ⟨rfl, .exit id, hi4, hl4, hk4⟩⟩
    | goto t =>
      obtain ⟨⟨hr, _, hl4, hk4⟩, hi4⟩ := out (.goto t) W3 hp.1 hp.2
      exact ⟨_, _, hr, .inr ⟨rfl, .goto t, hi4, hl4, hk4⟩⟩
    | panic ch => exact hp.elim
    | outgrown => exact hp.elim
  case behind =>
    rintro e W2 ⟨⟨v, rfl⟩, (⟨xs, hS, hi, hl, hk⟩ | ⟨pre, hSp, c, hi, hl, hk⟩)⟩
    · have he := run_endLoop (P := P) hl (by rw [hrec]; simp [rec_])
      rw [hrec] at he
      exact ⟨none, _, he, hdone _ xs _ (Nat.le_refl _) hS (hI.putObj _ hi (by omega) hl rfl) ((World.putObj_heap_other (by omega)).trans hk)⟩
    · have he := run_endLoop (P := P) hl (by rw [hrec]; simp [rec_])
      rw [hrec] at he
      exact ⟨some c, _, he, hstop _ c pre _ (Nat.le_refl _) hSp ((hIx c).putObj _ hi (by omega) hl rfl) ((World.putObj_heap_other (by omega)).trans hk)⟩
end

def splitSl : List UInt8 → List (List UInt8)
  | [] => [[]]
  | c :: l => if c = 47 then [] :: splitSl l else match splitSl l with
    | p :: ps => (c :: p) :: ps
    | [] => [[c]]
theorem splitSl_ne (l : List UInt8) : splitSl l ≠ [] := by
  cases l with
  | nil => simp [splitSl]
  | cons c l => simp only [splitSl]; split; simp; split <;> simp
theorem split_none (l : List UInt8) (h : Lib.indexByte l 47 = -1) : splitSl l = [l] := by
  induction l with
  | nil => rfl
  | cons c l ih =>
    have hg := Lib.indexByte_ge l 47
    simp only [Lib.indexByte] at h
    by_cases hc : c = 47
    · subst hc; simp at h
    · have hcb : (c == 47) = false := beq_eq_false_iff_ne.mpr hc
      rw [hcb] at h
      simp only [Bool.false_eq_true, if_false] at h
      have hi : Lib.indexByte l 47 = -1 := by
        by_cases hi : Lib.indexByte l 47 = -1
        · exact hi
        · rw [if_neg (by simpa using hi)] at h; omega
      simp only [splitSl]
      rw [if_neg hc, ih hi]
theorem split_some (l : List UInt8) : ∀ (i : Nat), Lib.indexByte l 47 = (i : Int) → i < l.length ∧ splitSl l = l.take i :: splitSl (l.drop (i + 1)) := by
  induction l with
  | nil => intro i h; simp [Lib.indexByte] at h
  | cons c l ih =>
    intro i h
    have hg := Lib.indexByte_ge l 47
    simp only [Lib.indexByte] at h
    by_cases hc : c = 47
    · subst hc
      simp at h
      obtain rfl : i = 0 := by omega
      simp [splitSl]
    · have hcb : (c == 47) = false := beq_eq_false_iff_ne.mpr hc
      rw [hcb] at h
      simp only [Bool.false_eq_true, if_false] at h
      by_cases hi : Lib.indexByte l 47 = -1
      · rw [hi] at h; simp at h
      · rw [if_neg (by simpa using hi)] at h
        obtain ⟨j, rfl⟩ : ∃ j, i = j + 1 := ⟨i - 1, by omega⟩
        obtain ⟨h1, h2⟩ := ih j (by omega)
        refine ⟨by simp; omega, ?_⟩
        simp only [splitSl]
        rw [if_neg hc, h2]
        simp
def partsOf (s : ByteArray) : List ByteArray := (splitSl s.data.toList).map fun l => ⟨l.toArray⟩
theorem parts_none (s : ByteArray) (h : Lib.indexByte s.data.toList 47 = -1) : partsOf s = [s] := by
  unfold partsOf; rw [split_none _ h]; simp
theorem parts_some (s : ByteArray) (i : Nat) (h : Lib.indexByte s.data.toList 47 = (i : Int)) : i < s.size ∧ partsOf s = s.extract 0 i :: partsOf (s.extract (i + 1) s.size) := by
  obtain ⟨h1, h2⟩ := split_some _ i h
  have h1' : i < s.size := by simpa using h1
  refine ⟨h1', ?_⟩
  have e1 : (s.extract 0 i).data.toList = s.data.toList.take i := by simp
  have e2 : (s.extract (i + 1) s.size).data.toList = s.data.toList.drop (i + 1) := by
    simp
    rw [List.take_of_length_le (by simp)]
  unfold partsOf
  rw [h2, e2, List.map_cons, ← e1]

def idxRen : Go.Shelf.Ren := ⟨fun | 143 => 33 | 219 => 36 | 217 => 37 | 225 => 38 | 224 => 39 | 267 => 40 | 266 => 41 | 314 => 42 | n => n, fun | 9 => 9 | 3 => 3 | 4 => 4 | 5 => 5 | 46 => 73 | 146 => 79 | 51 => 46 | n => n, fun | 1 => 2 | n => n⟩
theorem idxLays : Go.Proofs.Lays.n143 Tryd.prog idxRen := {
  mixed := by kernel_rfl
  f143 := Tryd.func33.trans (congrArg some (by kernel_rfl))
  f217 := Tryd.func37.trans (congrArg some (by kernel_rfl))
  f219 := Tryd.func36.trans (congrArg some (by kernel_rfl))
  f224 := Tryd.func39.trans (congrArg some (by kernel_rfl))
  f225 := Tryd.func38.trans (congrArg some (by kernel_rfl))
  f266 := Tryd.func41.trans (congrArg some (by kernel_rfl))
  f267 := Tryd.func40.trans (congrArg some (by kernel_rfl))
  f314 := Tryd.func42.trans (congrArg some (by kernel_rfl))
  t3 := Tryd.underlying3, a3 := Tryd.isAgg3, z3 := Tryd.sizeOf3, v3 := Tryd.zeroValue3
  t4 := Tryd.underlying4, a4 := Tryd.isAgg4, z4 := Tryd.sizeOf4, v4 := Tryd.zeroValue4
  t5 := Tryd.underlying5, a5 := Tryd.isAgg5, z5 := Tryd.sizeOf5, v5 := Tryd.zeroValue5
  t9 := Tryd.underlying9, a9 := Tryd.isAgg9, z9 := Tryd.sizeOf9, v9 := Tryd.zeroValue9
  t46 := Tryd.underlying73, a46 := Tryd.isAgg73, z46 := Tryd.sizeOf73, v46 := Tryd.zeroValue73
  t51 := Tryd.underlying46, a51 := Tryd.isAgg46, z51 := Tryd.sizeOf46, v51 := Tryd.zeroValue46
  t146 := Tryd.underlying79, a146 := Tryd.isAgg79, z146 := Tryd.sizeOf79, v146 := Tryd.zeroValue79
  g1 := by kernel_rfl }
theorem idx_slash (s : ByteArray) (w : World) :
    Calls Tryd.prog 33 #[.string s, .string ⟨#[47]⟩] w fun e w' => e = .returned (.int .i64 (Lib.indexByte s.data.toList 47)) ∧ w' = w := Any.strings_Index_one idxLays s 47 w

def strAt (w : World) (p : Addr) : Nat := match w.cell? p with | some (.string s) => s.size | _ => 0
theorem box_kept {W W' : World} {B t : Nat} {v : Value} (h : W.heap[B]? = some (.cells #[v] t (0, 0))) (e : W'.heap[B]? = W.heap[B]?) : W'.heap[B]? = some (.cells #[v] t (0, 0)) := e.trans h
set_option maxHeartbeats 2000000 in
set_option maxRecDepth 100000 in
/-- strings.SplitSeq's iterator at "/": its own text lies in block Bs, "/" in block Bs + 1, the number 0 in block Bs + 2. -/
theorem splitIter (n : Nat) (Bs : Nat) (s : ByteArray) (w : World) (hs : s.size ≤ 1000000000000) (hlt : Bs + 2 < w.heap.size)
    (c0 : w.heap[Bs]? = some (.cells #[.string s] 9 (0, 0))) (c1 : w.heap[Bs + 1]? = some (.cells #[.string ⟨#[47]⟩] 9 (0, 0))) (c2 : w.heap[Bs + 2]? = some (.cells #[.int .i64 0] 3 (0, 0))) :
    SeqSt Fence.wide n Tryd.prog 31 #[.pointer (some ⟨Bs + 1, 0, none⟩), .pointer (some ⟨Bs, 0, none⟩), .pointer (some ⟨Bs + 2, 0, none⟩)] (fun x : ByteArray => #[.string x])
      (fun A B => ∀ k, Bs ≤ k → k ≤ Bs + 2 → B.heap[k]? = A.heap[k]?) (fun A B => ∃ v, B = A.setCell ⟨Bs, 0, none⟩ v) (fun xs => xs = partsOf s) (fun xs => xs <+: partsOf s) (partsOf s).length w := by
  intro l J Jx W hb hJ hJx hJs hY h0
  have hro : Fence.wide.round = none := rfl
  refine callsIn_of_wp Tryd.func31 rfl trivial ?_ hro
  simp only [Tryd.ntmps31, List.size_toArray, List.length_cons, List.length_nil, Nat.reduceAdd, Nat.reduceSub, Array.replicate_succ, Array.replicate_zero, List.push_toArray, List.append_toArray, List.nil_append, List.cons_append]
  have d1 := Lib.cell_of_heap (box_kept c1 (hb.block (Bs + 1) (by omega))) 0
  gi_wp2
  gi_loopw [7] (fun v7 wr => ∃ (pre : List ByteArray) (t : ByteArray), partsOf s = pre ++ partsOf t ∧ t.size ≤ 1000000000000 ∧ J pre wr ∧ wr.heap[Bs]? = some (.cells #[.string t] 9 (0, 0)) ∧ wr.heap[Bs + 1]? = some (.cells #[.string ⟨#[47]⟩] 9 (0, 0)) ∧ wr.heap[Bs + 2]? = some (.cells #[.int .i64 0] 3 (0, 0)))
    (fun _ wr => strAt wr ⟨Bs, 0, none⟩)
  case atStart =>
    exact ⟨[], s, rfl, hs, h0, box_kept c0 (hb.block Bs (by omega)), box_kept c1 (hb.block (Bs + 1) (by omega)), box_kept c2 (hb.block (Bs + 2) (by omega))⟩
  case round =>
    obtain ⟨pre, t, hp, ht, hj, a0, a1, a2⟩ := hrel
    have d0 := Lib.cell_of_heap a0 0
    have d1 := Lib.cell_of_heap a1 0
    have d2 := Lib.cell_of_heap a2 0
    have A0 := Aside0.mk a0
    have A1 := Aside0.mk a1
    have A2 := Aside0.mk a2
    have HP := Aside0.mk hp
    clear a0 a1 a2
    by_cases hi : Lib.indexByte t.data.toList 47 = -1
    · have hib : decide (Lib.indexByte t.data.toList 47 < 0) = true := decide_eq_true (by omega)
      have HI := Aside0.mk hi
      clear hp hi
      obtain ⟨fn, tmps, assign, body, hy, hR⟩ := hY pre t wr hj (by rw [HP.out, parts_none t HI.out]; simp)
      gi_wp2_with fail
      refine ⟨trivial, (fun h => by cases h), ?_⟩
      refine (callsIn_wide.2 (idx_slash t _)).mono ?_
      rintro e w' ⟨rfl, rfl⟩
      gi_wp2
      refine ⟨(fun h => by cases h), ?_⟩
      refine hR.mono ?_
      have hfin : partsOf s = pre ++ [t] := by rw [HP.out, parts_none t HI.out]
      rintro e W3 (⟨rfl, hJ3, hk3⟩ | ⟨rfl, hJx3⟩)
      · gi_wp2
        refine bodyPost_end (results_none rfl _ _ _) rfl ?_
        exact ⟨⟨_, rfl⟩, .inl ⟨pre ++ [t], hfin.symm, hJ3⟩⟩
      · gi_wp2
        refine bodyPost_end (results_none rfl _ _ _) rfl ?_
        exact ⟨⟨_, rfl⟩, .inr ⟨pre ++ [t], ⟨[], by rw [hfin]; simp⟩, hJx3⟩⟩
    · have hg := Lib.indexByte_ge t.data.toList 47
      obtain ⟨i, hi2⟩ : ∃ i : Nat, Lib.indexByte t.data.toList 47 = (i : Int) := ⟨(Lib.indexByte t.data.toList 47).toNat, by omega⟩
      have hps := parts_some t i hi2
      have HQ := Aside0.mk hps.2
      have hilt := hps.1
      have HI := Aside0.mk hi2
      clear hp hi hps hi2 hg
      obtain ⟨fn, tmps, assign, body, hy, hR⟩ := hY pre (t.extract 0 i) wr hj (by rw [HP.out, HQ.out]; simp)
      gi_wp2_with fail
      refine ⟨trivial, (fun h => by cases h), ?_⟩
      refine (callsIn_wide.2 (idx_slash t _)).mono ?_
      rintro e w' ⟨rfl, rfl⟩
      rw [HI.out]
      gi_wp2
      refine ⟨(fun h => by cases h), ?_⟩
      refine hR.mono ?_
      rintro e W3 (⟨rfl, hJ3, hk3⟩ | ⟨rfl, hJx3⟩)
      · have a0 := box_kept A0.out (hk3 Bs (by omega) (by omega))
        have a1 := box_kept A1.out (hk3 (Bs + 1) (by omega) (by omega))
        have a2 := box_kept A2.out (hk3 (Bs + 2) (by omega) (by omega))
        have d0 := Lib.cell_of_heap a0 0
        have d1 := Lib.cell_of_heap a1 0
        have f0 := Lib.frozen_of_heap a0 0
        have B0 := Aside0.mk a0
        have B1 := Aside0.mk a1
        have B2 := Aside0.mk a2
        clear a0 a1 a2 hk3
        gi_wp2
        have hset : (W3.setCell ⟨Bs, 0, none⟩ (.string (t.extract (i + 1) t.size))).heap[Bs]? = some (.cells #[.string (t.extract (i + 1) t.size)] 9 (0, 0)) := one_setCell B0.out
        go_roundw
        case rel => exact ⟨pre ++ [t.extract 0 i], t.extract (i + 1) t.size, by rw [HP.out, HQ.out]; simp, by rw [ByteArray.size_extract]; omega, hJs _ _ _ hJ3 ⟨_, rfl⟩, hset, (Below.heap_setCell _ _ _ _ (by simp)).trans B1.out, (Below.heap_setCell _ _ _ _ (by simp)).trans B2.out⟩
        case measure =>
          have e1 := Lib.cell_of_heap hset 0
          have e0 := Lib.cell_of_heap A0.out 0
          simp only [strAt, e1, e0]
          simp
          omega
      · gi_wp2
        refine bodyPost_ret (results_none rfl _ _ _) rfl ?_
        exact ⟨⟨_, rfl⟩, .inr ⟨pre ++ [t.extract 0 i], ⟨partsOf (t.extract (i + 1) t.size), by rw [HP.out, HQ.out]; simp⟩, hJx3⟩⟩

set_option maxRecDepth 100000 in
theorem splitSeq_any (s sep : ByteArray) (w : World) : Calls Tryd.prog 23 #[.string s, .string sep] w fun e w' => e = .returned (.func (.func 31) #[] #[.pointer (some ⟨w.heap.size + 1, 0, none⟩), .pointer (some ⟨w.heap.size, 0, none⟩), .pointer (some ⟨w.heap.size + 2, 0, none⟩)]) ∧ w' = ((w.alloc (.cells #[.string s] 9)).alloc (.cells #[.string sep] 9)).alloc (.cells #[.int .i64 0] 3) := by
  go_enter Tryd.func23, Tryd.ntmps23
  go_wp2
  go_ret
  exact ⟨rfl, rfl⟩


end Go.Proofs.YtcdgbpojcdecbaaDoor.P
