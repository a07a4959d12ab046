-- By wip/tools/drive.py: the kit's print, with contracts of this session's own among the functions.
import Derived.Test.YtcdgbpojcdecbaaDoorPx0
import Derived.Test.YtcdgbpojcdecbaaDoorPx1
import Derived.Test.YtcdgbpojcdecbaaDoorPx4
import Derived.Test.YtcdgbpojcdecbaaDoorPx5
namespace Go.Proofs.YtcdgbpojcdecbaaDoor.P
open Go.RowKit Go.Proofs.YtcdgbpojcdecbaaDoorW.PrintWords Go.Proofs.YtcdgbpojcdecbaaDoorW.PrintLast Go.Proofs.YtcdgbpojcdecbaaDoorW.PrintMore
attribute [local go_sem] max2_int min2_int max_two min_two max_three min_three max_four min_four   -- for this text's walks alone
set_option linter.unusedVariables false
set_option linter.unusedSimpArgs false

-- GIVEN
/-! ### name_Path: function 14 -/
attribute [local go_sem] Oper.semAt_some
theorem path_out {tmps : Array Value} {b : Nat} {v : Value} {r : Int} {W : World} {R : Ending → World → Prop} (h2 : tmps[2]?.getD undef = .pointer (some ⟨b, 0, none⟩)) (h3 : tmps[3]?.getD undef = .pointer (some ⟨b + 1, 0, none⟩))
    (c2 : Boxed W b 22 v) (c3 : Boxed W (b + 1) 26 (.int .i64 r)) (hR : R (.returned (.tuple #[v, .int .i64 r])) W) : bodyPostM Fence.wide 10 Tryd.prog Tryd.f14 R .ret { tmps := tmps, defers := [] } W := by
  have c2 := c2.cell
  have c3 := c3.cell
  unfold bodyPostM LeavesInM
  refine ⟨_, ?_, hR⟩
  simp [results, go_sem, h2, h3, c2, c3]
theorem path_out2 {tmps : Array Value} {b D : Nat} {v : Value} {r : Int} {W : World} {R : Ending → World → Prop} (h2 : tmps[2]?.getD undef = .pointer (some ⟨b, 0, none⟩)) (h3 : tmps[3]?.getD undef = .pointer (some ⟨b + 1, 0, none⟩))
    (c2 : Boxed W b 22 v) (c3 : Boxed W (b + 1) 26 (.int .i64 r)) (hD : b + 1 < D) (hK : W.heap[D]? = some (.deferred (some []))) (hR : R (.returned (.tuple #[v, .int .i64 r])) (W.putObj D (.deferred none))) :
    bodyPostM Fence.wide 10 Tryd.prog Tryd.f14 R .ret { tmps := tmps, defers := [{ target := .collected D, args := #[] }] } W := by
  have c2 : Boxed (W.putObj D (.deferred none)) b 22 v := (World.putObj_heap_other (by omega)).trans c2
  have c3 : Boxed (W.putObj D (.deferred none)) (b + 1) 26 (.int .i64 r) := (World.putObj_heap_other (by omega)).trans c3
  have c2 := c2.cell
  have c3 := c3.cell
  unfold bodyPostM LeavesInM
  refine ⟨by simp, .inl ⟨D, _, rfl, run_takeDeferred hK, ?_⟩⟩
  unfold LeavesInM
  refine ⟨_, ?_, hR⟩
  simp [results, go_sem, h2, h3, c2, c3]
theorem boxed_next {W : World} {n : Nat} (hz : W.heap.size = n) (t : TypeId) (v : Value) : Boxed (W.alloc (.cells #[v] t)) n t v ∧ (W.alloc (.cells #[v] t)).heap.size = n + 1 := by
  subst hz
  exact ⟨Boxed.new W t v, World.size_alloc _ _⟩
def pathGo : List ByteArray → List Int → Option (List Int × Int)
  | [], acc => some (acc, 0)
  | p :: ps, acc => (name_Of.f p).bind fun r => if r.2 ≠ 0 ∨ acc.length = 20 then some ([], 1) else pathGo ps (acc ++ [r.1])
def name_Path.f (s : ByteArray) : Option (List Int × Int) :=
  if s.toList = ([47] : List UInt8) then some ([], 0) else if s.size ≤ 1000000000000 then (strings_CutPrefix.f s ⟨#[47]⟩).bind fun r => if r.2 = true then pathGo (partsOf r.1) [] else some ([], 1) else none
theorem of_total (s : ByteArray) : ∃ r, name_Of.f s = some r := by unfold name_Of.f; split <;> exact ⟨_, rfl⟩

theorem cut_size {s p r : ByteArray} {ok : Bool} (h : strings_CutPrefix.f s p = some (r, ok)) : r.size ≤ s.size := by
  unfold strings_CutPrefix.f stringslite_CutPrefix.f at h
  obtain ⟨⟨a, b⟩, h1, h2⟩ := Option.bind_eq_some_iff.1 h
  obtain ⟨q, h3, h4⟩ := Option.bind_eq_some_iff.1 h1
  simp only [Option.some.injEq, Prod.mk.injEq] at h2
  obtain ⟨rfl, rfl⟩ := h2
  split at h4
  · split at h4
    · split at h4
      · simp only [Option.some.injEq, Prod.mk.injEq] at h4
        obtain ⟨rfl, _⟩ := h4
        rw [ByteArray.size_extract]; omega
      · exact absurd h4 (by simp)
    · exact absurd h4 (by simp)
  · simp only [Option.some.injEq, Prod.mk.injEq] at h4
    obtain ⟨rfl, _⟩ := h4
    exact Nat.le_refl _
theorem inf_int : (Tryd.prog.info? 3).map (fun i => (i.zero, i.size, i.bytes)) = some (some (.int .i64 0), 1, 8) := by kernel_rfl
theorem pathGo_bad {x : ByteArray} {q e : Int} {acc : List Int} (hq : name_Of.f x = some (q, e)) (hb : e ≠ 0 ∨ acc.length = 20) (rest : List ByteArray) : pathGo (x :: rest) acc = some ([], 1) := by
  simp only [pathGo, hq, Option.bind_some]
  rw [if_pos hb]
theorem pathGo_good {x : ByteArray} {q : Int} {acc : List Int} (hq : name_Of.f x = some (q, 0)) (hb : acc.length ≠ 20) (rest : List ByteArray) : pathGo (x :: rest) acc = pathGo rest (acc ++ [q]) := by
  simp only [pathGo, hq, Option.bind_some]
  rw [if_neg (by rintro (h | h); exact h rfl; exact hb h)]
def PathI (w : World) (pre : List ByteArray) (W : World) : Prop :=
  ∃ (v : Value) (acc : List Int), Boxed W (w.heap.size + 2) 22 v ∧ W.ownsRow (w.heap.size + 6) 3 1 v acc.length (acc.map (Value.int .i64)) ∧ (∀ rest, pathGo (pre ++ rest) [] = pathGo rest acc) ∧ acc.length ≤ 20 ∧
    Boxed W w.heap.size 22 (.slice none 0 0) ∧ Boxed W (w.heap.size + 1) 26 (.int .i64 0) ∧ Below w.heap.size w W ∧ w.heap.size + 6 ≤ W.heap.size
def PathX (w : World) (c : Code) (pre : List ByteArray) (W : World) : Prop :=
  c = .ret ∧ Boxed W w.heap.size 22 (.slice none 0 0) ∧ Boxed W (w.heap.size + 1) 26 (.int .i64 1) ∧ (∀ rest, pathGo (pre ++ rest) [] = some ([], 1)) ∧ Below w.heap.size w W
theorem row_kept {W W' : World} {row : Option Nat} {base size k : Nat} {e : TypeId} {v : Value} {xs : List Value} (hr : W.ownsRow base e size v k xs) (hg : W.grownBy W' row) (hrow : ∀ r, row = some r → ∃ o : Obj, W.heap[r]? = some o ∧ o.isCells = false) : W'.ownsRow base e size v k xs := by
  refine hr.kept hg ?_
  rcases hr.2 with ⟨rfl, _⟩ | ⟨g, cap, cur, rfl, _, hgb, _⟩
  · exact .inl rfl
  · refine .inr fun e' => ?_
    obtain ⟨o, ho, hc⟩ := hrow g (by simpa [Value.ownBlock] using e'.symm)
    rw [hgb] at ho
    cases ho
    cases hc
theorem row_other {W : World} {base size k : Nat} {e : TypeId} {v : Value} {xs : List Value} (hr : W.ownsRow base e size v k xs) {c : Nat} (hc : c < base) (u : Value) : (W.setCell ⟨c, 0, none⟩ u).ownsRow base e size v k xs :=
  hr.kept (grownBy_setCell' W c u) (.inr fun e => by have := own_base hr c e; omega)
theorem path_more {w W W2 w1 : World} {pre : List ByteArray} {acc : List Int} {x : ByteArray} {q : Int} {v v' : Value} (k2 : KeepsOthers W W2) (p2 : ∀ k, w.heap.size + 3 ≤ k → k ≤ w.heap.size + 3 + 2 → W2.heap[k]? = W.heap[k]?)
    (i5 : Boxed W2 w.heap.size 22 (.slice none 0 0)) (i6 : Boxed W2 (w.heap.size + 1) 26 (.int .i64 0)) (i7 : Below w.heap.size w W2) (i8 : w.heap.size + 6 ≤ W2.heap.size) (i2 : W2.ownsRow (w.heap.size + 6) 3 1 v acc.length (acc.map (Value.int .i64)))
    (ho : w1.ownsRow (w.heap.size + 6) 3 1 v' (acc.length + 1) (acc.map (Value.int .i64) ++ [.int .i64 q])) (hg : (W2.alloc (.cells #[.int .i64 q] 3)).grownBy w1 v.ownBlock) (hv : Boxed w1 (w.heap.size + 2) 22 v)
    (h3 : ∀ rest, pathGo (pre ++ rest) [] = pathGo rest acc) (hq : name_Of.f x = some (q, 0)) (h19 : acc.length ≤ 19) :
    ownPostK (fun A B => ∀ k, w.heap.size + 3 ≤ k → k ≤ w.heap.size + 3 + 2 → B.heap[k]? = A.heap[k]?) (PathI w) (PathX w) (pre ++ [x]) W .normal { tmps := #[], defers := [] } (w1.setCell ⟨w.heap.size + 2, 0, none⟩ v') := by
  have hne : ∀ k, v.ownBlock = some k → w.heap.size + 6 ≤ k := fun k e => own_base i2 k e
  refine ⟨((k2.trans (KeepsOthers.alloc _ _)).trans (KeepsOthers.of_grownBy hg fun j o e ho' => ?_)).trans (KeepsOthers.setCell _ _ _), fun k h1 h2 => ?_, v', acc ++ [q], hv.set v', ?_, fun rest => ?_, by simp; omega, ?_, ?_, ?_, ?_⟩
  · obtain ⟨cells, hc⟩ := own_typed (i2.alloc _) j e
    rw [hc] at ho'
    cases ho'
    rfl
  · refine (Below.heap_setCell _ _ _ _ (by show k ≠ w.heap.size + 2; omega)).trans ((hg.block k (by simp; omega) (fun e => ?_)).trans ((Lib.alloc_old _ _ _ (by omega)).trans (p2 k h1 h2)))
    have := hne k e.symm
    omega
  · have e : (acc ++ [q]).map (Value.int .i64) = acc.map (Value.int .i64) ++ [.int .i64 q] := by simp
    rw [e, List.length_append]
    exact row_other ho (by omega) _
  · rw [List.append_assoc, h3]
    exact pathGo_good hq (by omega) _
  · exact Boxed.other ((i5.alloc _).kept hg (fun e => by have := hne _ e.symm; omega)) (by omega) _
  · exact Boxed.other ((i6.alloc _).kept hg (fun e => by have := hne _ e.symm; omega)) (by omega) _
  · exact ((i7.alloc i7.size _).grown hg (by simp; omega) (fun k e => by have := hne k e; omega)).setCell (p := ⟨w.heap.size + 2, 0, none⟩) (by simp) _
  · have h1 := hg.size
    have h2 := (grownBy_setCell' w1 (w.heap.size + 2) v').size
    simp at h1
    omega
theorem pathI_own (w : World) {B : Nat} (hB : w.heap.size + 6 = B) : OwnFrom B (PathI w) := by
  rintro pre W W' row ⟨v, acc, h1, h2, h3, h4, h5, h6, h7, h8⟩ hg hr
  refine ⟨v, acc, h1.kept hg ?_, row_kept h2 hg (fun r e => (hr r e).2), h3, h4, h5.kept hg ?_, h6.kept hg ?_, h7.grown hg (by omega) (fun k e => by have := (hr k e).1; omega), by have := hg.size; omega⟩
  all_goals intro e; have := (hr _ e.symm).1; omega
theorem pathX_own (w : World) (c : Code) {B : Nat} (hB : w.heap.size + 6 = B) : OwnFrom B (PathX w c) := by
  rintro pre W W' row ⟨rfl, h5, h6, h3, h7⟩ hg hr
  refine ⟨rfl, h5.kept hg ?_, h6.kept hg ?_, h3, h7.grown hg (h7.size) (fun k e => by have := (hr k e).1; omega)⟩
  all_goals intro e; have := (hr _ e.symm).1; omega
theorem pathI_set (w : World) (pre : List ByteArray) (A B : World) (h : PathI w pre A) (hs : ∃ v, B = A.setCell ⟨w.heap.size + 3, 0, none⟩ v) : PathI w pre B := by
  obtain ⟨u, rfl⟩ := hs
  obtain ⟨v, acc, h1, h2, h3, h4, h5, h6, h7, h8⟩ := h
  exact ⟨v, acc, h1.other (by omega) u, row_other h2 (by omega) u, h3, h4, h5.other (by omega) u, h6.other (by omega) u, h7.setCell (p := ⟨w.heap.size + 3, 0, none⟩) (by simp) u, by have := (grownBy_setCell' A (w.heap.size + 3) u).size; omega⟩
set_option maxHeartbeats 2000000 in
set_option maxRecDepth 100000 in
theorem name_Path.calls (a0 : ByteArray) (r1 : List Int) (r2 : Int) (w : World) (h : name_Path.f a0 = some (r1, r2)) :
    Calls Tryd.prog 14 #[.string a0] w fun e w' => ∃ v0_ : Value, e = .returned (.tuple #[v0_, .int .i64 r2]) ∧ Kd.R (Kd.int .i64) 3 w' w.heap.size (fun _ => True) v0_ r1 ∧ Below w.heap.size w w' := by
  refine (callsIn_wide (n := 10)).1 ?_
  refine callsIn_of_wp_marks Tryd.func14 rfl trivial ?_ rfl
  simp only [Tryd.ntmps14, List.size_toArray, List.length_cons, List.length_nil, Nat.reduceAdd, Nat.reduceSub, Array.replicate_succ, Array.replicate_zero, List.push_toArray, List.append_toArray, List.nil_append, List.cons_append]
  unfold name_Path.f at h
  by_cases c1 : a0.toList = ([47] : List UInt8)
  · rw [if_pos c1] at h
    simp only [Option.some.injEq, Prod.mk.injEq] at h
    obtain ⟨rfl, rfl⟩ := h
    have c1b : (a0.toList == ([47] : List UInt8)) = true := beq_iff_eq.mpr c1
    clear c1
    gi_wp2
    exact path_out (b := w.heap.size) (v := .slice none 0 0) (r := 0) rfl rfl ((boxed_next rfl 22 _).1.alloc _) (boxed_next (boxed_next rfl 22 _).2 26 _).1 ⟨_, rfl, Kd.R_nil _ _ _ _ _, ((Below.refl _ w).alloc (Nat.le_refl _) _).alloc (by simp) _⟩
  rw [if_neg c1] at h
  by_cases c0 : a0.size ≤ 1000000000000
  case neg => rw [if_neg c0] at h; exact absurd h (by simp)
  rw [if_pos c0] at h
  obtain ⟨⟨rest, ok⟩, hcut, h⟩ := Option.bind_eq_some_iff.1 h
  replace h : (if ok = true then pathGo (partsOf rest) [] else some ([], 1)) = some (r1, r2) := h
  have c1b : (a0.toList == ([47] : List UInt8)) = false := beq_eq_false_iff_ne.mpr c1
  have HC := Aside0.mk hcut
  have H := Aside0.mk h
  clear c1 hcut h
  gi_wp2_with fail
  refine ⟨trivial, ?_⟩
  refine (callsIn_wide.2 (strings_CutPrefix.calls a0 (⟨#[47]⟩ : ByteArray) rest ok _ HC.out)).mono ?_
  rintro e w1 ⟨rfl, ⟨nd, rfl⟩⟩
  have b0 : Boxed (((w.alloc (.cells #[.slice none 0 0] 22)).alloc (.cells #[.int .i64 0] 26)).drewN nd) w.heap.size 22 (.slice none 0 0) := (Boxed.new w 22 _).alloc _
  have b1 : Boxed (((w.alloc (.cells #[.slice none 0 0] 22)).alloc (.cells #[.int .i64 0] 26)).drewN nd) (w.heap.size + 1) 26 (.int .i64 0) := (boxed_next (boxed_next rfl 22 _).2 26 _).1
  have hB : Below w.heap.size w (((w.alloc (.cells #[.slice none 0 0] 22)).alloc (.cells #[.int .i64 0] 26)).drewN nd) := pw_below_drewN (((Below.refl _ w).alloc (Nat.le_refl _) _).alloc (by simp) _) _
  have hsz : (((w.alloc (.cells #[.slice none 0 0] 22)).alloc (.cells #[.int .i64 0] 26)).drewN nd).heap.size = w.heap.size + 2 := by
    show ((w.alloc (.cells #[.slice none 0 0] 22)).alloc (.cells #[.int .i64 0] 26)).heap.size = _
    simp
  revert b0 b1 hB hsz
  generalize ((w.alloc (.cells #[.slice none 0 0] 22)).alloc (.cells #[.int .i64 0] 26)).drewN nd = W1
  intro b0 b1 hB hsz
  have HB := Aside0.mk hB
  have HZ := Aside0.mk hsz
  clear hB hsz
  have d0 := b0.cell
  have d1 := b1.cell
  have f0 := b0.frozen
  have f1 := b1.frozen
  cases ok with
  | false =>
    have h := H.out
    rw [if_neg (by decide)] at h
    simp only [Option.some.injEq, Prod.mk.injEq] at h
    obtain ⟨rfl, rfl⟩ := h
    gi_wp2
    exact path_out (b := w.heap.size) (v := .slice none 0 0) (r := 1) rfl rfl (Boxed.other (b0.set _) (by omega) _) ((b1.other (by omega) _).set _) ⟨_, rfl, Kd.R_nil _ _ _ _ _, (HB.out.setCell (Nat.le_refl _) _).setCell (by simp) _⟩
  | true =>
    have h := H.out
    rw [if_pos rfl] at h
    have HG := Aside0.mk h
    clear h H
    gi_wp2_with fail
    refine ⟨trivial, ?_⟩
    refine (callsIn_wide.2 (splitSeq_any rest ⟨#[47]⟩ _)).mono ?_
    rintro e w2 ⟨rfl, rfl⟩
    have n2 := boxed_next HZ.out 22 (.slice none 0 0)
    have n3 := boxed_next n2.2 9 (.string rest)
    have n4 := boxed_next n3.2 9 (.string ⟨#[47]⟩)
    have n5 := boxed_next n4.2 3 (.int .i64 0)
    have g0 := (((b0.alloc (.cells #[.slice none 0 0] 22)).alloc (.cells #[.string rest] 9)).alloc (.cells #[.string ⟨#[47]⟩] 9)).alloc (.cells #[.int .i64 0] 3)
    have g1 := (((b1.alloc (.cells #[.slice none 0 0] 22)).alloc (.cells #[.string rest] 9)).alloc (.cells #[.string ⟨#[47]⟩] 9)).alloc (.cells #[.int .i64 0] 3)
    have g2 := ((n2.1.alloc (.cells #[.string rest] 9)).alloc (.cells #[.string ⟨#[47]⟩] 9)).alloc (.cells #[.int .i64 0] 3)
    have g3 := (n3.1.alloc (.cells #[.string ⟨#[47]⟩] 9)).alloc (.cells #[.int .i64 0] 3)
    have g4 := n4.1.alloc (.cells #[.int .i64 0] 3)
    have g5 := n5.1
    have gz := n5.2
    have gB := (((HB.out.alloc HB.out.size (.cells #[.slice none 0 0] 22)).alloc (by rw [n2.2]; omega) (.cells #[.string rest] 9)).alloc (by rw [n3.2]; omega) (.cells #[.string ⟨#[47]⟩] 9)).alloc (by rw [n4.2]; omega) (.cells #[.int .i64 0] 3)
    rw [n2.2, HZ.out]
    clear n2 n3 n4 n5 b0 b1 HB HZ d0 d1 f0 f1
    revert g0 g1 g2 g3 g4 g5 gz gB
    generalize (((W1.alloc (.cells #[.slice none 0 0] 22)).alloc (.cells #[.string rest] 9)).alloc (.cells #[.string ⟨#[47]⟩] 9)).alloc (.cells #[.int .i64 0] 3) = W5
    intro g0 g1 g2 g3 g4 g5 gz gB
    gi_wp2
    refine range_st (F := Fence.wide) (n := 10) rfl (by decide) (gf := 31) (lb := #[.pointer (some ⟨w.heap.size + 3 + 1, 0, none⟩), .pointer (some ⟨w.heap.size + 3, 0, none⟩), .pointer (some ⟨w.heap.size + 3 + 2, 0, none⟩)]) rfl trivial (enters_of Tryd.func31 (by kernel_rfl) rfl)
      (splitIter 9 (w.heap.size + 3) rest W5 ?hsz (by omega) g3 g4 g5) (fun h1 h2 k a b => (h2 k a b).trans (h1 k a b)) ?hkb (fun _ => rfl) ?hst (PathI w) (PathX w) (pathI_own w gz.symm) (pathI_set w) (fun c => pathX_own w c gz.symm) ?h0
      (fun x => { tmps := #[.string a0, undef, .pointer (some ⟨w.heap.size, 0, none⟩), .pointer (some ⟨w.heap.size + 1, 0, none⟩), .string rest, .bool true, .pointer (some ⟨w.heap.size + 2, 0, none⟩), .string x, undef, undef, .string a0, .bool false, .tuple #[.string rest, .bool true], .string a0, .tuple #[.string rest, .bool true], .string rest, .bool true, .bool true, .bool false, .string rest, .func (.func 31) #[] #[.pointer (some ⟨w.heap.size + 3 + 1, 0, none⟩), .pointer (some ⟨w.heap.size + 3, 0, none⟩), .pointer (some ⟨w.heap.size + 3 + 2, 0, none⟩)], .string x, undef, undef, undef, undef, undef, undef, undef, undef, undef, undef, undef, undef, undef, undef, undef, undef, undef], defers := [] }) ?assign ?body ?done ?stop
    case hsz =>
      have := cut_size HC.out
      omega
    case hkb => exact fun W l o' hl k a b => World.putObj_heap_other (by omega)
    case hst =>
      rintro A B l o ⟨v, rfl⟩ ho hl
      exact (Below.heap_setCell _ _ _ _ (by show l ≠ w.heap.size + 3; omega)).trans ho
    case h0 => exact ⟨.slice none 0 0, [], g2, World.ownsRow_nil _ _ _ _, fun _ => rfl, by simp, g0, g1, gB, by omega⟩
    case assign =>
      intro l x W K hK
      gi_wp2
      exact hK
    case body =>
      rintro l pre x W hI _
      obtain ⟨v, acc, h1, h2, h3, h4, h5, h6, h7, h8⟩ := hI
      obtain ⟨⟨q, e⟩, hq⟩ := of_total x
      have HQ := Aside0.mk hq
      have H3 := Aside0.mk h3
      clear hq h3
      gi_wp2_with fail
      refine ⟨trivial, ?_⟩
      refine (CallsIn.inRound l (callsIn_wide.2 (name_Of.calls x q e _ HQ.out))).mono ?_
      rintro e2 W2 ⟨rfl, hb⟩
      have k2 : KeepsOthers W W2 := ⟨hb.size, fun k o h _ => (hb.block k (Array.getElem?_eq_some_iff.1 h).1).trans h⟩
      have p2 : ∀ k, w.heap.size + 3 ≤ k → k ≤ w.heap.size + 3 + 2 → W2.heap[k]? = W.heap[k]? := fun k _ _ => hb.block k (by omega)
      have i1 : Boxed W2 (w.heap.size + 2) 22 v := (hb.block _ h1.lt).trans h1
      have i2 : W2.ownsRow (w.heap.size + 6) 3 1 v acc.length (acc.map (Value.int .i64)) := own_move h2 (fun k hk => hb.block k (own_lt h2 k hk))
      have i5 : Boxed W2 w.heap.size 22 (.slice none 0 0) := (hb.block _ h5.lt).trans h5
      have i6 : Boxed W2 (w.heap.size + 1) 26 (.int .i64 0) := (hb.block _ h6.lt).trans h6
      have i7 : Below w.heap.size w W2 := h7.trans (hb.mono h7.size)
      have i8 : w.heap.size + 6 ≤ W2.heap.size := Nat.le_trans h8 hb.size
      have hR : Kd.R (Kd.int .i64) 3 W2 (w.heap.size + 6) (fun _ => True) v acc := Kd.R_of_own i2 (fun _ _ => trivial)
      obtain ⟨Ao, co, rfl⟩ := Kd.R_slice hR
      have d1 := i1.cell
      have d5 := i5.cell
      have d6 := i6.cell
      have f1 := i1.frozen
      have f5 := i5.frozen
      have f6 := i6.frozen
      have I2 := Aside0.mk i2
      have HB := Aside0.mk hb
      have P2 := Aside0.mk p2
      clear h1 h2 h5 h6 h7 h8 hb i2 hR p2
      by_cases he : e = 0
      · subst he
        by_cases h20 : acc.length = 20
        · have h20b : ((acc.length : Int) == 20) = true := by simp [h20]
          have H20 := Aside0.mk h20
          clear h20 h4
          gi_wp2
          refine ⟨(k2.trans (KeepsOthers.setCell _ _ _)).trans (KeepsOthers.setCell _ _ _), rfl, Boxed.other (i5.set _) (by omega) _, (i6.other (by omega) _).set _, ?_, (i7.setCell (p := ⟨w.heap.size, 0, none⟩) (Nat.le_refl _) _).setCell (p := ⟨w.heap.size + 1, 0, none⟩) (by simp) _⟩
          intro rest
          rw [List.append_assoc, H3.out]
          exact pathGo_bad HQ.out (.inr H20.out) _
        · have h20b : ((acc.length : Int) == 20) = false := beq_eq_false_iff_ne.mpr (by omega)
          have H20 := Aside0.mk h20
          have h19 : acc.length ≤ 19 := by omega
          clear h20 h4
          obtain ⟨i0, hi, hz0, hz1, hz2⟩ := info_parts inf_int
          gi_wp2_with (gi_at_builtin; refine wpListIn_append_own _ rfl _ _ 22 rfl (w.heap.size + 6) 3 i0 (.int .i64 0) 1 8 Tryd.underlying22 hi hz0 hz1 hz2 rfl (by decide) _ _ _ rfl (I2.out.alloc _) ⟨W2.heap.size, 0, none⟩ 1 1 [.int .i64 q] rfl rfl (cell_one_new _ _ _) (by simp [Value.oneCell']) (by unfold maxLen; omega) (by omega) (by simp; omega) ?_; intro v' w1 hown' hgrow _; obtain ⟨g', cap', rfl⟩ := ownsRow_succ hown'; have hv1 := (i1.alloc (.cells #[.int .i64 q] 3)).kept hgrow ((i1.alloc (.cells #[.int .i64 q] 3)).not_row (by decide) (I2.out.alloc _)); have hc1 := hv1.cell; have hf1 := hv1.frozen; have HO1 := Aside0.mk hown'; have HG1 := Aside0.mk hgrow; have HV1 := Aside0.mk hv1; clear hown' hgrow hv1)
          exact path_more k2 P2.out i5 i6 i7 i8 I2.out HO1.out HG1.out HV1.out H3.out HQ.out h19
      · have heb : (e == 0) = false := beq_eq_false_iff_ne.mpr he
        have heb2 : (e != 0) = true := bne_iff_ne.mpr he
        have HE := Aside0.mk he
        clear he
        gi_wp2
        refine ⟨(k2.trans (KeepsOthers.setCell _ _ _)).trans (KeepsOthers.setCell _ _ _), rfl, Boxed.other (i5.set _) (by omega) _, (i6.other (by omega) _).set _, ?_, (i7.setCell (p := ⟨w.heap.size, 0, none⟩) (Nat.le_refl _) _).setCell (p := ⟨w.heap.size + 1, 0, none⟩) (by simp) _⟩
        intro rest
        rw [List.append_assoc, H3.out]
        exact pathGo_bad HQ.out (.inl HE.out) _
    case done =>
      rintro D ys W hD rfl hI hK
      obtain ⟨v, acc, h1, h2, h3, h4, h5, h6, h7, h8⟩ := hI
      have hr := h3 []
      rw [List.append_nil, HG.out] at hr
      simp only [pathGo, Option.some.injEq, Prod.mk.injEq] at hr
      obtain ⟨rfl, rfl⟩ := hr
      have c1 := h1.cell
      have c5 := h5.cell
      have c6 := h6.cell
      have f5 := h5.frozen
      have f6 := h6.frozen
      have hR : Kd.R (Kd.int .i64) 3 W (w.heap.size + 6) (fun _ => True) v r1 := Kd.R_of_own h2 (fun _ _ => trivial)
      obtain ⟨Ao, co, rfl⟩ := Kd.R_slice hR
      have H2 := Aside0.mk h2
      clear h2 hR
      gi_wp2
      have hk2 : ((W.setCell ⟨w.heap.size, 0, none⟩ (.slice Ao r1.length co)).setCell ⟨w.heap.size + 1, 0, none⟩ (.int .i64 0)).heap[D]? = some (.deferred (some [])) := (KeepsOthers.setCell _ _ _).same D _ ((KeepsOthers.setCell _ _ _).same D _ hK rfl) rfl
      refine path_out2 (b := w.heap.size) (v := .slice Ao r1.length co) (r := 0) rfl rfl (Boxed.other (h5.set _) (by omega) _) ((h6.other (by omega) _).set _) (by omega) hk2 ?_
      refine ⟨_, rfl, Kd.R_of_own (ownsRow_putObj (own_weaken (row_other (row_other H2.out (by omega) _) (by omega) _) (by omega)) (o := .deferred (some [])) _ hk2 rfl) (fun _ _ => trivial), ?_⟩
      have hB2 : Below w.heap.size w ((W.setCell ⟨w.heap.size, 0, none⟩ (.slice Ao r1.length co)).setCell ⟨w.heap.size + 1, 0, none⟩ (.int .i64 0)) := (h7.setCell (p := ⟨w.heap.size, 0, none⟩) (Nat.le_refl _) _).setCell (p := ⟨w.heap.size + 1, 0, none⟩) (by simp) _
      exact hB2.trans (belowK_b (w := W5) (by omega) _ D _ _ (by omega) hk2 rfl rfl)
    case stop =>
      rintro D c pre W hD ⟨rest', hsp⟩ ⟨rfl, h5, h6, h3, h7⟩ hK
      have hr := h3 rest'
      rw [hsp, HG.out] at hr
      simp only [Option.some.injEq, Prod.mk.injEq] at hr
      obtain ⟨rfl, rfl⟩ := hr
      gi_wp2
      exact path_out2 (b := w.heap.size) (v := .slice none 0 0) (r := 1) rfl rfl h5 h6 (by omega) hK ⟨_, rfl, Kd.R_nil _ _ _ _ _, h7.trans (belowK_b (w := W5) (by omega) W D _ _ (by omega) hK rfl rfl)⟩


end Go.Proofs.YtcdgbpojcdecbaaDoor.P
