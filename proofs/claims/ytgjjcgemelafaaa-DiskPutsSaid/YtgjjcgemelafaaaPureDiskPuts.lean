import Derived.Test.YtgjjcgemelafaaaPx19
import Derived.Test.YtgjjcgemelafaaaPx18
import Derived.Test.YtgjjcgemelafaaaPx17
import Derived.Test.YtgjjcgemelafaaaPx14
import Derived.Test.YtgjjcgemelafaaaPx12
import Derived.Test.YtgjjcgemelafaaaPx10
import Derived.Test.YtgjjcgemelafaaaPx8
import Derived.Test.YtgjjcgemelafaaaPx30
import Derived.Test.YtgjjcgemelafaaaRd
namespace Go.Proofs.Ytgjjcgemelafaaa.Pure
open Go.RowKit Go.Proofs.Ytgjjcgemelafaaa.P Go.Proofs.Ytgjjcgemelafaaa.Rd Go.Proofs.YtgjjcgemelafaaaW.PrintWords Go.Proofs.YtgjjcgemelafaaaW.PrintLast
set_option linter.unusedVariables false
set_option linter.unusedSimpArgs false
set_option linter.unusedVariables false
set_option linter.unusedSimpArgs false
set_option linter.unusedVariables false
set_option linter.unusedSimpArgs false
theorem puts_j2 (a b : List ByteArray) (l : List S79) (x y : S79) (hr : rightB a l = true) (ha : a.length ≤ 60) (hl : l.length ≤ 60) (hx : fitsB a.length x = true) (t : Bool) (ht : t = false → fitsB a.length y = true ∧ ¬ x.f0 = y.f0) : Ev (fun k => assartlaw02_DiskPuts.j2 k true t x.f0 x.f1 y.f0 y.f1 a (l ++ [x]) a (putF a l y).1) true := by
  have hrx := right_snoc hr hx
  cases t with
  | true =>
    refine Ev.step (fun k => by simp only [assartlaw02_DiskPuts.j2, if_true]; rfl) ?_
    have h := ev_right a (l ++ [x]) (by simp; omega)
    rw [hrx] at h
    exact Ev.bind (f := fun _ t => some t) h (Ev.now true)
  | false =>
    obtain ⟨hy, hne⟩ := ht rfl
    have hry := right_snoc hr hy
    have hrxy := right_snoc hrx hy
    have hryx := right_snoc hry hx
    have e1 : (putF a l y) = (l ++ [y], 0) := by unfold putF; rw [if_pos hy]
    have e2 : disk_Put.f a (l ++ [x]) y.f0 y.f1 = some (a, (l ++ [x]) ++ [y], 0) := by
      rw [dput_eq _ _ (by simp; omega)]; unfold putF; rw [if_pos (show fitsB a.length ⟨y.f0, y.f1⟩ = true from hy)]
    have e3 : disk_Put.f a (l ++ [y]) x.f0 x.f1 = some (a, (l ++ [y]) ++ [x], 0) := by
      rw [dput_eq _ _ (by simp; omega)]; unfold putF; rw [if_pos (show fitsB a.length ⟨x.f0, x.f1⟩ = true from hx)]
    refine Ev.step (fun k => by simp only [assartlaw02_DiskPuts.j2, Bool.false_eq_true, if_false]; rfl) ?_
    simp only [e1, e2, e3, Option.bind_some, if_true, dflush_eq hrxy, dflush_eq hryx]
    have hlay : layF a (l ++ [x] ++ [y]) = layF a (l ++ [y] ++ [x]) := by
      rw [layF_snoc, layF_snoc, layF_snoc, layF_snoc]
      obtain ⟨f0, _, _⟩ := fits_iff hx
      obtain ⟨g0, _, _⟩ := fits_iff hy
      exact List.set_comm _ _ (by omega)
    exact Ev.bind (f := fun _ t => some t) (ev_same_true (by rw [layF_length]; omega) (by simp) hlay rfl) (Ev.now true)
theorem lastN_snoc (l : List S79) (x : S79) (a : Int) : ∀ k, k ≤ l.length → lastN (l ++ [x]) a k = lastN l a k
  | 0, _ => rfl
  | k + 1, h => by
    simp only [lastN]
    have e : (l ++ [x]).getD k z79 = l.getD k z79 := by rw [List.getD_eq_getElem?_getD, List.getD_eq_getElem?_getD, List.getElem?_append_left (by omega)]
    rw [e, lastN_snoc l x a k (by omega)]
theorem readF_snoc (b : List ByteArray) (l : List S79) (x : S79) (a : Int) : readF b (l ++ [x]) a = if 0 ≤ a ∧ a < b.length then (if x.f0 = a then x.f1 else ((lastN l a l.length).getD (rdOf ByteArray.empty b a)), 0) else (⟨#[]⟩, 1) := by
  unfold readF
  by_cases h : 0 ≤ a ∧ a < (b.length : Int)
  · rw [if_pos h, if_pos h]
    congr 1
    rw [show (l ++ [x]).length = l.length + 1 by simp]
    simp only [lastN]
    have e : (l ++ [x]).getD l.length z79 = x := by rw [List.getD_eq_getElem?_getD]; simp
    rw [e, lastN_snoc l x a l.length (Nat.le_refl _)]
    split <;> rfl
  · rw [if_neg h, if_neg h]
theorem puts_l0 (a : List ByteArray) (l : List S79) (x y : S79) (hr : rightB a l = true) (ha : a.length ≤ 60) (hl : l.length ≤ 60) (hx : fitsB a.length x = true) : ∀ n i, i + n = a.length → Ev (fun k => assartlaw02_DiskPuts.l0 k true (i : Int) a l x.f0 x.f1 y.f0 y.f1 a (l ++ [x])) true := by
  intro n
  induction n with
  | zero =>
    intro i hi
    have e1 : disk_Put.f a l y.f0 y.f1 = some (a, putF a l y) := dput_eq _ _ (by omega) _ _
    refine Ev.step (fun k => by simp only [assartlaw02_DiskPuts.l0]; rw [if_neg (by omega), e1]) ?_
    simp only [Option.bind_some]
    by_cases hy : fitsB a.length y = true
    · have e2 : (putF a l y) = (l ++ [y], 0) := by unfold putF; rw [if_pos hy]
      have h := puts_j2 a a l x y hr ha hl hx (x.f0 == y.f0) (fun h => ⟨hy, by simpa using h⟩)
      rw [e2] at h ⊢
      simpa using h
    · have e2 : (putF a l y) = (l, 1) := by unfold putF; rw [if_neg hy]
      have h := puts_j2 a a l x y hr ha hl hx true (fun h => by cases h)
      rw [e2] at h ⊢
      simpa using h
  | succ n ih =>
    intro i hi
    refine Ev.step (fun k => ?_) (ih (i + 1) (by omega))
    simp only [assartlaw02_DiskPuts.l0]
    rw [if_pos (by omega), dread_eq, dread_eq]
    simp only [Option.bind_some]
    have e1 := readF_snoc a l x (i : Int)
    rw [if_pos (by omega)] at e1
    have e2 : readF a l (i : Int) = ((lastN l (i : Int) l.length).getD (rdOf ByteArray.empty a (i : Int)), 0) := by unfold readF; rw [if_pos (by omega)]
    rw [e1, e2, if_pos (show (0 : Int) = 0 from rfl), if_pos (show (0 : Int) = 0 from rfl), wrap_upD (by omega)]
    by_cases he : (i : Int) = x.f0
    · have he' : x.f0 = (i : Int) := he.symm
      rw [if_pos he, if_pos he', if_pos rfl]
    · have he' : ¬ x.f0 = (i : Int) := fun h => he h.symm
      rw [if_neg he, if_neg he', if_pos rfl]
theorem DiskPuts : ∀ (l0_0 : List ByteArray) (l0_1 : List (S79)) (a1_0 : Int) (a1_1 : ByteArray) (a2_0 : Int) (a2_1 : ByteArray), (l0_0.length ≤ 9223372036854775807) → (∀ x_ ∈ l0_0, x_.size ≤ maxLen) → (l0_1.length ≤ 9223372036854775807) → (∀ x_ ∈ l0_1, I79 x_) → ((Lit.int .i64 a1_0).wf = true) → (a1_1.size ≤ maxLen) → ((Lit.int .i64 a2_0).wf = true) → (a2_1.size ≤ maxLen) → ∃ k, assartlaw02_DiskPuts.f k l0_0 l0_1 a1_0 a1_1 a2_0 a2_1 = some true := by
  intro a b x0 x1 y0 y1 _ _ _ _ _ _ _ _
  refine Ev.rounds ?_
  simp only [assartlaw02_DiskPuts.f]
  refine Ev.bind ev_shown ?_
  obtain ⟨s1, e1, q1⟩ := ev_small a b 60 (by decide)
  refine Ev.bind e1 ?_
  have hup : Ev (fun k => assartlaw02_DiskPuts.j0 k true true a b x0 x1 y0 y1) true := Ev.const fun k => by simp only [assartlaw02_DiskPuts.j0]; rw [if_pos trivial]
  cases s1 with
  | false => simpa using hup
  | true =>
    simp only [if_true]
    obtain ⟨ha, hb⟩ := q1 rfl
    refine Ev.bind (ev_right a b (by omega)) ?_
    cases hr : rightB a b with
    | false => simpa using hup
    | true =>
      simp only [if_true]
      by_cases h1 : (x1.size : Int) > 100
      · simp only [if_pos h1]; exact hup
      · simp only [if_neg h1]
        by_cases h2 : (y1.size : Int) > 100
        · rw [decide_eq_true h2]; exact hup
        · rw [decide_eq_false h2]
          refine Ev.step (fun k => by simp only [assartlaw02_DiskPuts.j0, Bool.false_eq_true, if_false]; rfl) ?_
          rw [dput_eq a b (by omega)]
          simp only [Option.bind_some]
          by_cases hx : fitsB a.length (⟨x0, x1⟩ : S79) = true
          · have e2 : (putF a b ⟨x0, x1⟩) = (b ++ [⟨x0, x1⟩], 0) := by unfold putF; rw [if_pos hx]
            rw [e2]
            simp only [if_true]
            exact puts_l0 a b ⟨x0, x1⟩ ⟨y0, y1⟩ hr (by omega) (by omega) hx a.length 0 (by omega)
          · have e2 : (putF a b ⟨x0, x1⟩) = (b, 1) := by unfold putF; rw [if_neg hx]
            rw [e2]
            simp only [if_true, Int.reduceEq, if_false]
            exact Ev.bind (f := fun _ t => some t) (ev_same_true (by omega) (by omega) rfl rfl) (Ev.now true)
end Go.Proofs.Ytgjjcgemelafaaa.Pure
