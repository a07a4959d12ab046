-- By wip/tools/drive.py: the kit's print, with contracts of this session's own among the functions.
import Derived.Test.YtgjjcgemelafaaaPx0
import Derived.Test.YtgjjcgemelafaaaPx4
import Derived.Test.YtgjjcgemelafaaaPx7
import Derived.Test.YtgjjcgemelafaaaPx8
import Derived.Test.YtgjjcgemelafaaaPx10
import Derived.Test.YtgjjcgemelafaaaPx12
import Derived.Test.YtgjjcgemelafaaaPx14
import Derived.Test.YtgjjcgemelafaaaPx15
import Derived.Test.YtgjjcgemelafaaaPx17
import Derived.Test.YtgjjcgemelafaaaPx21
import Derived.Test.YtgjjcgemelafaaaPx23
import Derived.Test.YtgjjcgemelafaaaPx26
import Derived.Test.YtgjjcgemelafaaaPx27
namespace Go.Proofs.Ytgjjcgemelafaaa.P
open Go.RowKit Go.Proofs.YtgjjcgemelafaaaW.PrintWords Go.Proofs.YtgjjcgemelafaaaW.PrintLast Go.Proofs.YtgjjcgemelafaaaW.PrintMore
attribute [local go_sem] max2_int min2_int max_two min_two max_three min_three max_four min_four   -- for this text's walks alone
set_option linter.unusedVariables false
set_option linter.unusedSimpArgs false
theorem dread_eq (b : List ByteArray) (l : List S79) (a : Int) : disk_Read.f b l a = some (readF b l a) := rfl
theorem fits_iff {n : Nat} {x : S79} (h : fitsB n x = true) : 0 ≤ x.f0 ∧ x.f0 < (n : Int) ∧ x.f1.size = 40 := by
  unfold fitsB at h
  simp only [Bool.and_eq_true, decide_eq_true_eq] at h
  obtain ⟨h1, h2, h3⟩ := h
  exact ⟨h1, h2, by have := (beq_iff_eq.1 h3); omega⟩
def isFlush (x : S79) : Bool := (x.f0 == (-1) && x.f1.toList == ([] : List UInt8))
/-- A plan that is done, from its i-th write on. -/
def doF (stop : Int) : List S79 → Nat → List ByteArray → List S79 → List ByteArray × List S79 × Int
  | [], i, b, l => (b, l, (i : Int))
  | x :: r, i, b, l => if (i : Int) = stop then (b, l, (i : Int)) else if isFlush x = true then doF stop r (i + 1) (layF b l) [] else if fitsB b.length x = true then doF stop r (i + 1) b (l ++ [x]) else (b, l, (i : Int))
theorem layF_sizes (l : List S79) : ∀ b : List ByteArray, (∀ s ∈ b, s.size = 40) → (∀ x ∈ l, x.f1.size = 40) → ∀ s ∈ layF b l, s.size = 40 := by
  induction l with
  | nil => intro b hb _; exact hb
  | cons x l ih =>
    intro b hb hx
    have : layF b (x :: l) = layF (b.set x.f0.toNat x.f1) l := rfl
    rw [this]
    refine ih _ (fun s hs => ?_) (fun y hy => hx y (by simp [hy]))
    rcases List.mem_or_eq_of_mem_set hs with h | h
    · exact hb s h
    · rw [h]; exact hx x (by simp)
theorem right_layF {b : List ByteArray} {l : List S79} (h : rightB b l = true) : rightB (layF b l) [] = true := by
  obtain ⟨h1, h2, h3, h4⟩ := rightB_iff h
  exact rightB_mk (by rw [layF_length]; exact h1) (by rw [layF_length]; exact h2) (layF_sizes l b h3 (fun x hx => (fits_iff (h4 x hx)).2.2)) (by simp)
theorem right_snoc {b : List ByteArray} {l : List S79} {x : S79} (h : rightB b l = true) (hx : fitsB b.length x = true) : rightB b (l ++ [x]) = true := by
  obtain ⟨h1, h2, h3, h4⟩ := rightB_iff h
  refine rightB_mk h1 h2 h3 (fun y hy => ?_)
  rcases List.mem_append.1 hy with hy | hy
  · exact h4 y hy
  · obtain rfl := List.mem_singleton.1 hy; exact hx
theorem ev_do_l0 (w : List S79) (stop : Int) (hw : w.length ≤ 1000) : ∀ n i b l, i + n = w.length → rightB b l = true → l.length + n ≤ 2000 → Ev (fun k => disk_Do.l0 k w stop w (w.length : Int) (i : Int) b l) (doF stop (w.drop i) i b l) := by
  intro n
  induction n with
  | zero =>
    intro i b l hi hr hl
    rw [List.drop_of_length_le (by omega)]
    exact Ev.const fun k => by simp only [disk_Do.l0]; rw [if_neg (by omega), doF, show (w.length : Int) = (i : Int) by omega]
  | succ n ih =>
    intro i b l hi hr hl
    have h1 : i < w.length := by omega
    rw [List.drop_eq_getElem_cons h1, doF]
    by_cases hs : (i : Int) = stop
    · rw [if_pos hs]
      exact Ev.const fun k => by simp only [disk_Do.l0]; rw [if_pos (by omega), if_pos (by omega), if_pos (by omega), if_pos hs]
    · rw [if_neg hs]
      by_cases hf : isFlush w[i] = true
      · rw [if_pos hf]
        refine Ev.step (fun k => ?_) (ih (i + 1) (layF b l) [] (by omega) (right_layF hr) (by simp; omega))
        simp only [disk_Do.l0]
        rw [if_pos (by omega), if_pos (by omega), if_pos (by omega), if_neg hs, rd_nat79 _ _ h1, if_pos (show (w[i].f0 == -1 && w[i].f1.toList == ([] : List UInt8)) = true from hf), dflush_eq hr, wrap_upD (by omega)]
        rfl
      · rw [if_neg hf]
        by_cases hx : fitsB b.length w[i] = true
        · rw [if_pos hx]
          refine Ev.step (fun k => ?_) (ih (i + 1) b (l ++ [w[i]]) (by omega) (right_snoc hr hx) (by simp; omega))
          simp only [disk_Do.l0]
          rw [if_pos (by omega), if_pos (by omega), if_pos (by omega), if_neg hs, rd_nat79 _ _ h1, if_neg (show ¬ (w[i].f0 == -1 && w[i].f1.toList == ([] : List UInt8)) = true from hf), dput_eq _ _ (by omega)]
          unfold putF
          rw [show (⟨w[i].f0, w[i].f1⟩ : S79) = w[i] from rfl, if_pos hx]
          simp only [Option.bind_some]
          rw [if_pos trivial, wrap_upD (by omega)]
        · rw [if_neg hx]
          exact Ev.const fun k => by
            simp only [disk_Do.l0]
            rw [if_pos (by omega), if_pos (by omega), if_pos (by omega), if_neg hs, rd_nat79 _ _ h1, if_neg (show ¬ (w[i].f0 == -1 && w[i].f1.toList == ([] : List UInt8)) = true from hf), dput_eq _ _ (by omega)]
            unfold putF
            rw [show (⟨w[i].f0, w[i].f1⟩ : S79) = w[i] from rfl, if_neg hx]
            simp only [Option.bind_some]
            rw [if_neg (by decide)]
theorem ev_do {b : List ByteArray} {l : List S79} (w : List S79) (stop : Int) (hr : rightB b l = true) (hw : w.length ≤ 1000) (hl : l.length ≤ 1000) : Ev (fun k => disk_Do.f k b l w stop) (doF stop w 0 b l) :=
  Ev.congr (fun k => by unfold disk_Do.f; rfl) (ev_do_l0 w stop hw w.length 0 b l (by omega) hr (by omega))
def zero40 : ByteArray := ⟨#[0, 0, 0, 0, 0, 0, 0, 0, 0, 0, 0, 0, 0, 0, 0, 0, 0, 0, 0, 0, 0, 0, 0, 0, 0, 0, 0, 0, 0, 0, 0, 0, 0, 0, 0, 0, 0, 0, 0, 0]⟩
def newF (n : Int) : List ByteArray × List S79 × Int := if 1 ≤ n ∧ n ≤ 4000 then (List.replicate n.toNat zero40, [], 0) else ([], [], 1)
theorem ev_new (n : Int) : Ev (fun k => disk_New.f k n) (newF n) := by
  unfold newF
  by_cases h : n < 1
  · rw [if_neg (by omega)]
    exact Ev.const fun k => by unfold disk_New.f; rw [if_pos h]; simp only [disk_New.j0]; rw [if_pos trivial]
  · by_cases h2 : n > 4000
    · rw [if_neg (by omega)]
      exact Ev.const fun k => by unfold disk_New.f; rw [if_neg h, decide_eq_true h2]; simp only [disk_New.j0]; rw [if_pos trivial]
    · rw [if_pos (by omega)]
      refine Ev.const fun k => ?_
      unfold disk_New.f; rw [if_neg h, decide_eq_false h2]; simp only [disk_New.j0]; rw [if_neg (by simp)]
      rw [show strings_Repeat.f (⟨#[0]⟩ : ByteArray) 40 = some zero40 by decide]
      simp only [Option.bind_some]
      unfold slices_Repeat_string_string.f
      rw [if_pos ⟨rfl, by omega, by omega⟩]
      rfl
end Go.Proofs.Ytgjjcgemelafaaa.P
