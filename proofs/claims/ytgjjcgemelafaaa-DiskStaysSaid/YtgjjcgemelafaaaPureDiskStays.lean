import Derived.Test.YtgjjcgemelafaaaPx19
import Derived.Test.YtgjjcgemelafaaaPx18
import Derived.Test.YtgjjcgemelafaaaPx17
import Derived.Test.YtgjjcgemelafaaaPx14
import Derived.Test.YtgjjcgemelafaaaPx10
import Derived.Test.YtgjjcgemelafaaaPx8
import Derived.Test.YtgjjcgemelafaaaPx29
import Derived.Test.YtgjjcgemelafaaaRd
namespace Go.Proofs.Ytgjjcgemelafaaa.Pure
open Go.RowKit Go.Proofs.Ytgjjcgemelafaaa.P Go.Proofs.Ytgjjcgemelafaaa.Rd Go.Proofs.YtgjjcgemelafaaaW.PrintWords Go.Proofs.YtgjjcgemelafaaaW.PrintLast
set_option linter.unusedVariables false
set_option linter.unusedSimpArgs false
theorem lastN_snoc (l : List S79) (x : S79) (a : Int) : ∀ k, k ≤ l.length → lastN (l ++ [x]) a k = lastN l a k
  | 0, _ => rfl
  | k + 1, h => by
    simp only [lastN]
    have e : (l ++ [x]).getD k z79 = l.getD k z79 := by rw [List.getD_eq_getElem?_getD, List.getD_eq_getElem?_getD, List.getElem?_append_left (by omega)]
    rw [e, lastN_snoc l x a k (by omega)]
theorem lastN_last (l : List S79) (x : S79) (a : Int) : lastN (l ++ [x]) a (l ++ [x]).length = if x.f0 = a then some x.f1 else lastN l a l.length := by
  rw [show (l ++ [x]).length = l.length + 1 by simp]
  simp only [lastN]
  have e : (l ++ [x]).getD l.length z79 = x := by rw [List.getD_eq_getElem?_getD]; simp
  rw [e, lastN_snoc l x a l.length (Nat.le_refl _)]
theorem layF_get (b : List ByteArray) (i : Nat) (hi : i < b.length) (n : Nat) : ∀ (l : List S79), l.length = n → (∀ x ∈ l, 0 ≤ x.f0) → (layF b l)[i]? = some ((lastN l (i : Int) l.length).getD (b[i])) := by
  induction n with
  | zero =>
    intro l hl _
    obtain rfl := List.eq_nil_of_length_eq_zero hl
    simp [layF, lastN, List.getElem?_eq_getElem hi]
  | succ n ih =>
    intro l hl hx
    obtain ⟨l', x, rfl⟩ : ∃ l' x, l = l' ++ [x] := ⟨l.dropLast, l.getLast (by intro h; rw [h] at hl; simp at hl), (List.dropLast_concat_getLast _).symm⟩
    have h0 := hx x (by simp)
    have h1 := ih l' (by simp at hl; omega) (fun y hy => hx y (by simp [hy]))
    rw [layF_snoc, lastN_last, List.getElem?_set]
    by_cases he : x.f0 = (i : Int)
    · rw [if_pos he, if_pos (by omega), if_pos (by rw [layF_length]; omega)]
      rfl
    · rw [if_neg he, if_neg (by omega), h1]
theorem lastN_mem (l : List S79) (a : Int) (s : ByteArray) : ∀ n, n ≤ l.length → lastN l a n = some s → ∃ x ∈ l, x.f0 = a ∧ x.f1 = s
  | 0, _, h => by simp [lastN] at h
  | n + 1, hn, h => by
    simp only [lastN] at h
    have e : l.getD n z79 = l[n] := by rw [List.getD_eq_getElem?_getD, List.getElem?_eq_getElem (by omega)]; rfl
    rw [e] at h
    by_cases he : l[n].f0 = a
    · rw [if_pos he] at h
      exact ⟨l[n], List.getElem_mem _, he, Option.some.inj h⟩
    · rw [if_neg he] at h
      exact lastN_mem l a s n (by omega) h
section
variable (b : List ByteArray) (l : List S79) (keep : List Bool)
def crB : List ByteArray := layF b (keptL (fun i => keep.getD i false) l 0)
def allB : List Bool := List.replicate l.length true
variable (hr : rightB b l = true) (hb : b.length ≤ 60) (hl : l.length ≤ 60)
include hr hb hl
theorem stays_end : Ev (fun k => L2_DiskStays.l1 k keep true (allB l) (b.length : Int) b l (crB b l keep) [] (layF b l) []) true := by
  have hrf := right_layF hr
  have hl2 : l.length ≤ 60 := hl
  refine Ev.step (fun k => by simp only [L2_DiskStays.l1]; rw [if_neg (by omega), if_pos trivial]) ?_
  have hk : keptL (fun i => (allB l).getD i false) l 0 = l := keptL_true _ _ _ (fun j hj => by unfold allB; rw [List.getD_eq_getElem?_getD, List.getElem?_replicate, if_pos (by omega)]; rfl)
  have h1 : disk_Crash.f b l (allB l) = some (layF b l, []) := by rw [dcrash_eq hr, hk]
  have h2 : disk_Flush.f (layF b l) [] = some (layF b l, []) := dflush_eq hrf
  have h3 : disk_Crash.f (layF b l) [] keep = some (layF b l, []) := dcrash_eq hrf keep
  have hs := ev_same_true (a := layF b l) (b := []) (by rw [layF_length]; omega) (by simp) rfl rfl
  simp only [h1, Option.bind_some]
  refine Ev.bind hs ?_
  simp only [if_true, h2, Option.bind_some]
  refine Ev.bind hs ?_
  simp only [if_true, h3, Option.bind_some]
  exact Ev.bind (f := fun _ t => some t) hs (Ev.now true)
theorem stays_l2 (i : Nat) (hi : i < b.length) (next : Ev (fun k => L2_DiskStays.l1 k keep true (allB l) ((i + 1 : Nat) : Int) b l (crB b l keep) [] (layF b l) []) true) (hc : i < (crB b l keep).length) :
    ∀ n j t, j + n = l.length → (t = true ∨ ∃ q, j ≤ q ∧ ∃ h : q < l.length, l[q].f0 = (i : Int) ∧ l[q].f1 = (crB b l keep)[i]) →
    Ev (fun k => L2_DiskStays.l2 k keep true (allB l) (i : Int) t (j : Int) b l (crB b l keep) [] (layF b l) []) true := by
  obtain ⟨hr1, hr2, hr3, hr4⟩ := rightB_iff hr
  intro n
  induction n with
  | zero =>
    intro j t hj ht
    have ht : t = true := by
      rcases ht with h | ⟨q, h1, h2, _⟩
      · exact h
      · omega
    subst ht
    have hlen : i < (layF b l).length := by rw [layF_length]; exact hi
    have e2 : readF b l (i : Int) = ((lastN l (i : Int) l.length).getD (b[i]), 0) := by unfold readF; rw [if_pos (by omega), rd_strD _ _ hi]
    have e3 : rdOf ByteArray.empty (layF b l) (i : Int) = (lastN l (i : Int) l.length).getD (b[i]) := by
      rw [rd_strD _ _ hlen]
      have h := layF_get b i hi l.length l rfl (fun x hx => (fits_iff (hr4 x hx)).1)
      rw [List.getElem?_eq_getElem hlen] at h
      exact Option.some.inj h
    refine Ev.step (fun k => ?_) next
    simp only [L2_DiskStays.l2]
    rw [if_neg (by omega), dread_eq]
    simp only [Option.bind_some, if_true]
    rw [e2, e3, if_pos (show (0 : Int) = 0 from rfl), if_pos (by omega), if_pos (by omega), if_pos rfl, wrap_upD (by omega)]
  | succ n ih =>
    intro j t hj ht
    have hjl : j < l.length := by omega
    cases t with
    | true =>
      refine Ev.step (fun k => ?_) (ih (j + 1) true (by omega) (.inl rfl))
      simp only [L2_DiskStays.l2]
      rw [if_pos (by omega)]
      simp only [if_true]
      rw [wrap_upD (by omega)]
    | false =>
      rcases ht with h | ⟨q, h1, h2, h3, h4⟩
      · cases h
      by_cases he : l[j].f0 = (i : Int)
      · refine Ev.step (fun k => ?_) (ih (j + 1) (l[j].f1.toList == ((crB b l keep)[i]).toList) (by omega) ?_)
        · simp only [L2_DiskStays.l2]
          rw [if_pos (by omega)]
          simp only [Bool.false_eq_true, if_false]
          rw [if_pos (by omega), rd_nat79 _ _ hjl, if_pos he, if_pos (by omega), if_pos (by omega), rd_strD _ _ hc, wrap_upD (by omega)]
        · by_cases hq : q = j
          · subst hq
            left
            rw [h4]; simp
          · exact .inr ⟨q, by omega, h2, h3, h4⟩
      · have hjq : j + 1 ≤ q := by
          rcases Nat.lt_or_ge j q with h | h
          · exact h
          · obtain rfl : q = j := by omega
            exact absurd h3 he
        refine Ev.step (fun k => ?_) (ih (j + 1) false (by omega) (.inr ⟨q, hjq, h2, h3, h4⟩))
        simp only [L2_DiskStays.l2]
        rw [if_pos (by omega)]
        simp only [Bool.false_eq_true, if_false]
        rw [if_pos (by omega), rd_nat79 _ _ hjl, if_neg he, wrap_upD (by omega)]
theorem stays_l1 : ∀ n i, i + n = b.length → Ev (fun k => L2_DiskStays.l1 k keep true (allB l) (i : Int) b l (crB b l keep) [] (layF b l) []) true := by
  obtain ⟨hr1, hr2, hr3, hr4⟩ := rightB_iff hr
  intro n
  induction n with
  | zero =>
    intro i hi
    obtain rfl : i = b.length := by omega
    exact stays_end b l keep hr hb hl
  | succ n ih =>
    intro i hi
    have hib : i < b.length := by omega
    have hc : i < (crB b l keep).length := by unfold crB; rw [layF_length]; exact hib
    have hk : ∀ x ∈ keptL (fun i => keep.getD i false) l 0, x ∈ l := fun x hx => keptL_mem _ _ _ _ hx
    have hg := layF_get b i hib _ (keptL (fun i => keep.getD i false) l 0) rfl (fun x hx => (fits_iff (hr4 x (hk x hx))).1)
    have hci : (crB b l keep)[i] = (lastN (keptL (fun i => keep.getD i false) l 0) (i : Int) (keptL (fun i => keep.getD i false) l 0).length).getD (b[i]) := by
      have h : (crB b l keep)[i]? = some _ := hg
      rw [List.getElem?_eq_getElem hc] at h
      exact Option.some.inj h
    refine Ev.step (fun k => ?_) (stays_l2 b l keep hr hb hl i hib (ih (i + 1) (by omega)) hc l.length 0 (((crB b l keep)[i]).toList == (b[i]).toList) (by omega) ?_)
    · simp only [L2_DiskStays.l1]
      rw [if_pos (by omega), if_pos (by omega), if_pos (by omega), rd_strD _ _ hc, rd_strD _ _ hib]
      rfl
    · cases hn : lastN (keptL (fun i => keep.getD i false) l 0) (i : Int) (keptL (fun i => keep.getD i false) l 0).length with
      | none => left; rw [hci, hn]; simp
      | some s =>
        obtain ⟨x, hx, h1, h2⟩ := lastN_mem _ _ _ _ (Nat.le_refl _) hn
        obtain ⟨q, hq, he⟩ := List.getElem_of_mem (hk x hx)
        refine .inr ⟨q, Nat.zero_le _, hq, by rw [he]; exact h1, ?_⟩
        rw [he, hci, hn, h2]; rfl
theorem stays_l0 : ∀ n i, i + n = l.length → Ev (fun k => L2_DiskStays.l0 k keep true (List.replicate i true) (i : Int) b l (crB b l keep) [] (layF b l) []) true := by
  intro n
  induction n with
  | zero =>
    intro i hi
    obtain rfl : i = l.length := by omega
    refine Ev.step (fun k => ?_) (stays_l1 b l keep hr hb hl b.length 0 (by omega))
    simp only [L2_DiskStays.l0]
    rw [if_neg (by omega)]
    rfl
  | succ n ih =>
    intro i hi
    refine Ev.step (fun k => ?_) (ih (i + 1) (by omega))
    simp only [L2_DiskStays.l0]
    rw [if_pos (by omega), if_pos (by simp; omega), wrap_upD (by omega), List.replicate_succ']
end
theorem right_keep {b : List ByteArray} {l : List S79} (hr : rightB b l = true) (p : Nat → Bool) : rightB (layF b (keptL p l 0)) [] = true := by
  obtain ⟨h1, h2, h3, h4⟩ := rightB_iff hr
  exact right_layF (rightB_mk h1 h2 h3 (fun x hx => h4 x (keptL_mem _ _ _ _ hx)))
theorem DiskStays : ∀ (l0_0 : List ByteArray) (l0_1 : List (S79)) (l1 : List Bool), (l0_0.length ≤ 9223372036854775807) → (∀ x_ ∈ l0_0, x_.size ≤ maxLen) → (l0_1.length ≤ 9223372036854775807) → (∀ x_ ∈ l0_1, I79 x_) → (l1.length ≤ 9223372036854775807) → (∀ x_ ∈ l1, True) → ∃ k, L2_DiskStays.f k l0_0 l0_1 l1 = some true := by
  intro b l keep _ _ _ _ _ _
  refine Ev.rounds ?_
  simp only [L2_DiskStays.f]
  refine Ev.bind ev_shown ?_
  obtain ⟨s1, e1, q1⟩ := ev_small b l 60 (by decide)
  refine Ev.bind e1 ?_
  have hup : Ev (fun k => L2_DiskStays.j0 k keep true true b l) true := Ev.const fun k => by simp only [L2_DiskStays.j0]; rw [if_pos trivial]
  cases s1 with
  | false => simpa using hup
  | true =>
    simp only [if_true]
    obtain ⟨ha, hb⟩ := q1 rfl
    refine Ev.bind (ev_right b l (by omega)) ?_
    cases hr : rightB b l with
    | false => simpa using hup
    | true =>
      simp only [if_true]
      by_cases hk : (keep.length : Int) > 100
      · rw [decide_eq_true hk]; exact hup
      · rw [decide_eq_false hk]
        refine Ev.step (fun k => by simp only [L2_DiskStays.j0, Bool.false_eq_true, if_false]; rfl) ?_
        have h1 : disk_Crash.f b l keep = some (crB b l keep, []) := dcrash_eq hr keep
        have h2 := right_keep hr (fun i => keep.getD i false)
        have h3 : rightB (crB b l keep) [] = true := h2
        have h4 := right_layF hr
        simp only [h1, dflush_eq hr, Option.bind_some]
        refine Ev.bind (ev_right _ _ (by simp)) ?_
        rw [h3]
        simp only [if_true]
        refine Ev.bind (ev_right _ _ (by simp)) ?_
        rw [h4]
        have hlc : (crB b l keep).length = b.length := by unfold crB; rw [layF_length]
        simp only [if_true, hlc, layF_length, List.length_nil, bne_self_eq_false]
        have hw : wrap64 (((0 : Nat) : Int) + ((0 : Nat) : Int)) = 0 := by unfold wrap64; omega
        rw [hw]
        simp only [if_true]
        refine Ev.step (fun k => by simp only [L2_DiskStays.j1, Bool.false_eq_true, if_false]; rfl) ?_
        exact stays_l0 b l keep hr (by omega) (by omega) l.length 0 (by omega)
end Go.Proofs.Ytgjjcgemelafaaa.Pure
