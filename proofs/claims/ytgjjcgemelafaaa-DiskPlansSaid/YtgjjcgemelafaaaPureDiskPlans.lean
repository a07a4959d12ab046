import Derived.Test.YtgjjcgemelafaaaPx19
import Derived.Test.YtgjjcgemelafaaaPx18
import Derived.Test.YtgjjcgemelafaaaPx17
import Derived.Test.YtgjjcgemelafaaaPx14
import Derived.Test.YtgjjcgemelafaaaPx8
import Derived.Test.YtgjjcgemelafaaaPx31
import Derived.Test.YtgjjcgemelafaaaRd
namespace Go.Proofs.Ytgjjcgemelafaaa.Pure
open Go.RowKit Go.Proofs.Ytgjjcgemelafaaa.P Go.Proofs.Ytgjjcgemelafaaa.Rd Go.Proofs.YtgjjcgemelafaaaW.PrintWords Go.Proofs.YtgjjcgemelafaaaW.PrintLast
set_option linter.unusedVariables false
set_option linter.unusedSimpArgs false
set_option linter.unusedVariables false
set_option linter.unusedSimpArgs false
theorem doF_shift : ∀ (w : List S79) (i j : Nat) (b : List ByteArray) (l : List S79), doF (-1) w j b l = ((doF (-1) w i b l).1, (doF (-1) w i b l).2.1, (doF (-1) w i b l).2.2 - (i : Int) + (j : Int))
  | [], i, j, b, l => by simp only [doF]; rw [show (i : Int) - i + j = j by omega]
  | x :: w, i, j, b, l => by
    have hi : ¬ (i : Int) = -1 := by omega
    have hj : ¬ (j : Int) = -1 := by omega
    by_cases hf : isFlush x = true
    · have e1 : ∀ i : Nat, ¬ (i : Int) = -1 → doF (-1) (x :: w) i b l = doF (-1) w (i + 1) (layF b l) [] := fun i hi => by rw [doF, if_neg hi, if_pos hf]
      rw [e1 i hi, e1 j hj, doF_shift w (i + 1) (j + 1) (layF b l) []]
      rw [show ((doF (-1) w (i + 1) (layF b l) []).2.2 - ((i + 1 : Nat) : Int) + ((j + 1 : Nat) : Int)) = (doF (-1) w (i + 1) (layF b l) []).2.2 - (i : Int) + (j : Int) by omega]
    · by_cases hx : fitsB b.length x = true
      · have e1 : ∀ i : Nat, ¬ (i : Int) = -1 → doF (-1) (x :: w) i b l = doF (-1) w (i + 1) b (l ++ [x]) := fun i hi => by rw [doF, if_neg hi, if_neg hf, if_pos hx]
        rw [e1 i hi, e1 j hj, doF_shift w (i + 1) (j + 1) b (l ++ [x])]
        rw [show ((doF (-1) w (i + 1) b (l ++ [x])).2.2 - ((i + 1 : Nat) : Int) + ((j + 1 : Nat) : Int)) = (doF (-1) w (i + 1) b (l ++ [x])).2.2 - (i : Int) + (j : Int) by omega]
      · have e1 : ∀ i : Nat, ¬ (i : Int) = -1 → doF (-1) (x :: w) i b l = (b, l, (i : Int)) := fun i hi => by rw [doF, if_neg hi, if_neg hf, if_neg hx]
        rw [e1 i hi, e1 j hj]
        simp only
        rw [show (i : Int) - i + j = j by omega]
theorem right_doF (stop : Int) : ∀ (w : List S79) (i : Nat) (b : List ByteArray) (l : List S79), rightB b l = true → rightB (doF stop w i b l).1 (doF stop w i b l).2.1 = true
  | [], i, b, l, h => h
  | x :: w, i, b, l, h => by
    simp only [doF]
    split
    · exact h
    · split
      · exact right_doF stop w (i + 1) _ _ (right_layF h)
      · split
        · rename_i hx; exact right_doF stop w (i + 1) _ _ (right_snoc h hx)
        · exact h
theorem doF_count : ∀ (w : List S79) (i : Nat) (b : List ByteArray) (l : List S79), ∃ N : Nat, (doF (-1) w i b l).2.2 = (i : Int) + N ∧ N ≤ w.length
  | [], i, b, l => ⟨0, by simp [doF], Nat.le_refl _⟩
  | x :: w, i, b, l => by
    simp only [doF]
    rw [if_neg (by omega)]
    split
    · obtain ⟨N, h1, h2⟩ := doF_count w (i + 1) (layF b l) []
      exact ⟨N + 1, by omega, by simp; omega⟩
    · split
      · obtain ⟨N, h1, h2⟩ := doF_count w (i + 1) b (l ++ [x])
        exact ⟨N + 1, by omega, by simp; omega⟩
      · exact ⟨0, by simp, Nat.zero_le _⟩
theorem doF_split (stop : Int) : ∀ (w : List S79) (i : Nat) (b : List ByteArray) (l : List S79), ∃ m N : Nat, (doF stop w i b l).2.2 = (i : Int) + m ∧ (doF (-1) w i b l).2.2 = (i : Int) + N ∧ m ≤ N ∧ N ≤ w.length ∧
    (stop < i → m = N) ∧ ((i : Int) ≤ stop → (i : Int) + m = min stop ((i : Int) + N)) ∧
    doF (-1) (w.drop m) (i + m) (doF stop w i b l).1 (doF stop w i b l).2.1 = doF (-1) w i b l
  | [], i, b, l => ⟨0, 0, by simp [doF], by simp [doF], Nat.le_refl _, Nat.le_refl _, fun _ => rfl, fun h => by omega, rfl⟩
  | x :: w, i, b, l => by
    by_cases hs : (i : Int) = stop
    · have e : doF stop (x :: w) i b l = (b, l, (i : Int)) := by simp only [doF]; rw [if_pos hs]
      obtain ⟨N, hN, hN2⟩ : ∃ N : Nat, (doF (-1) (x :: w) i b l).2.2 = (i : Int) + N ∧ N ≤ (x :: w).length := doF_count _ _ _ _
      exact ⟨0, N, by rw [e]; simp, hN, Nat.zero_le _, hN2, fun h => by omega, fun h => by omega, by rw [e]; rfl⟩
    · have es : doF stop (x :: w) i b l = if isFlush x = true then doF stop w (i + 1) (layF b l) [] else if fitsB b.length x = true then doF stop w (i + 1) b (l ++ [x]) else (b, l, (i : Int)) := by simp only [doF]; rw [if_neg hs]
      have em : doF (-1) (x :: w) i b l = if isFlush x = true then doF (-1) w (i + 1) (layF b l) [] else if fitsB b.length x = true then doF (-1) w (i + 1) b (l ++ [x]) else (b, l, (i : Int)) := by simp only [doF]; rw [if_neg (by omega)]
      have go : ∀ b' l', ∃ m N : Nat, (doF stop w (i + 1) b' l').2.2 = (i : Int) + m ∧ (doF (-1) w (i + 1) b' l').2.2 = (i : Int) + N ∧ m ≤ N ∧ N ≤ (x :: w).length ∧ (stop < i → m = N) ∧ ((i : Int) ≤ stop → (i : Int) + m = min stop ((i : Int) + N)) ∧ doF (-1) ((x :: w).drop m) (i + m) (doF stop w (i + 1) b' l').1 (doF stop w (i + 1) b' l').2.1 = doF (-1) w (i + 1) b' l' := fun b' l' => by
        obtain ⟨m, N, h1, h2, h3, h4, h5, h6, h7⟩ := doF_split stop w (i + 1) b' l'
        refine ⟨m + 1, N + 1, by omega, by omega, by omega, by simp; omega, fun h => by have := h5 (by omega); omega, fun h => by have := h6 (by omega); omega, ?_⟩
        rw [List.drop_succ_cons, show i + (m + 1) = i + 1 + m by omega]
        exact h7
      by_cases hf : isFlush x = true
      · rw [es, em, if_pos hf, if_pos hf]; exact go _ _
      · by_cases hx : fitsB b.length x = true
        · rw [es, em, if_neg hf, if_neg hf, if_pos hx, if_pos hx]; exact go _ _
        · rw [es, em, if_neg hf, if_neg hf, if_neg hx, if_neg hx]
          refine ⟨0, 0, by simp, by simp, Nat.le_refl _, Nat.zero_le _, fun _ => rfl, fun h => by omega, ?_⟩
          simp only [List.drop_zero, Nat.add_zero]
          rw [em, if_neg hf, if_neg hx]
theorem DiskPlans : ∀ (l0_0 : List ByteArray) (l0_1 : List (S79)) (l1 : List (S79)) (a2 : Int), (l0_0.length ≤ 9223372036854775807) → (∀ x_ ∈ l0_0, x_.size ≤ maxLen) → (l0_1.length ≤ 9223372036854775807) → (∀ x_ ∈ l0_1, I79 x_) → (l1.length ≤ 9223372036854775807) → (∀ x_ ∈ l1, I79 x_) → ((Lit.int .i64 a2).wf = true) → ∃ k, L2_DiskPlans.f k l0_0 l0_1 l1 a2 = some true := by
  intro a b w stop _ _ _ _ _ _ _
  refine Ev.rounds ?_
  simp only [L2_DiskPlans.f]
  refine Ev.bind ev_shown ?_
  obtain ⟨s1, e1, q1⟩ := ev_small a b 60 (by decide)
  refine Ev.bind e1 ?_
  have hup : Ev (fun k => L2_DiskPlans.j0 k w stop true true a b) true := Ev.const fun k => by simp only [L2_DiskPlans.j0]; rw [if_pos trivial]
  cases s1 with
  | false => simpa using hup
  | true =>
    simp only [if_true]
    obtain ⟨ha, hb⟩ := q1 rfl
    refine Ev.bind (ev_right a b (by omega)) ?_
    cases hr : rightB a b with
    | false => simpa using hup
    | true =>
      simp only [if_true]
      obtain ⟨s2, e2, q2⟩ := ev_short w 60 (by decide)
      refine Ev.bind e2 ?_
      cases s2 with
      | false => exact hup
      | true =>
        have hw := q2 rfl
        refine Ev.step (fun k => by simp only [L2_DiskPlans.j0, Bool.not_true, Bool.false_eq_true, if_false]; rfl) ?_
        refine Ev.bind (ev_do w (-1) hr (by omega) (by omega)) (Ev.bind (ev_do w stop hr (by omega) (by omega)) ?_)
        obtain ⟨m, N, h1, h2, h3, h4, h5, h6, h7⟩ := doF_split stop w 0 a b
        simp only [Int.natCast_zero, Int.zero_add, Nat.zero_add] at h1 h2 h5 h6 h7
        have hrA := right_doF (-1) w 0 a b hr
        have hrB := right_doF stop w 0 a b hr
        have hlA := doF_len (-1) w 0 a b
        have hlB := doF_len stop w 0 a b
        obtain ⟨A, hA⟩ : ∃ A, doF (-1) w 0 a b = A := ⟨_, rfl⟩
        obtain ⟨B, hB⟩ : ∃ B, doF stop w 0 a b = B := ⟨_, rfl⟩
        rw [hA] at h2 h7 hrA hlA ⊢
        rw [hB] at h1 h7 hrB hlB ⊢
        have hj : Ev (fun k => L2_DiskPlans.j1 k w true A.2.2 B.2.2 false A.1 A.2.1 B.1 B.2.1) true := by
          refine Ev.step (fun k => by simp only [L2_DiskPlans.j1, Bool.false_eq_true, if_false]; rfl) ?_
          simp only [h1, h2]
          simp only [if_pos (show (0 : Int) ≤ (m : Int) by omega), if_pos (show (m : Int) ≤ (w.length : Int) by omega), Int.toNat_natCast]
          refine Ev.bind (ev_do (w.drop m) (-1) hrB (by simp; omega) (by omega)) ?_
          rw [doF_shift (w.drop m) m 0, h7, h2]
          have hf : isFlush (⟨-1, (⟨#[]⟩ : ByteArray)⟩ : S79) = true := by
            unfold isFlush; rw [ByteArray.toList_eq]; rfl
          have hone : doF (-1) [(⟨-1, (⟨#[]⟩ : ByteArray)⟩ : S79)] 0 A.1 A.2.1 = (layF A.1 A.2.1, [], 1) := by
            simp only [doF]
            rw [hf]
            rfl
          refine Ev.bind (ev_do [(⟨-1, (⟨#[]⟩ : ByteArray)⟩ : S79)] (-1) hrA (by simp) (by omega)) ?_
          rw [hone]
          simp only [if_true]
          refine Ev.bind (ev_same_true (by omega) (by omega) rfl rfl) ?_
          have hwr : wrap64 ((N : Int) - (m : Int)) = (N : Int) - (m : Int) + ((0 : Nat) : Int) := by unfold wrap64; omega
          simp only [if_true, hwr]
          refine Ev.bind (ev_right _ _ (by omega)) ?_
          rw [hrA]
          simp only [if_true, dflush_eq hrA, Option.bind_some]
          exact Ev.now true
        simp only [h1, h2] at hj ⊢
        simp only [if_neg (show ¬ (N : Int) < 0 by omega), if_neg (show ¬ (N : Int) > (w.length : Int) by omega), if_neg (show ¬ (m : Int) < 0 by omega), if_neg (show ¬ (m : Int) > (N : Int) by omega)]
        by_cases hst : stop ≥ 0
        · have e1 : (m : Int) = mn stop (N : Int) := by have := h6 (by omega); unfold mn; omega
          simp only [if_pos hst, if_pos e1, if_neg (show ¬ stop < 0 by omega)]
          exact hj
        · have e1 : m = N := h5 (by omega)
          have e2 : ((m : Int) != (N : Int)) = false := by rw [e1]; simp
          simp only [if_neg hst, if_pos (show stop < 0 by omega), e2]
          exact hj
end Go.Proofs.Ytgjjcgemelafaaa.Pure
