-- By wip/tools/drive.py: the kit's print, with contracts of this session's own among the functions.
import Derived.Test.YtgjjcgemelafaaaPx0
import Derived.Test.YtgjjcgemelafaaaPx8
import Derived.Test.YtgjjcgemelafaaaPx11
import Derived.Test.YtgjjcgemelafaaaPx12
import Derived.Test.YtgjjcgemelafaaaPx14
import Derived.Test.YtgjjcgemelafaaaPx21
import Derived.Test.YtgjjcgemelafaaaPx22
import Derived.Test.YtgjjcgemelafaaaPx23
import Derived.Test.YtgjjcgemelafaaaPx25
namespace Go.Proofs.Ytgjjcgemelafaaa.P
open Go.RowKit Go.Proofs.YtgjjcgemelafaaaW.PrintWords Go.Proofs.YtgjjcgemelafaaaW.PrintLast Go.Proofs.YtgjjcgemelafaaaW.PrintMore
attribute [local go_sem] max2_int min2_int max_two min_two max_three min_three max_four min_four   -- for this text's walks alone
set_option linter.unusedVariables false
set_option linter.unusedSimpArgs false
theorem wrap_upD {i : Nat} (h1 : i ≤ 1000000000000) : wrap64 ((i : Int) + 1) = ((i + 1 : Nat) : Int) := by unfold wrap64; omega
theorem toList_injD {a b : ByteArray} : a.toList = b.toList ↔ a = b := by
  constructor
  · intro h
    rw [ByteArray.toList_eq, ByteArray.toList_eq] at h
    cases a; cases b; congr 1; exact Array.toList_inj.1 h
  · rintro rfl; rfl
theorem Ev.const {α : Type} {g : Nat → Option α} {r : α} (h : ∀ k, g (k + 1) = some r) : Ev g r := Ev.step (f := fun _ => some r) h (Ev.now r)
theorem Ev.const0 {α : Type} {g : Nat → Option α} {r : α} (h : ∀ k, g k = some r) : Ev g r := ⟨0, fun k _ => h k⟩
theorem ev_short_l0 (l : List S79) (hl : l.length ≤ 1000000) : ∀ d i, i + d = l.length → ∃ r, Ev (fun k => assartref02_Short.l0 k l (i : Int)) r := by
  intro d
  induction d with
  | zero =>
    intro i hi
    exact ⟨true, Ev.const fun k => by simp only [assartref02_Short.l0]; rw [if_neg (by omega)]⟩
  | succ d ih =>
    intro i hi
    by_cases h : ((rd_T79 l (i : Int)).f1.size : Int) > 100
    · exact ⟨false, Ev.const fun k => by simp only [assartref02_Short.l0]; rw [if_pos (by omega), if_pos (by omega), if_pos h]⟩
    · obtain ⟨r, hr⟩ := ih (i + 1) (by omega)
      exact ⟨r, Ev.step (fun k => by simp only [assartref02_Short.l0]; rw [if_pos (by omega), if_pos (by omega), if_neg h, wrap_upD (by omega)]) hr⟩
theorem ev_short (l : List S79) (n : Int) (hn : n ≤ 1000) : ∃ r, Ev (fun k => assartref02_Short.f k l n) r ∧ (r = true → (l.length : Int) ≤ n) := by
  by_cases h : (l.length : Int) > n
  · exact ⟨false, Ev.const0 fun k => by unfold assartref02_Short.f; rw [if_pos h], by simp⟩
  · obtain ⟨r, hr⟩ := ev_short_l0 l (by omega) l.length 0 (by omega)
    exact ⟨r, Ev.congr (fun k => by unfold assartref02_Short.f; rw [if_neg h]; rfl) hr, fun _ => by omega⟩
theorem ev_small_l0 (b : List ByteArray) (l : List S79) (n : Int) (hn : n ≤ 1000) (hb : b.length ≤ 1000000) : ∀ d i, i + d = b.length → ∃ r, Ev (fun k => assartref02_Small.l0 k n (i : Int) b l) r ∧ (r = true → (l.length : Int) ≤ n) := by
  intro d
  induction d with
  | zero =>
    intro i hi
    obtain ⟨r, hr, hr2⟩ := ev_short l n hn
    exact ⟨r, Ev.step (fun k => by simp only [assartref02_Small.l0]; rw [if_neg (by omega)]) (Ev.bind (f := fun _ t => some t) hr (Ev.now r)), hr2⟩
  | succ d ih =>
    intro i hi
    by_cases h : ((rdOf ByteArray.empty b (i : Int)).size : Int) > 100
    · exact ⟨false, Ev.const fun k => by simp only [assartref02_Small.l0]; rw [if_pos (by omega), if_pos (by omega), if_pos h], by simp⟩
    · obtain ⟨r, hr, hr2⟩ := ih (i + 1) (by omega)
      exact ⟨r, Ev.step (fun k => by simp only [assartref02_Small.l0]; rw [if_pos (by omega), if_pos (by omega), if_neg h, wrap_upD (by omega)]) hr, hr2⟩
theorem ev_small (b : List ByteArray) (l : List S79) (n : Int) (hn : n ≤ 1000) : ∃ r, Ev (fun k => assartref02_Small.f k b l n) r ∧ (r = true → (b.length : Int) ≤ n ∧ (l.length : Int) ≤ n) := by
  by_cases h : (b.length : Int) > n
  · exact ⟨false, Ev.const fun k => by unfold assartref02_Small.f; rw [if_pos h]; simp only [assartref02_Small.j0]; rw [if_pos trivial], by simp⟩
  · by_cases h2 : (l.length : Int) > n
    · exact ⟨false, Ev.const fun k => by unfold assartref02_Small.f; rw [if_neg h, decide_eq_true h2]; simp only [assartref02_Small.j0]; rw [if_pos trivial], by simp⟩
    · obtain ⟨r, hr, hr2⟩ := ev_small_l0 b l n hn (by omega) b.length 0 (by omega)
      exact ⟨r, Ev.step (fun k => by unfold assartref02_Small.f; rw [if_neg h, decide_eq_false h2]; simp only [assartref02_Small.j0]; rw [if_neg (by simp)]; rfl) hr, fun e => ⟨by omega, hr2 e⟩⟩
/-- Is a disk right? -/
def rightB (b : List ByteArray) (l : List S79) : Bool := decide ((b.length : Int) ≥ 1) && (decide ((b.length : Int) ≤ 4000) && (!b.any shortB && !l.any (fun x => !fitsB b.length x)))
theorem may_eq (b : List ByteArray) (l : List S79) (a : Int) (s : ByteArray) : assartref02_may.f b l a s = some (fitsB b.length ⟨a, s⟩) := by
  unfold assartref02_may.f fitsB
  by_cases h1 : a ≥ 0
  · rw [if_pos h1, decide_eq_true h1]
    by_cases h2 : a < (b.length : Int)
    · rw [if_pos h2, decide_eq_true h2]; rfl
    · rw [if_neg h2, decide_eq_false h2]; rfl
  · rw [if_neg h1, decide_eq_false h1]; rfl
theorem ev_right_l1 (b : List ByteArray) (l : List S79) (hl : l.length ≤ 1000000) : ∀ d i, i + d = l.length → Ev (fun k => assartref02_Right.l1 k (i : Int) b l) (!(l.drop i).any (fun x => !fitsB b.length x)) := by
  intro d
  induction d with
  | zero =>
    intro i hi
    rw [List.drop_of_length_le (by omega)]
    exact Ev.const fun k => by simp only [assartref02_Right.l1]; rw [if_neg (by omega)]; rfl
  | succ d ih =>
    intro i hi
    have hlt : i < l.length := by omega
    rw [List.drop_eq_getElem_cons hlt, List.any_cons]
    cases h : fitsB b.length l[i] with
    | false =>
      exact Ev.const fun k => by
        simp only [assartref02_Right.l1]; rw [if_pos (by omega), if_pos (by omega), may_eq, rd_nat79 _ _ hlt]
        simp only [Option.bind_some]
        rw [show (⟨l[i].f0, l[i].f1⟩ : S79) = l[i] from rfl, h, if_neg (by simp)]; rfl
    | true =>
      simp only [h, Bool.not_true, Bool.false_or]
      refine Ev.step (fun k => ?_) (ih (i + 1) (by omega))
      simp only [assartref02_Right.l1]; rw [if_pos (by omega), if_pos (by omega), may_eq, rd_nat79 _ _ hlt]
      simp only [Option.bind_some]
      rw [show (⟨l[i].f0, l[i].f1⟩ : S79) = l[i] from rfl, h, if_pos rfl, wrap_upD (by omega)]
theorem rd_strD (l : List ByteArray) (i : Nat) (h : i < l.length) : rdOf ByteArray.empty l (i : Int) = l[i] := getElem_rdOf _ _ _ h
theorem ev_right_l0 (b : List ByteArray) (l : List S79) (hl : l.length ≤ 1000000) (hb : b.length ≤ 1000000) : ∀ d i, i + d = b.length → Ev (fun k => assartref02_Right.l0 k (i : Int) b l) (!(b.drop i).any shortB && !l.any (fun x => !fitsB b.length x)) := by
  intro d
  induction d with
  | zero =>
    intro i hi
    rw [List.drop_of_length_le (by omega)]
    refine Ev.step (fun k => ?_) (by simpa using ev_right_l1 b l hl l.length 0 (by omega))
    simp only [assartref02_Right.l0]; rw [if_neg (by omega)]
  | succ d ih =>
    intro i hi
    have hlt : i < b.length := by omega
    rw [List.drop_eq_getElem_cons hlt, List.any_cons]
    by_cases h : (b[i].size : Int) = 40
    · have hs : shortB b[i] = false := by unfold shortB; simp; omega
      rw [hs, Bool.false_or]
      refine Ev.step (fun k => ?_) (ih (i + 1) (by omega))
      simp only [assartref02_Right.l0]; rw [if_pos (by omega), if_pos (by omega), rd_strD _ _ hlt, if_pos h, wrap_upD (by omega)]
    · have hs : shortB b[i] = true := by unfold shortB; simp; omega
      rw [hs]
      exact Ev.const fun k => by simp only [assartref02_Right.l0]; rw [if_pos (by omega), if_pos (by omega), rd_strD _ _ hlt, if_neg h]; rfl
theorem ev_right (b : List ByteArray) (l : List S79) (hl : l.length ≤ 1000000) : Ev (fun k => assartref02_Right.f k b l) (rightB b l) := by
  unfold rightB
  by_cases h : (b.length : Int) < 1
  · rw [decide_eq_false (by omega)]
    exact Ev.const fun k => by unfold assartref02_Right.f; rw [if_pos h]; simp only [assartref02_Right.j0]; rw [if_pos trivial]; rfl
  · rw [decide_eq_true (by omega), Bool.true_and]
    by_cases h2 : (b.length : Int) > 4000
    · rw [decide_eq_false (by omega)]
      exact Ev.const fun k => by unfold assartref02_Right.f; rw [if_neg h, decide_eq_true h2]; simp only [assartref02_Right.j0]; rw [if_pos trivial]; rfl
    · rw [decide_eq_true (by omega), Bool.true_and]
      refine Ev.step (fun k => ?_) (by simpa using ev_right_l0 b l hl (by omega) b.length 0 (by omega))
      unfold assartref02_Right.f; rw [if_neg h, decide_eq_false h2]; simp only [assartref02_Right.j0]; rw [if_neg (by simp)]
theorem dright_eq (b : List ByteArray) (l : List S79) : disk_Right.f b l = some (rightB b l) := rfl
theorem rightB_iff {b : List ByteArray} {l : List S79} (h : rightB b l = true) : 1 ≤ b.length ∧ b.length ≤ 4000 ∧ (∀ s ∈ b, s.size = 40) ∧ (∀ x ∈ l, fitsB b.length x = true) := by
  unfold rightB at h
  simp only [Bool.and_eq_true, decide_eq_true_eq, Bool.not_eq_true', List.any_eq_false] at h
  obtain ⟨h1, h2, h3, h4⟩ := h
  refine ⟨by omega, by omega, fun s hs => ?_, fun x hx => by simpa using h4 x hx⟩
  have := h3 s hs
  unfold shortB at this
  simp at this
  omega
theorem rightB_mk {b : List ByteArray} {l : List S79} (h1 : 1 ≤ b.length) (h2 : b.length ≤ 4000) (h3 : ∀ s ∈ b, s.size = 40) (h4 : ∀ x ∈ l, fitsB b.length x = true) : rightB b l = true := by
  unfold rightB
  simp only [Bool.and_eq_true, decide_eq_true_eq, Bool.not_eq_true', List.any_eq_false]
  refine ⟨by omega, by omega, fun s hs => ?_, fun x hx => by simpa using h4 x hx⟩
  unfold shortB
  simp [h3 s hs]
theorem rightB_lay {b : List ByteArray} {l : List S79} (h : rightB b l = true) : layOk b l = true := by
  obtain ⟨h1, h2, h3, h4⟩ := rightB_iff h
  unfold layOk
  simp only [Bool.and_eq_true, decide_eq_true_eq, List.all_eq_true]
  exact ⟨by omega, by omega, h4⟩
theorem dflush_eq {b : List ByteArray} {l : List S79} (h : rightB b l = true) : disk_Flush.f b l = some (layF b l, []) := by unfold disk_Flush.f; rw [if_pos (rightB_lay h)]
theorem dcrash_eq {b : List ByteArray} {l : List S79} (h : rightB b l = true) (keep : List Bool) : disk_Crash.f b l keep = some (layF b (keptL (fun i => keep.getD i false) l 0), []) := by unfold disk_Crash.f; rw [if_pos (rightB_lay h)]
theorem dput_eq (b : List ByteArray) (l : List S79) (hl : l.length ≤ 1000000) (a : Int) (s : ByteArray) : disk_Put.f b l a s = some (b, putF b l ⟨a, s⟩) := by
  unfold disk_Put.f putF
  rw [if_pos hl]
  split <;> rfl
theorem s79_ext {x y : S79} : x = y ↔ x.f0 = y.f0 ∧ x.f1 = y.f1 := by
  constructor
  · rintro rfl; exact ⟨rfl, rfl⟩
  · cases x; cases y; rintro ⟨h1, h2⟩; simp only at h1 h2; subst h1; subst h2; rfl
theorem ne79 (x y : S79) : (!(x.f0 == y.f0) || (!((x.f1.toList) == (y.f1.toList)))) = true ↔ ¬ x = y := by
  rw [s79_ext]
  simp only [Bool.or_eq_true, Bool.not_eq_true', beq_eq_false_iff_ne]
  rw [Ne, Ne, toList_injD]
  constructor
  · rintro (h | h) ⟨h1, h2⟩
    · exact h h1
    · exact h h2
  · intro h
    by_cases h1 : x.f0 = y.f0
    · exact .inr fun h2 => h ⟨h1, h2⟩
    · exact .inl h1
theorem ev_same_l1 (a c : List ByteArray) (b d : List S79) (he : b.length = d.length) (hb : b.length ≤ 1000000) : ∀ n i, i + n = b.length → ∃ r, Ev (fun k => assartref02_Same.l1 k (i : Int) a b c d) r ∧ (r = true ↔ b.drop i = d.drop i) := by
  intro n
  induction n with
  | zero =>
    intro i hi
    exact ⟨true, Ev.const fun k => by simp only [assartref02_Same.l1]; rw [if_neg (by omega)], by rw [List.drop_of_length_le (by omega), List.drop_of_length_le (by omega)]; simp⟩
  | succ n ih =>
    intro i hi
    have h1 : i < b.length := by omega
    have h2 : i < d.length := by omega
    by_cases h : b[i] = d[i]
    · obtain ⟨r, hr, hr2⟩ := ih (i + 1) (by omega)
      refine ⟨r, Ev.step (fun k => ?_) hr, ?_⟩
      · simp only [assartref02_Same.l1]; rw [if_pos (by omega), if_pos (by omega), if_pos (by omega), rd_nat79 _ _ h1, rd_nat79 _ _ h2, if_neg (by rw [ne79]; exact fun e => e h), wrap_upD (by omega)]
      · rw [hr2, List.drop_eq_getElem_cons h1, List.drop_eq_getElem_cons h2, h]; simp only [List.cons.injEq, true_and]
    · refine ⟨false, Ev.const fun k => ?_, ?_⟩
      · simp only [assartref02_Same.l1]; rw [if_pos (by omega), if_pos (by omega), if_pos (by omega), rd_nat79 _ _ h1, rd_nat79 _ _ h2, if_pos ((ne79 _ _).2 h)]
      · rw [List.drop_eq_getElem_cons h1, List.drop_eq_getElem_cons h2]; simp only [List.cons.injEq, h, false_and, Bool.false_eq_true]
theorem ev_same_l0 (a c : List ByteArray) (b d : List S79) (he : a.length = c.length) (he2 : b.length = d.length) (ha : a.length ≤ 1000000) (hb : b.length ≤ 1000000) : ∀ n i, i + n = a.length → ∃ r, Ev (fun k => assartref02_Same.l0 k (i : Int) a b c d) r ∧ (r = true ↔ a.drop i = c.drop i ∧ b = d) := by
  intro n
  induction n with
  | zero =>
    intro i hi
    obtain ⟨r, hr, hr2⟩ := ev_same_l1 a c b d he2 hb b.length 0 (by omega)
    refine ⟨r, Ev.step (fun k => ?_) hr, ?_⟩
    · simp only [assartref02_Same.l0]; rw [if_neg (by omega)]; rfl
    · rw [hr2, List.drop_zero, List.drop_zero, List.drop_of_length_le (show a.length ≤ i by omega), List.drop_of_length_le (show c.length ≤ i by omega)]; simp
  | succ n ih =>
    intro i hi
    have h1 : i < a.length := by omega
    have h2 : i < c.length := by omega
    by_cases h : a[i] = c[i]
    · obtain ⟨r, hr, hr2⟩ := ih (i + 1) (by omega)
      refine ⟨r, Ev.step (fun k => ?_) hr, ?_⟩
      · simp only [assartref02_Same.l0]; rw [if_pos (by omega), if_pos (by omega), if_pos (by omega), rd_strD _ _ h1, rd_strD _ _ h2, if_pos (by rw [h]), wrap_upD (by omega)]
      · rw [hr2, List.drop_eq_getElem_cons h1, List.drop_eq_getElem_cons h2, h]; simp only [List.cons.injEq, true_and]
    · refine ⟨false, Ev.const fun k => ?_, ?_⟩
      · simp only [assartref02_Same.l0]; rw [if_pos (by omega), if_pos (by omega), if_pos (by omega), rd_strD _ _ h1, rd_strD _ _ h2, if_neg (by rw [toList_injD]; exact h)]
      · rw [List.drop_eq_getElem_cons h1, List.drop_eq_getElem_cons h2]; simp only [List.cons.injEq, h, false_and, Bool.false_eq_true]
theorem ev_same (a : List ByteArray) (b : List S79) (c : List ByteArray) (d : List S79) (ha : a.length ≤ 1000000) (hb : b.length ≤ 1000000) : ∃ r, Ev (fun k => assartref02_Same.f k a b c d) r ∧ (r = true ↔ a = c ∧ b = d) := by
  by_cases h1 : (a.length : Int) = (c.length : Int)
  · by_cases h2 : (b.length : Int) = (d.length : Int)
    · obtain ⟨r, hr, hr2⟩ := ev_same_l0 a c b d (by omega) (by omega) ha hb a.length 0 (by omega)
      refine ⟨r, Ev.step (fun k => ?_) hr, by simpa using hr2⟩
      unfold assartref02_Same.f; rw [if_pos h1]; simp only [assartref02_Same.j0]; rw [if_neg (by simp; omega)]; rfl
    · refine ⟨false, Ev.const fun k => ?_, ?_⟩
      · unfold assartref02_Same.f; rw [if_pos h1]; simp only [assartref02_Same.j0]; rw [if_pos (by simp; omega)]
      · simp only [Bool.false_eq_true, false_iff]; rintro ⟨rfl, rfl⟩; exact h2 rfl
  · refine ⟨false, Ev.const fun k => ?_, ?_⟩
    · unfold assartref02_Same.f; rw [if_neg h1]; simp only [assartref02_Same.j0]; rw [if_pos trivial]
    · simp only [Bool.false_eq_true, false_iff]; rintro ⟨rfl, rfl⟩; exact h1 rfl
theorem ev_same_true {a : List ByteArray} {b : List S79} {c : List ByteArray} {d : List S79} (ha : a.length ≤ 1000000) (hb : b.length ≤ 1000000) (h1 : a = c) (h2 : b = d) : Ev (fun k => assartref02_Same.f k a b c d) true := by
  obtain ⟨r, hr, hr2⟩ := ev_same a b c d ha hb
  rwa [hr2.2 ⟨h1, h2⟩] at hr
theorem ev_eqs_l0 (a c : List ByteArray) (he : a.length = c.length) (ha : a.length ≤ 1000000) : ∀ n i, i + n = a.length → ∃ r, Ev (fun k => slices_Equal_string_string.l0 k a c (a.length : Int) (i : Int)) r ∧ (r = true ↔ a.drop i = c.drop i) := by
  intro n
  induction n with
  | zero =>
    intro i hi
    exact ⟨true, Ev.const fun k => by simp only [slices_Equal_string_string.l0]; rw [if_neg (by omega)], by rw [List.drop_of_length_le (by omega), List.drop_of_length_le (by omega)]; simp⟩
  | succ n ih =>
    intro i hi
    have h1 : i < a.length := by omega
    have h2 : i < c.length := by omega
    by_cases h : a[i] = c[i]
    · obtain ⟨r, hr, hr2⟩ := ih (i + 1) (by omega)
      refine ⟨r, Ev.step (fun k => ?_) hr, ?_⟩
      · simp only [slices_Equal_string_string.l0]; rw [if_pos (by omega), if_pos (by omega), if_pos (by omega), if_pos (by omega), rd_strD _ _ h1, rd_strD _ _ h2, if_pos (by rw [h]), wrap_upD (by omega)]
      · rw [hr2, List.drop_eq_getElem_cons h1, List.drop_eq_getElem_cons h2, h]; simp only [List.cons.injEq, true_and]
    · refine ⟨false, Ev.const fun k => ?_, ?_⟩
      · simp only [slices_Equal_string_string.l0]; rw [if_pos (by omega), if_pos (by omega), if_pos (by omega), if_pos (by omega), rd_strD _ _ h1, rd_strD _ _ h2, if_neg (by rw [toList_injD]; exact h)]
      · rw [List.drop_eq_getElem_cons h1, List.drop_eq_getElem_cons h2]; simp only [List.cons.injEq, h, false_and, Bool.false_eq_true]
theorem ev_eqw_l0 (b d : List S79) (he : b.length = d.length) (hb : b.length ≤ 1000000) : ∀ n i, i + n = b.length → ∃ r, Ev (fun k => api_Write_91.l0 k b d (b.length : Int) (i : Int)) r ∧ (r = true ↔ b.drop i = d.drop i) := by
  intro n
  induction n with
  | zero =>
    intro i hi
    exact ⟨true, Ev.const fun k => by simp only [api_Write_91.l0]; rw [if_neg (by omega)], by rw [List.drop_of_length_le (by omega), List.drop_of_length_le (by omega)]; simp⟩
  | succ n ih =>
    intro i hi
    have h1 : i < b.length := by omega
    have h2 : i < d.length := by omega
    by_cases h : b[i] = d[i]
    · obtain ⟨r, hr, hr2⟩ := ih (i + 1) (by omega)
      refine ⟨r, Ev.step (fun k => ?_) hr, ?_⟩
      · simp only [api_Write_91.l0]; rw [if_pos (by omega), if_pos (by omega), if_pos (by omega), if_pos (by omega), rd_nat79 _ _ h1, rd_nat79 _ _ h2, if_neg (by rw [ne79]; exact fun e => e h), wrap_upD (by omega)]
      · rw [hr2, List.drop_eq_getElem_cons h1, List.drop_eq_getElem_cons h2, h]; simp only [List.cons.injEq, true_and]
    · refine ⟨false, Ev.const fun k => ?_, ?_⟩
      · simp only [api_Write_91.l0]; rw [if_pos (by omega), if_pos (by omega), if_pos (by omega), if_pos (by omega), rd_nat79 _ _ h1, rd_nat79 _ _ h2, if_pos ((ne79 _ _).2 h)]
      · rw [List.drop_eq_getElem_cons h1, List.drop_eq_getElem_cons h2]; simp only [List.cons.injEq, h, false_and, Bool.false_eq_true]
theorem ev_dsame (a : List ByteArray) (b : List S79) (c : List ByteArray) (d : List S79) (ha : a.length ≤ 1000000) (hb : b.length ≤ 1000000) : ∃ r, Ev (fun k => disk_Same.f k a b c d) r ∧ (r = true ↔ a = c ∧ b = d) := by
  have h1 : ∃ r, Ev (fun k => slices_Equal_string_string.f k a c) r ∧ (r = true ↔ a = c) := by
    by_cases h : (a.length : Int) = (c.length : Int)
    · obtain ⟨r, hr, hr2⟩ := ev_eqs_l0 a c (by omega) ha a.length 0 (by omega)
      exact ⟨r, Ev.congr (fun k => by unfold slices_Equal_string_string.f; rw [if_pos h]; rfl) hr, by simpa using hr2⟩
    · exact ⟨false, Ev.const0 fun k => by unfold slices_Equal_string_string.f; rw [if_neg h], by simp only [Bool.false_eq_true, false_iff]; rintro rfl; exact h rfl⟩
  have h2 : ∃ r, Ev (fun k => api_Write_91.f k b d) r ∧ (r = true ↔ b = d) := by
    by_cases h : (b.length : Int) = (d.length : Int)
    · obtain ⟨r, hr, hr2⟩ := ev_eqw_l0 b d (by omega) hb b.length 0 (by omega)
      exact ⟨r, Ev.congr (fun k => by unfold api_Write_91.f; rw [if_pos h]; rfl) hr, by simpa using hr2⟩
    · exact ⟨false, Ev.const0 fun k => by unfold api_Write_91.f; rw [if_neg h], by simp only [Bool.false_eq_true, false_iff]; rintro rfl; exact h rfl⟩
  obtain ⟨r1, e1, q1⟩ := h1
  obtain ⟨r2, e2, q2⟩ := h2
  cases r1 with
  | false =>
    refine ⟨false, Ev.congr (fun k => by unfold disk_Same.f; rfl) (Ev.bind (f := fun k t => if t = true then ((api_Write_91.f k b d).bind fun t => some t) else some false) e1 (Ev.const0 fun k => by rw [if_neg (by simp)])), ?_⟩
    rw [← q1, ← q2]; simp
  | true =>
    refine ⟨r2, Ev.congr (fun k => by unfold disk_Same.f; rfl) (Ev.bind (f := fun k t => if t = true then ((api_Write_91.f k b d).bind fun t => some t) else some false) e1 (Ev.congr (fun k => by rw [if_pos rfl]) (Ev.bind (f := fun _ t => some t) e2 (Ev.now r2)))), ?_⟩
    rw [← q1, ← q2]; simp
end Go.Proofs.Ytgjjcgemelafaaa.P
