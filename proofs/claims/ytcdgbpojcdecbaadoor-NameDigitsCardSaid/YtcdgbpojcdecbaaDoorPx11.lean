-- By wip/tools/drive.py: the kit's print, with contracts of this session's own among the functions.
import Derived.Test.YtcdgbpojcdecbaaDoorPx0
import Derived.Test.YtcdgbpojcdecbaaDoorPx1
import Derived.Test.YtcdgbpojcdecbaaDoorPx10
namespace Go.Proofs.YtcdgbpojcdecbaaDoor.P
open Go.RowKit Go.Proofs.YtcdgbpojcdecbaaDoorW.PrintWords Go.Proofs.YtcdgbpojcdecbaaDoorW.PrintLast Go.Proofs.YtcdgbpojcdecbaaDoorW.PrintMore
attribute [local go_sem] max2_int min2_int max_two min_two max_three min_three max_four min_four   -- for this text's walks alone
set_option linter.unusedVariables false
set_option linter.unusedSimpArgs false

-- GIVEN
/-! ### name_Within: function 19 -/

theorem equal_tells (a b : List Int) (hl : a.length = b.length) (hb : a.length ≤ 1000000) : ∀ (d i k : Nat), i + d = a.length → d < k → a.take i = b.take i → slices_Equal_int_int.l0 k a b (a.length : Int) (i : Int) = some (decide (a = b)) := by
  intro d
  induction d with
  | zero =>
    intro i k hi hk ht
    obtain ⟨k, rfl⟩ : ∃ m, k = m + 1 := ⟨k - 1, by omega⟩
    have : a = b := by rwa [List.take_of_length_le (by omega), List.take_of_length_le (by omega)] at ht
    simp only [slices_Equal_int_int.l0]
    rw [if_neg (by omega), this]; simp
  | succ d ih =>
    intro i k hi hk ht
    obtain ⟨k, rfl⟩ : ∃ m, k = m + 1 := ⟨k - 1, by omega⟩
    simp only [slices_Equal_int_int.l0]
    rw [if_pos (by omega), if_pos (by omega), if_pos (by omega), if_pos (by omega), rd_eq a i (by omega), rd_eq b i (by omega), wrap_up (by omega) (by omega)]
    by_cases he : a[i]'(by omega) = b[i]'(by omega)
    · rw [if_pos he, show ((i : Int) + 1) = ((i + 1 : Nat) : Int) by omega]
      exact ih (i + 1) k (by omega) (by omega) (by rw [List.take_succ_eq_append_getElem (by omega), List.take_succ_eq_append_getElem (by omega), ht, he])
    · rw [if_neg he]
      have : ¬ a = b := fun h => he (by subst h; rfl)
      simp [this]
theorem equal_some (a b : List Int) (hb : a.length ≤ 1000000) : slices_Equal_int_int.f (a.length + 1) a b = some (decide (a = b)) := by
  unfold slices_Equal_int_int.f
  by_cases hl : a.length = b.length
  · rw [if_pos (by omega)]
    exact equal_tells a b hl hb a.length 0 _ (by omega) (by omega) (by simp)
  · rw [if_neg (by omega)]
    have : ¬ a = b := fun h => hl (by rw [h])
    simp [this]
def name_Within.f (l0 l1 : List Int) : Option Bool := if l0.length ≤ 1000000 then some (decide (l0.length ≤ l1.length) && decide (l0 = l1.take l0.length)) else none
set_option maxHeartbeats 1000000 in
set_option maxRecDepth 100000 in
theorem name_Within.calls (A0 : Option Addr) (c0 : Nat) (l0 : List Int) (A1 : Option Addr) (c1 : Nat) (l1 : List Int) (r : Bool) (w : World) (hr0 : Kd.C (Kd.int .i64) w A0 l0.length l0) (hc0 : l0.length ≤ c0) (hr1 : Kd.C (Kd.int .i64) w A1 l1.length l1) (hc1 : l1.length ≤ c1) (h : name_Within.f l0 l1 = some r) :
    Calls Tryd.prog 19 #[.slice A0 l0.length c0, .slice A1 l1.length c1] w fun e w' => e = .returned (.bool r) ∧ Drawn0 w w' := by
  have HR0 := Aside0.mk hr0
  have HC0 := Aside0.mk hc0
  have HR1 := Aside0.mk hr1
  have HC1 := Aside0.mk hc1
  unfold name_Within.f at h
  by_cases hb : l0.length ≤ 1000000
  · rw [if_pos hb] at h
    by_cases c3 : l0.length ≤ l1.length
    · have hl : (l1.take l0.length).length = l0.length := by rw [List.length_take]; omega
      have hT := Aside0.mk (Kd.C_take (m := l0.length) hr1 c3)
      rw [hl] at hT
      have hE := fun W h3 h4 => slices_Equal_int_int.calls (l0.length + 1) A0 c0 l0 A1 c1 (l1.take l0.length) (decide (l0 = l1.take l0.length)) W h3 hc0 h4 (by omega) (equal_some _ _ hb)
      rw [hl] at hE
      have HE := Aside0.mk hE
      obtain ⟨i0, hi0, _, hs0, _⟩ := info_parts info3
      have hcut := cut_to (P := Tryd.prog) 22 3 .i64 Tryd.underlying22 hi0 A1 l1.length c1 (l0.length : Int) (by omega) (by omega) hc1
      rw [Int.toNat_natCast] at hcut
      have hr : r = decide (l0 = l1.take l0.length) := by have := Option.some.inj h; rw [← this]; simp [c3]
      have R := Aside0.mk hr
      clear hE hi0 hs0 hl h hr0 hc0 hr1 hc1 hr
      have c3b0 : decide ((l0.length : Int) ≤ (l1.length : Int)) = true := decide_eq_true (by omega)
      have c3b1 : decide (l0.length ≤ l1.length) = true := decide_eq_true c3
      go_enter Tryd.func19, Tryd.ntmps19
      go_wp2_with (first | (go_at_call 26; (with_reducible refine (HE.out _ ?s1 ?s2).mono ?_); (case s1 => repeat (first | exact HR0.out | (with_reducible refine Kd.C_alloc ?_ _) | (with_reducible refine Kd.C_drewN ?_ _) | (with_reducible refine Kd.C_drew ?_))); (case s2 => repeat (first | exact hT.out | (with_reducible refine Kd.C_alloc ?_ _) | (with_reducible refine Kd.C_drewN ?_ _) | (with_reducible refine Kd.C_drew ?_))); rintro e w' ⟨rfl, ⟨nd, rfl⟩⟩))
      go_ret
      rw [R.out]
      exact ⟨rfl, by repeat (first | exact Drawn0.refl _ | apply Drawn0.step)⟩
    · have hr : r = false := by have := Option.some.inj h; rw [← this]; simp [c3]
      subst hr
      have c3b0 : decide ((l0.length : Int) ≤ (l1.length : Int)) = false := decide_eq_false (by omega)
      have c3b1 : decide (l0.length ≤ l1.length) = false := decide_eq_false c3
      clear h c3 hb hr0 hc0 hr1 hc1
      go_enter Tryd.func19, Tryd.ntmps19
      go_wp2
      go_ret
      exact ⟨rfl, by repeat (first | exact Drawn0.refl _ | apply Drawn0.step)⟩
  · rw [if_neg hb] at h
    exact absurd h (by simp)


end Go.Proofs.YtcdgbpojcdecbaaDoor.P
