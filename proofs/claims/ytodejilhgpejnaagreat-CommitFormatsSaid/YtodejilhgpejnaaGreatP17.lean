import Derived.Test.YtodejilhgpejnaaGreatP14
namespace Go.Proofs.YtodejilhgpejnaaGreat.Q
open Go.RowKit Go.Proofs.YtodejilhgpejnaaGreatW.PrintWords Go.Proofs.YtodejilhgpejnaaGreatW.PrintLast Go.Proofs.YtodejilhgpejnaaGreatW.PrintMore
attribute [local go_sem] max2_int min2_int max_two min_two max_three min_three max_four min_four
set_option linter.unusedVariables false
set_option linter.unusedSimpArgs false
set_option maxHeartbeats 1000000 in
theorem refArea_walk (n : Nat) (w : World) (hn : n ≤ 100000) : Calls Tryz.prog 42 #[.int .i64 n] w fun e w' => e = .returned (.int .i64 (areaF n : Nat)) ∧ w = w' := by
  obtain ⟨A, hA⟩ : ∃ A, A = areaF n := ⟨_, rfl⟩
  have hA1 : 1631 + 2 * n ≤ 40 * A := by rw [hA]; unfold areaF; omega
  have hA2 : 40 * A < 1631 + 2 * n + 40 := by rw [hA]; unfold areaF; omega
  have hA3 : A ≤ 10000 := by omega
  rw [← hA]
  have h1 : 0 ≤ (n : Int) := by omega
  have h2 : (n : Int) ≤ 100000 := by omega
  clear hA hn
  go_enter Tryz.func42, Tryz.ntmps42
  go_wp2
  go_loopg [3] A (fun g s3 wr => ∃ k : Nat, s3 = .int .i64 k ∧ k + g = A ∧ w = wr)
  case atStart => exact ⟨0, rfl, by omega, rfl⟩
  case round =>
    obtain ⟨k, rfl, hk, rfl⟩ := hrel
    have k1 : 0 ≤ (k : Int) := by omega
    have k2 : (k : Int) ≤ 10000 := by omega
    by_cases hlt : k < A
    · obtain ⟨g1, rfl⟩ : ∃ g1, gk = g1 + 1 := ⟨gk - 1, by omega⟩
      have q1 : decide ((40 : Int) * (k : Int) < 1631 + 2 * (n : Int)) = true := decide_eq_true (by omega)
      have HW := Aside0.mk (show (k : Int) + 1 = ((k + 1 : Nat) : Int) by omega)
      have HK := Aside0.mk hk
      clear hlt hk hA1 hA2
      go_wp2
      go_roundg g1
      case measure => omega
      case rel => exact ⟨k + 1, by rw [HW.out], by have := HK.out; omega, rfl⟩
    · have q1 : decide ((40 : Int) * (k : Int) < 1631 + 2 * (n : Int)) = false := decide_eq_false (by omega)
      have HK := Aside0.mk (show k = A by omega)
      clear hlt hk hA1 hA2
      go_wp2
      go_ret
      exact ⟨ret_i (by rw [HK.out]), rfl⟩
set_option maxHeartbeats 1000000 in
theorem refBase_walk (n : Nat) (w : World) (hn : n ≤ 100000) : Calls Tryz.prog 25 #[.int .i64 n] w fun e w' => e = .returned (.int .i64 (baseF n : Nat)) ∧ w = w' := by
  have ha : areaF n ≤ 10000 := by unfold areaF; omega
  have HN := Aside0.mk hn
  have h1 : 0 ≤ (areaF n : Int) := by omega
  have h2 : (areaF n : Int) ≤ 10000 := by omega
  clear hn ha
  go_enter Tryz.func25, Tryz.ntmps25
  go_wp2_with (go_at_call 42; refine (refArea_walk _ _ HN.out).mono ?_; rintro e w' ⟨rfl, rfl⟩)
  go_ret
  exact ⟨ret_i (by unfold baseF; omega), rfl⟩
theorem baseF_mono {a b : Nat} (h : a ≤ b) : baseF a ≤ baseF b := by unfold baseF areaF; omega
set_option maxHeartbeats 2000000 in
theorem refCells_walk (blocks : Nat) (w : World) (hb : blocks ≤ 1000000) : Calls Tryz.prog 10 #[.int .i64 blocks] w fun e w' => e = .returned (.int .i64 (cellsF blocks : Nat)) ∧ w = w' := by
  obtain ⟨s1, s2, s3⟩ := cells_spec blocks
  obtain ⟨c, hc⟩ : ∃ c, c = cellsF blocks := ⟨_, rfl⟩
  rw [← hc] at s1 s2 s3 ⊢
  have S2 := Aside0.mk s2
  have S3 := Aside0.mk s3
  have HB := Aside0.mk hb
  have S1 := Aside0.mk s1
  clear hc s2 s3 hb s1
  go_enter Tryz.func10, Tryz.ntmps10
  go_wp2
  go_loopg [3] c (fun g s3 wr => ∃ k : Nat, s3 = .int .i64 k ∧ k + g = c ∧ w = wr)
  case atStart => exact ⟨0, rfl, by omega, rfl⟩
  case round =>
    obtain ⟨k, rfl, hk, rfl⟩ := hrel
    have hs1 := S1.out
    obtain ⟨B, hB⟩ : ∃ B, B = baseF (k + 1) := ⟨_, rfl⟩
    have hB1 : B ≤ 100000 := by rw [hB]; unfold baseF areaF; omega
    have hcall := fun w : World => refBase_walk (k + 1) w (by omega)
    rw [← hB, show ((k + 1 : Nat) : Int) = (k : Int) + 1 by simp] at hcall
    have HC := Aside0.mk hcall
    clear hcall
    have k1 : 0 ≤ (k : Int) := by omega
    have k2 : (k : Int) ≤ 2000 := by omega
    by_cases hlt : k < c
    · obtain ⟨g1, rfl⟩ : ∃ g1, gk = g1 + 1 := ⟨gk - 1, by omega⟩
      have hle : B + k + 1 ≤ blocks := by
        have h2 := S2.out (by omega)
        have := baseF_mono (show k + 1 ≤ c by omega)
        omega
      have q0 : decide ((k : Int) < 2000) = true := decide_eq_true (by omega)
      have q0' : decide (k < 2000) = true := decide_eq_true (by omega)
      have q1 : decide ((B : Int) + (k : Int) + 1 ≤ (blocks : Int)) = true := decide_eq_true (by omega)
      have q2 : decide (B + k + 1 ≤ blocks) = true := decide_eq_true hle
      have q3 : (B + k + 1 ≤ blocks) = True := eq_true hle
      have HW := Aside0.mk (show (k : Int) + 1 = ((k + 1 : Nat) : Int) by omega)
      have HK := Aside0.mk hk
      clear hlt hk hle hB hs1
      go_wp2_with (first | (go_at_call 25; (with_reducible refine (HC.out _).mono ?_); rintro e w' ⟨rfl, rfl⟩) | fail)
      go_roundg g1
      case measure => omega
      case rel => exact ⟨k + 1, by rw [HW.out], by have := HK.out; omega, rfl⟩
    · have hkc : k = c := by omega
      by_cases h2 : k < 2000
      · have hgt : blocks < B + k + 1 := by
          rcases S3.out with e | e
          · omega
          · rw [← hkc, ← hB] at e; exact e
        have q0 : decide ((k : Int) < 2000) = true := decide_eq_true (by omega)
        have q0' : decide (k < 2000) = true := decide_eq_true (by omega)
        have q1 : decide ((B : Int) + (k : Int) + 1 ≤ (blocks : Int)) = false := decide_eq_false (by omega)
        have q2 : decide (B + k + 1 ≤ blocks) = false := decide_eq_false (by omega)
        have q3 : (B + k + 1 ≤ blocks) = False := eq_false (by omega)
        have HK := Aside0.mk hkc
        clear hlt hk hgt hB hs1 hkc
        go_wp2_with (first | (go_at_call 25; (with_reducible refine (HC.out _).mono ?_); rintro e w' ⟨rfl, rfl⟩) | fail)
        go_ret
        exact ⟨ret_i (by rw [HK.out]), rfl⟩
      · have q0 : decide ((k : Int) < 2000) = false := decide_eq_false (by omega)
        have q0' : decide (k < 2000) = false := decide_eq_false (by omega)
        have HK := Aside0.mk hkc
        clear hlt hk hB hs1 hkc
        go_wp2
        go_ret
        exact ⟨ret_i (by rw [HK.out]), rfl⟩
end Go.Proofs.YtodejilhgpejnaaGreat.Q
