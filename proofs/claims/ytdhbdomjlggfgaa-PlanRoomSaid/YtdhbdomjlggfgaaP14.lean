import Derived.Test.YtdhbdomjlggfgaaP13
namespace Go.Proofs.Ytdhbdomjlggfgaa.Q
open Go.RowKit Go.Proofs.YtdhbdomjlggfgaaW.PrintWords Go.Proofs.YtdhbdomjlggfgaaW.PrintLast Go.Proofs.YtdhbdomjlggfgaaW.PrintMore
attribute [local go_sem] max2_int min2_int max_two min_two max_three min_three max_four min_four
set_option linter.unusedVariables false
set_option linter.unusedSimpArgs false
theorem w64_one (k : Nat) (h : k < 2000) : wrap64 (1 + (k : Int)) = ((1 + k : Nat) : Int) := by unfold wrap64; omega
theorem i64_u16 (a : Nat) (h : a ≤ 65535) : IntKind.i64.wrap (a : Int) = (a : Int) := by rw [i64_w]; unfold wrap64; omega
set_option maxHeartbeats 4000000 in
set_option maxRecDepth 100000 in
theorem room_all (a b : Nat) (w : World) (ha : a ≤ 65535) (hb : b ≤ 65535) : Calls Try.prog 4 #[.int .u16 a, .int .u16 b] w fun e w' => e = .returned (.bool true) ∧ Below w.heap.size w w' := by
  obtain ⟨k, hk⟩ : ∃ k, k = a % 2000 := ⟨_, rfl⟩
  obtain ⟨n, hn⟩ : ∃ n, n = 1 + k := ⟨_, rfl⟩
  obtain ⟨m, hm⟩ : ∃ m, m = b % 5000 := ⟨_, rfl⟩
  obtain ⟨A, hA⟩ : ∃ A, A = areaF n := ⟨_, rfl⟩
  obtain ⟨c, hc⟩ : ∃ c, c = cellsF m := ⟨_, rfl⟩
  obtain ⟨B, hB⟩ : ∃ B, B = baseF c := ⟨_, rfl⟩
  obtain ⟨D, hD⟩ : ∃ D, D = baseF (c + 1) := ⟨_, rfl⟩
  obtain ⟨E, hE⟩ : ∃ E, E = baseF n := ⟨_, rfl⟩
  obtain ⟨s1, s2, s3⟩ := cells_spec m
  rw [← hc] at s1 s2 s3
  rw [← hB] at s2
  rw [← hD] at s3
  have hn2 : n ≤ 2000 := by omega
  have hn1 : 1 ≤ n := by omega
  have hm2 : m < 5000 := by omega
  have hA1 : 1631 + 2 * n ≤ 40 * A := by rw [hA]; unfold areaF; omega
  have hA2 : 40 * A < 1631 + 2 * n + 40 := by rw [hA]; unfold areaF; omega
  have hE1 : E = 2 + 2 * A := by rw [hE, hA]; rfl
  have hB1 : B ≤ 100000 := by rw [hB]; unfold baseF areaF; omega
  have hD1 : D ≤ 100000 := by rw [hD]; unfold baseF areaF; omega
  have p1 : decide ((40 : Int) * (A : Int) < 1631 + 2 * (n : Int)) = false := decide_eq_false (by omega)
  have p2 : decide ((1631 : Int) + 2 * (n : Int) ≤ 40 * ((A : Int) - 1)) = false := decide_eq_false (by omega)
  have p3 : ((E : Int) == 2 + 2 * (A : Int)) = true := beq_iff_eq.mpr (by omega)
  have p4 : decide ((2000 : Int) < (c : Int)) = false := decide_eq_false (by omega)
  have p5 : decide (2000 < c) = false := decide_eq_false (by omega)
  have p6 : decide ((c : Int) < 0) = false := decide_eq_false (by omega)
  have hnk : (1 + (k : Int)) = (n : Int) := by omega
  have t1 : Int.tmod (a : Int) 2000 = (k : Int) := by rw [Int.tmod_eq_emod_of_nonneg (by omega), hk]; omega
  have t2 : Int.tmod (b : Int) 5000 = (m : Int) := by rw [Int.tmod_eq_emod_of_nonneg (by omega), hm]; omega
  have t3 : (a : Int) % 2000 = (k : Int) := by rw [hk]; omega
  have t4 : (b : Int) % 5000 = (m : Int) := by rw [hm]; omega
  have HFA := Aside0.mk (fun w : World => area_walk n w (by omega))
  have HFE := Aside0.mk (fun w : World => base_walk n w (by omega))
  have HFC := Aside0.mk (fun w : World => cells_walk m w (by omega))
  have HFB := Aside0.mk (fun w : World => base_walk c w (by omega))
  have hfd := fun w : World => base_walk (c + 1) w (by omega)
  rw [show ((c + 1 : Nat) : Int) = (c : Int) + 1 by simp] at hfd
  have HFD := Aside0.mk hfd
  rw [← hA] at HFA
  rw [← hE] at HFE
  rw [← hc] at HFC
  rw [← hB] at HFB
  rw [← hD] at HFD
  have g1 : wrap64 (1 + (k : Int)) = (n : Int) := by rw [hn]; exact w64_one k (by omega)
  have g2 := i64_u16 a ha
  have g3 := i64_u16 b hb
  have HNK := Aside0.mk hnk
  clear hfd hnk hk hn hm hA hc hB hD hE
  go_enter Try.func4, Try.ntmps4
  go_upto_region 3 with (first | (go_at_call 6; (with_reducible refine (shown_walk _).mono ?_); rintro e w1 ⟨rfl, hb1⟩; have HB1 := Aside0.mk hb1; clear hb1) | fail)
  rw [HNK.out]
  clear t1 t3 g1 HNK
  have S2 := Aside0.mk s2
  have S3 := Aside0.mk s3
  clear s2 s3
  go_upto_region 6 with (first | (go_at_call 9; (with_reducible refine (HFA.out _).mono ?_); rintro e w' ⟨rfl, rfl⟩) | (go_at_call 13; (with_reducible refine (HFC.out _).mono ?_); rintro e w5 ⟨rfl, hb5⟩; have HB5 := Aside0.mk (below_step HB1.out hb5); clear hb5) | fail)
  go_upto_region 8 with (first | (go_at_call 11; (with_reducible refine (HFE.out _).mono ?_); rintro e w' ⟨rfl, rfl⟩) | fail)
  clear g2 g3 t2 t4
  by_cases hc0 : c = 0
  · have x1 : decide ((0 : Int) < (c : Int)) = false := decide_eq_false (by omega)
    have x2 : decide (0 < c) = false := decide_eq_false (by omega)
    go_upto_region 10 with fail
    clear hc0
    by_cases h2 : c = 2000
    · have z1 : ((c : Int) == 2000) = true := beq_iff_eq.mpr (by omega)
      have z2 : (c == 2000) = true := beq_iff_eq.mpr h2
      have z3 : (c = 2000) = True := eq_true h2
      have Z := Aside0.mk h2
      clear h2
      go_wp2_with fail
      go_ret
      exact ⟨by first | rfl | (simp; done), HB5.out⟩
    · have z1 : ((c : Int) == 2000) = false := beq_eq_false_iff_ne.mpr (by omega)
      have z2 : (c == 2000) = false := beq_eq_false_iff_ne.mpr h2
      have z3 : (c = 2000) = False := eq_false h2
      have y1 : decide ((m : Int) < (D : Int) + (c : Int) + 1) = true := decide_eq_true (by have := S3.out; omega)
      have y2 : decide (m < D + c + 1) = true := decide_eq_true (by have := S3.out; omega)
      have Z := Aside0.mk h2
      clear h2
      go_wp2_with (first | (go_at_call 11; (with_reducible refine (HFD.out _).mono ?_); rintro e w' ⟨rfl, rfl⟩) | fail)
      go_ret
      exact ⟨by first | rfl | (simp; done), HB5.out⟩
  · have x1 : decide ((0 : Int) < (c : Int)) = true := decide_eq_true (by omega)
    have x2 : decide (0 < c) = true := decide_eq_true (by omega)
    have x3 : decide ((m : Int) < (B : Int) + (c : Int)) = false := decide_eq_false (by have := S2.out (by omega); omega)
    have x4 : decide (m < B + c) = false := decide_eq_false (by have := S2.out (by omega); omega)
    go_upto_region 10 with (first | (go_at_call 11; (with_reducible refine (HFB.out _).mono ?_); rintro e w' ⟨rfl, rfl⟩) | fail)
    clear hc0
    by_cases h2 : c = 2000
    · have z1 : ((c : Int) == 2000) = true := beq_iff_eq.mpr (by omega)
      have z2 : (c == 2000) = true := beq_iff_eq.mpr h2
      have z3 : (c = 2000) = True := eq_true h2
      have Z := Aside0.mk h2
      clear h2
      go_wp2_with fail
      go_ret
      exact ⟨by first | rfl | (simp; done), HB5.out⟩
    · have z1 : ((c : Int) == 2000) = false := beq_eq_false_iff_ne.mpr (by omega)
      have z2 : (c == 2000) = false := beq_eq_false_iff_ne.mpr h2
      have z3 : (c = 2000) = False := eq_false h2
      have y1 : decide ((m : Int) < (D : Int) + (c : Int) + 1) = true := decide_eq_true (by have := S3.out; omega)
      have y2 : decide (m < D + c + 1) = true := decide_eq_true (by have := S3.out; omega)
      have Z := Aside0.mk h2
      clear h2
      go_wp2_with (first | (go_at_call 11; (with_reducible refine (HFD.out _).mono ?_); rintro e w' ⟨rfl, rfl⟩) | fail)
      go_ret
      exact ⟨by first | rfl | (simp; done), HB5.out⟩
end Go.Proofs.Ytdhbdomjlggfgaa.Q
