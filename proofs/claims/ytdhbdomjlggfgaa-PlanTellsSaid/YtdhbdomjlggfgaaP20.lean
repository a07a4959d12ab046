import Derived.Test.YtdhbdomjlggfgaaP19
namespace Go.Proofs.Ytdhbdomjlggfgaa.Q
open Go.RowKit Go.Proofs.YtdhbdomjlggfgaaW.PrintWords Go.Proofs.YtdhbdomjlggfgaaW.PrintLast Go.Proofs.YtdhbdomjlggfgaaW.PrintMore
attribute [local go_sem] max2_int min2_int max_two min_two max_three min_three max_four min_four
set_option linter.unusedVariables false
set_option linter.unusedSimpArgs false
set_option maxHeartbeats 8000000 in
set_option maxRecDepth 100000 in
theorem planTells_all (a b : Nat) (A : Option Addr) (c : Nat) (l : List Int) (w : World) (ha : a ≤ 65535) (hb : b ≤ 65535) (hr : Kd.C (Kd.int .u8) w A l.length l) (hl : ∀ x ∈ l, 0 ≤ x ∧ x < 256) (hc : l.length ≤ c) (hcm : c ≤ 9223372036854775807) :
    Calls Try.prog 3 #[.int .u16 a, .int .u16 b, .slice A l.length c] w fun e w' => e = .returned (.bool true) ∧ Below w.heap.size w w' := by
  have HR := Aside0.mk hr
  have HL := Aside0.mk hl
  have HC := Aside0.mk (And.intro hc hcm)
  have HAB := Aside0.mk (And.intro ha hb)
  clear hr hl hc hcm
  by_cases hn : 1000 < l.length
  · have q1 : decide ((1000 : Int) < (l.length : Int)) = true := decide_eq_true (by omega)
    have q2 : decide (1000 < l.length) = true := decide_eq_true hn
    clear hn ha hb
    go_enter Try.func3, Try.ntmps3
    go_wp2_with (first | (go_at_call 6; (with_reducible refine (shown_walk _).mono ?_); rintro e w1 ⟨rfl, hb1⟩; have HB1 := Aside0.mk hb1; clear hb1) | fail)
    go_ret
    exact ⟨rfl, HB1.out⟩
  · have q1 : decide ((1000 : Int) < (l.length : Int)) = false := decide_eq_false (by omega)
    have q2 : decide (1000 < l.length) = false := decide_eq_false hn
    by_cases hbb : 5000 < b
    · have q3 : decide ((5000 : Int) < (b : Int)) = true := decide_eq_true (by omega)
      have q4 : decide (5000 < b) = true := decide_eq_true hbb
      clear hn ha hb hbb
      go_enter Try.func3, Try.ntmps3
      go_wp2_with (first | (go_at_call 6; (with_reducible refine (shown_walk _).mono ?_); rintro e w1 ⟨rfl, hb1⟩; have HB1 := Aside0.mk hb1; clear hb1) | fail)
      go_ret
      exact ⟨rfl, HB1.out⟩
    · have q3 : decide ((5000 : Int) < (b : Int)) = false := decide_eq_false (by omega)
      have q4 : decide (5000 < b) = false := decide_eq_false hbb
      obtain ⟨k, hk⟩ : ∃ k, k = a % 2000 := ⟨_, rfl⟩
      obtain ⟨n, hnk⟩ : ∃ n, n = 1 + k := ⟨_, rfl⟩
      have HN := Aside0.mk (show n ≤ 2000 by omega)
      have HLN := Aside0.mk (show l.length ≤ 1000 by omega)
      have HNK := Aside0.mk (show (1 + (k : Int)) = (n : Int) by omega)
      have t1 : Int.tmod (a : Int) 2000 = (k : Int) := by rw [Int.tmod_eq_emod_of_nonneg (by omega), hk]; omega
      have t3 : (a : Int) % 2000 = (k : Int) := by rw [hk]; omega
      have g1 : wrap64 (1 + (k : Int)) = (n : Int) := by rw [hnk]; exact w64_one k (by omega)
      have g2 := i64_u16 a ha
      have g3 := i64_u16 b hb
      clear hk hnk hn ha hb hbb
      go_enter Try.func3, Try.ntmps3
      go_upto_region 5 with (first | (go_at_call 6; (with_reducible refine (shown_walk _).mono ?_); rintro e w1 ⟨rfl, hb1⟩; have HB1 := Aside0.mk hb1; clear hb1) | fail)
      try rw [HNK.out]
      clear t1 t3 g1
      go_upto_region 6 with (first | (go_at_call 7; (with_reducible refine (chunks_walk A c l _ (Kd.C_below HR.out HB1.out) (by have := HLN.out; omega) HC.out.1 HC.out.2).mono ?_); rintro e w2 ⟨v, rfl, hv, hb2⟩; have HV := Aside0.mk hv; have HB2 := Aside0.mk (below_step HB1.out hb2); clear hv hb2) | (go_at_call 8; (with_reducible refine (refChunks_walk A c l _ (Kd.C_below HR.out HB2.out) HL.out (by have := HLN.out; omega) HC.out.1 HC.out.2).mono ?_); rintro e w3 ⟨v2, rfl, hv2, hb3⟩; have HV2 := Aside0.mk hv2; have HV1 := Aside0.mk (Kd.R_below HV.out hb3); have HB3 := Aside0.mk (below_step HB2.out hb3); clear hv2 hb3) | fail)
      obtain ⟨A2, c2, rfl⟩ := Kd.R_slice HV1.out
      obtain ⟨A3, c3, rfl⟩ := Kd.R_slice HV2.out
      have hC2 := (Kd.R_reads' HV1.out).2.2
      have hC3 := (Kd.R_reads' HV2.out).2.2
      have hlen : (chunksF l).length ≤ 100000 := by unfold chunksF; simp; unfold piecesN; have := HLN.out; omega
      obtain ⟨xs, hxs⟩ : ∃ xs, xs = chunksF l := ⟨_, rfl⟩
      rw [← hxs] at hC2 hC3 hlen ⊢
      have HC2 := Aside0.mk hC2
      have HC3 := Aside0.mk hC3
      have HXL := Aside0.mk hlen
      clear hC2 hC3 hxs hlen HV HV1 HV2
      go_wp2
      go_loopg [11] xs.length (fun g s11 wr => ∃ j : Nat, s11 = .int .i64 j ∧ j + g = xs.length ∧ Aside0 (Below w3.heap.size w3 wr))
      case atStart => exact ⟨0, rfl, by omega, ⟨Below.refl _ _⟩⟩
      case round =>
        obtain ⟨j, rfl, hj, HB⟩ := hrel
        by_cases hlt : j < xs.length
        · obtain ⟨g1', rfl⟩ : ∃ g1', gk = g1' + 1 := ⟨gk - 1, by omega⟩
          have r1 : (j < xs.length) = True := eq_true hlt
          have r2 : decide (j < xs.length) = true := decide_eq_true hlt
          obtain ⟨ad2, e2, hx2⟩ := Kd.at_string (Kd.C_below HC2.out HB.out) (j : Int) (by omega) (by omega)
          cases e2
          obtain ⟨ad3, e3, hx3⟩ := Kd.at_string (Kd.C_below HC3.out HB.out) (j : Int) (by omega) (by omega)
          cases e3
          rw [Int.toNat_natCast] at hx2 hx3
          obtain ⟨x, hx⟩ : ∃ x, x = rdOf ByteArray.empty xs (j : Int) := ⟨_, rfl⟩
          rw [← hx] at hx2 hx3
          have HJ := Aside0.mk hj
          have HW := Aside0.mk (show wrap64 ((j : Int) + 1) = ((j + 1 : Nat) : Int) by have := HXL.out; unfold wrap64; omega)
          clear hx hlt hj
          go_wp2
          go_quiet (fail)
          go_wp2
          go_roundg g1'
          case measure => omega
          case rel => exact ⟨j + 1, by rw [HW.out], by have := HJ.out; omega, ⟨Below.trans HB.out (Below.mono (below_drewN' _ _) HB.out.size)⟩⟩
        · have r1 : (j < xs.length) = False := eq_false hlt
          have r2 : decide (j < xs.length) = false := decide_eq_false hlt
          have HBW := Aside0.mk (below_step HB3.out HB.out)
          clear hlt hj
          go_wp2_with (first | (go_at_call 9; (with_reducible refine (area_walk n _ (by have := HN.out; omega)).mono ?_); rintro e w' ⟨rfl, rfl⟩) | (go_at_call 10; (with_reducible refine (refArea_walk n _ (by have := HN.out; omega)).mono ?_); rintro e w' ⟨rfl, rfl⟩) | (go_at_call 11; (with_reducible refine (base_walk n _ (by have := HN.out; omega)).mono ?_); rintro e w' ⟨rfl, rfl⟩) | (go_at_call 12; (with_reducible refine (refBase_walk n _ (by have := HN.out; omega)).mono ?_); rintro e w' ⟨rfl, rfl⟩) | (go_at_call 13; (with_reducible refine (cells_walk b _ (by have := HAB.out.2; omega)).mono ?_); rintro e w5 ⟨rfl, hb5⟩; have HB5 := Aside0.mk (below_step HBW.out hb5); clear hb5) | (go_at_call 14; (with_reducible refine (refCells_walk b _ (by have := HAB.out.2; omega)).mono ?_); rintro e w' ⟨rfl, rfl⟩) | fail)
          go_ret
          exact ⟨by first | rfl | (simp; done), HB5.out⟩
end Go.Proofs.Ytdhbdomjlggfgaa.Q
