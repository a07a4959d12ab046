import Derived.Test.YtdhbdomjlggfgaaP15
import Derived.Lib.ConvBytes
namespace Go.Proofs.Ytdhbdomjlggfgaa.Q
open Go.RowKit Go.Proofs.YtdhbdomjlggfgaaW.PrintWords Go.Proofs.YtdhbdomjlggfgaaW.PrintLast Go.Proofs.YtdhbdomjlggfgaaW.PrintMore
attribute [local go_sem] max2_int min2_int max_two min_two max_three min_three max_four min_four
set_option linter.unusedVariables false
set_option linter.unusedSimpArgs false
/-- A string's bytes in a row of their own. -/
theorem conv_bytes (s : ByteArray) (W : World) (hs : s.size ≤ 1000000) : ∃ c' W', (convert 9 23 (.string s)).run Try.prog W = .ok (.slice (some ⟨W.heap.size, 0, none⟩) s.size c') W' ∧ Kd.C (Kd.int .u8) W' (some ⟨W.heap.size, 0, none⟩) s.size (numsOf s) ∧ Below W.heap.size W W' := by
  refine ⟨_, _, Lib.run_convert_string_bytes W 9 23 5 s Try.underlying9 Try.underlying23 Try.underlying5, ?_, ?_⟩
  · refine Kd.C_of_reads (d := 0) ⟨numsOf_length s, by omega, fun _ => ⟨_, rfl, fun j hj => ?_⟩⟩
    have e : (⟨W.heap.size, 0, none⟩ : Addr).add j = ⟨W.heap.size, j, none⟩ := by simp [Addr.add]; omega
    rw [e, Lib.bytesWorld_cell W 5 s j hj]
    have hj2 : j < s.data.toList.length := by rw [data_length]; exact hj
    unfold numsOf
    simp [List.getD_eq_getElem?_getD, List.getElem?_eq_getElem hj2]
  · exact ⟨rfl, rfl, rfl, by rw [Lib.bytesWorld_size]; omega, fun k hk => Lib.bytesWorld_at_old W _ s k hk⟩
set_option maxHeartbeats 4000000 in
set_option maxRecDepth 100000 in
theorem planChunks_all (A : Option Addr) (c : Nat) (l : List Int) (w : World) (hr : Kd.C (Kd.int .u8) w A l.length l) (hl : ∀ x ∈ l, 0 ≤ x ∧ x < 256) (hc : l.length ≤ c) (hcm : c ≤ 9223372036854775807) : Calls Try.prog 5 #[.slice A l.length c] w fun e w' => e = .returned (.bool true) ∧ Below w.heap.size w w' := by
  have HR := Aside0.mk hr
  have HL := Aside0.mk hl
  have HC := Aside0.mk (And.intro hc hcm)
  by_cases hn : 1000 < l.length
  · have q1 : decide ((1000 : Int) < (l.length : Int)) = true := decide_eq_true (by omega)
    have q2 : decide (1000 < l.length) = true := decide_eq_true hn
    clear hr hl hc hcm hn
    go_enter Try.func5, Try.ntmps5
    go_wp2_with (first | (go_at_call 6; (with_reducible refine (shown_walk _).mono ?_); rintro e w1 ⟨rfl, hb1⟩; have HB1 := Aside0.mk hb1; clear hb1) | fail)
    go_ret
    exact ⟨rfl, HB1.out⟩
  · have q1 : decide ((1000 : Int) < (l.length : Int)) = false := decide_eq_false (by omega)
    have q2 : decide (1000 < l.length) = false := decide_eq_false hn
    have HN := Aside0.mk (show l.length ≤ 1000 by omega)
    clear hr hl hc hcm hn
    go_enter Try.func5, Try.ntmps5
    go_upto_region 6 with (first | (go_at_call 6; (with_reducible refine (shown_walk _).mono ?_); rintro e w1 ⟨rfl, hb1⟩; have HB1 := Aside0.mk hb1; clear hb1) | (go_at_call 7; (with_reducible refine (chunks_walk A c l _ (Kd.C_below HR.out HB1.out) (by have := HN.out; omega) HC.out.1 HC.out.2).mono ?_); rintro e w2 ⟨v, rfl, hv, hb2⟩; have HV := Aside0.mk hv; have HB2 := Aside0.mk hb2; clear hv hb2) | fail)
    obtain ⟨A2, c2, rfl⟩ := Kd.R_slice HV.out
    have hlen : (chunksF l).length = piecesN l.length := by unfold chunksF; simp
    have hC0 := (Kd.R_reads' HV.out).2.2
    rw [hlen] at hC0 ⊢
    obtain ⟨N, hN⟩ : ∃ N, N = piecesN l.length := ⟨_, rfl⟩
    rw [← hN] at hC0 ⊢
    have HCC := Aside0.mk hC0
    have HNN := Aside0.mk hN
    have HBW2 := Aside0.mk (show Below w.heap.size w w2 from below_step HB1.out HB2.out)
    have HO0 := Aside0.mk (show Kd.R (Kd.int .u8) 5 (w2.alloc (.cells #[] 5)) w2.heap.size (fun _ => True) (.slice (some ⟨w2.heap.size, 0, none⟩) 0 0) [] from Kd.R_of_own (enc := Value.int .u8) (h1 := fun _ => rfl) ⟨rfl, .inr ⟨w2.heap.size, 0, #[], rfl, Nat.le_refl _, blk_new _ _, Nat.le_refl _, by unfold maxLen; decide, rfl, rfl⟩⟩ (fun _ _ => trivial))
    have HB3 := Aside0.mk (below_alloc (Below.refl w2.heap.size w2) (.cells #[] 5))
    clear hlen hC0 hN HB1 HB2 HV
    go_wp2
    go_loopg [5, 6] N (fun g s5 s6 wr => ∃ k : Nat, s6 = .int .i64 k ∧ k + g = N ∧ Aside0 ((Kd.int .u8).R 5 wr w2.heap.size (fun _ => True) s5 (joinF l k)) ∧ Aside0 (Below w2.heap.size w2 wr))
    case atStart => exact ⟨0, rfl, by omega, HO0, HB3⟩
    case round =>
      clear HO0 HB3
      obtain ⟨k, rfl, hk, HO, HB⟩ := hrel
      by_cases hlt : k < N
      · obtain ⟨g1, rfl⟩ : ∃ g1, gk = g1 + 1 := ⟨gk - 1, by omega⟩
        have q3 : (k < N) = True := eq_true hlt
        have q4 : decide (k < N) = true := decide_eq_true hlt
        have hk2 : 40 * k < l.length := by have := HNN.out; unfold piecesN at this; omega
        obtain ⟨ad, e1, hx⟩ := Kd.at_string (Kd.C_below HCC.out HB.out) (k : Int) (by omega) (by omega)
        cases e1
        rw [chunks_rd l k (by rw [← HNN.out]; exact hlt), Int.toNat_natCast] at hx
        have h40 := chunkS_size l k hk2
        obtain ⟨x, hx2⟩ : ∃ x, x = chunkS l k := ⟨_, rfl⟩
        rw [← hx2] at hx h40
        obtain ⟨c', W', hcv, hCn, hbn⟩ := conv_bytes x wr (by omega)
        rw [h40] at hcv hCn
        have hjl : (joinF l k).length = 40 * k := joinF_length l k (by rw [← HNN.out]; omega)
        have HX := Aside0.mk hx2
        have HJL := Aside0.mk hjl
        have HCN := Aside0.mk hCn
        have HBN := Aside0.mk hbn
        have HKK := Aside0.mk (And.intro hlt hk)
        have HK2 := Aside0.mk hk2
        have HW := Aside0.mk (show wrap64 ((k : Int) + 1) = ((k + 1 : Nat) : Int) by have := HN.out; unfold wrap64; omega)
        clear hlt hk hk2 hx2 hjl hCn hbn
        go_wp2_with (first | ((with_reducible refine gate_builtin (b := .append) (xs := #[.tmp 28, .tmp 33]) rfl ?_); at_builtin; refine Kd.R_append_rows (Kd.int .u8) (w0 := w2) w2.heap.size rfl (.tmp 28) (.tmp 33) 23 5 (.int .u8 0) 1 rfl Try.underlying23 info_u8 rfl (by decide) (by omega) _ (joinF l k) (numsOf x) _ 40 _ (fun _ => True) (fun _ => False) rfl rfl (Kd.R_below HO.out HBN.out) HCN.out (fun _ _ h => h) (fun _ h => h.elim) (fun _ _ => trivial) (below_step HB.out HBN.out) (below_size (below_step HB.out HBN.out)) (by have := HJL.out; have := HK2.out; have := HN.out; omega) ?_; intro v1 w5 ho hb hg hat; have HO5 := Aside0.mk ho; have HB5 := Aside0.mk hb; clear ho hb hg hat) | fail)
        go_roundg g1
        case measure => omega
        case rel => exact ⟨k + 1, by rw [HW.out], by have := HKK.out; omega, ⟨by have h := HO5.out; rw [HX.out] at h; exact h⟩, HB5⟩
      · have hkN : k = N := by omega
        obtain ⟨T, hT⟩ : ∃ T, T = 40 * N := ⟨_, rfl⟩
        have hjl : (joinF l k).length = T := by rw [joinF_length l k (by rw [hkN, ← HNN.out]; exact Nat.le_refl _), hkN, hT]
        obtain ⟨A5, c5, rfl⟩ := Kd.R_slice HO.out
        have hC5 := (Kd.R_reads' HO.out).2.2
        have hTl : l.length ≤ T ∧ T < l.length + 40 := by have := HNN.out; unfold piecesN at this; omega
        have hrd : ∀ j, j < T → rd (joinF l k) (j : Int) = if j < l.length then rd l (j : Int) else 0 := fun j hj => by
          rw [joinF_eq l HL.out k (by rw [hkN, ← HNN.out]; exact Nat.le_refl _)]
          unfold rd
          rw [Int.toNat_natCast, List.getD_eq_getElem?_getD, List.getD_eq_getElem?_getD, List.take_of_length_le (by rw [hkN]; omega)]
          by_cases h : j < l.length
          · rw [if_pos h, List.getElem?_append_left h]
          · rw [if_neg h, List.getElem?_append_right (by omega), List.getElem?_replicate]
            split <;> rfl
        rw [hjl] at hC5 ⊢
        have hlN := HN.out
        have q3 : (k < N) = False := eq_false hlt
        have q4 : decide (k < N) = false := decide_eq_false hlt
        have q5 : decide (T < l.length) = false := decide_eq_false (by omega)
        have q6 : decide (l.length + 40 ≤ T) = false := decide_eq_false (by omega)
        have q7 : decide ((l.length : Int) + 40 ≤ (T : Int)) = false := decide_eq_false (by omega)
        have q8 : wrap64 ((l.length : Int) + 40) = (l.length : Int) + 40 := by unfold wrap64; omega
        have hBw : Below w.heap.size w wr := below_step HBW2.out HB.out
        have HBW := Aside0.mk hBw
        have HRW := Aside0.mk (Kd.C_below HR.out hBw)
        have HC5 := Aside0.mk hC5
        have HTL := Aside0.mk hTl
        have HRD := Aside0.mk hrd
        have HTB := Aside0.mk (show T ≤ 2000 by omega)
        clear hkN hT hjl hTl hrd hC5 hBw hlt hk
        go_wp2
        clear q3 q4 q5 q6 q7 q8
        go_loopg [7] T (fun g s7 wr2 => ∃ j : Nat, s7 = .int .i64 j ∧ j + g = T ∧ Aside0 (Below wr.heap.size wr wr2))
        case atStart => exact ⟨0, rfl, by omega, ⟨Below.refl _ _⟩⟩
        case round =>
          obtain ⟨j, rfl, hj, HB2⟩ := hrel
          by_cases hjt : j < T
          · obtain ⟨g2, rfl⟩ : ∃ g2, gk = g2 + 1 := ⟨gk - 1, by omega⟩
            obtain ⟨ad5, e5, hx5⟩ := Kd.at_int (Kd.C_below HC5.out HB2.out) (j : Int) (by omega) (by omega)
            cases e5
            rw [Int.toNat_natCast, HRD.out j hjt] at hx5
            have HW2 := Aside0.mk (show wrap64 ((j : Int) + 1) = ((j + 1 : Nat) : Int) by have := HTB.out; unfold wrap64; omega)
            have HJ := Aside0.mk (And.intro hjt hj)
            have r1 : (j < T) = True := eq_true hjt
            have r2 : decide (j < T) = true := decide_eq_true hjt
            by_cases hjl : j < l.length
            · rw [if_pos hjl] at hx5
              obtain ⟨ad6, e6, hx6⟩ := Kd.at_int (Kd.C_below HRW.out HB2.out) (j : Int) (by omega) (by omega)
              cases e6
              rw [Int.toNat_natCast] at hx6
              obtain ⟨x, hx⟩ : ∃ x, x = rd l (j : Int) := ⟨_, rfl⟩
              rw [← hx] at hx5 hx6
              have r3 : (j < l.length) = True := eq_true hjl
              have r4 : decide (j < l.length) = true := decide_eq_true hjl
              have r5 : decide (l.length ≤ j) = false := decide_eq_false (by omega)
              clear hx hjl hjt hj
              go_wp2
              go_quiet (fail)
              go_wp2
              go_roundg g2
              case measure => omega
              case rel => exact ⟨j + 1, by rw [HW2.out], by have := HJ.out; omega, ⟨Below.trans HB2.out (Below.mono (below_drewN' _ _) HB2.out.size)⟩⟩
            · rw [if_neg hjl] at hx5
              have r3 : (j < l.length) = False := eq_false hjl
              have r4 : decide (j < l.length) = false := decide_eq_false hjl
              have r5 : decide (l.length ≤ j) = true := decide_eq_true (by omega)
              clear hjl hjt hj
              go_wp2
              go_quiet (fail)
              go_wp2
              go_roundg g2
              case measure => omega
              case rel => exact ⟨j + 1, by rw [HW2.out], by have := HJ.out; omega, ⟨Below.trans HB2.out (Below.mono (below_drewN' _ _) HB2.out.size)⟩⟩
          · have r1 : (j < T) = False := eq_false hjt
            have r2 : decide (j < T) = false := decide_eq_false hjt
            clear hjt hj
            go_wp2
            go_ret
            exact ⟨rfl, below_step HBW.out HB2.out⟩
end Go.Proofs.Ytdhbdomjlggfgaa.Q
