import Derived.Test.YtopkoganfnabgaaG7
import Derived.Test.YtopkoganfnabgaaG1
import Derived.Test.YtopkoganfnabgaaG2
import Derived.StillTailTactics
import Derived.Test.YtopkoganfnabgaaG5
namespace Go.Proofs.Ytopkoganfnabgaa.H
open Go.RowKit Go.Proofs.YtopkoganfnabgaaW.PrintWords Go.Proofs.YtopkoganfnabgaaW.PrintLast Go.Proofs.YtopkoganfnabgaaW.PrintMore
attribute [local go_sem] max2_int min2_int max_two min_two max_three min_three max_four min_four
set_option linter.unusedVariables false
set_option linter.unusedSimpArgs false
set_option maxHeartbeats 8000000 in
set_option maxRecDepth 100000 in
theorem held_walk (A Ar : Option Addr) (c cr : Nat) (h : Hp) (roots : List Int) (w : World) (hr : kCl.C w A h.c.length h.c) (hrr : (Kd.int .i64).C w Ar roots.length roots) (hl : h.c.length ≤ 2000) (hl1 : 1 ≤ h.c.length) (hrl : roots.length ≤ 1000) (hit : ∀ i, i < h.c.length → (h.c.getD i zCl).n.it.length ≤ 10) :
    Calls Try.prog 91 #[.agg #[.slice A h.c.length c, .int .i64 h.keep], .slice Ar roots.length cr, .slice none 0 0] w fun e w' => ∃ B cb, e = .returned (.slice B h.c.length cb) ∧ Kd.bool.C w' B h.c.length (rowB (heldB h roots 25) h.c.length) ∧ Below w.heap.size w w' := by
  obtain ⟨W1, hW1⟩ : ∃ W1, W1 = w.alloc (.cells #[.slice A h.c.length c, .int .i64 h.keep] 24) := ⟨_, rfl⟩
  have HB0 := Aside0.mk (show Below w.heap.size w W1 by rw [hW1]; exact below_alloc (Below.refl _ _) _)
  have HBH := Aside0.mk (show W1.heap[w.heap.size]? = some (.cells #[.slice A h.c.length c, .int .i64 h.keep] 24) by rw [hW1]; exact blk_new w _)
  have HOUT0 := Aside0.mk (fun (q : Int) (W : World) (hb : Below W1.heap.size W1 W) => outside_walk Ar cr roots q W (Kd.C_below (Kd.C_below hrr HB0.out) hb))
  have HTL0 := Aside0.mk (fun (p : Nat) (q : Int) (hp : p < h.c.length) (W : World) (hb : Below W1.heap.size W1 W) => tells_walk A c h p q W (Kd.C_below (Kd.C_below hr HB0.out) hb) hp)
  have HL := Aside0.mk (And.intro hl (And.intro hl1 hrl))
  have hW1' := Aside0.mk hW1
  have c0 := (blk_cell HBH.out 0).trans (show _ = some (Value.slice A h.c.length c) from rfl)
  clear hr hrr hW1 hit hrl hl hl1
  go_enter Try.func91, Try.ntmps91
  go_upto_region 1 with (fail)
  rw [← hW1'.out]
  go_upto_region 2 with (first | ((with_reducible refine gate_dst (N := 16) rfl ?_); refine Kd.R_make Kd.bool W1.heap.size 4 rfl (N := 16) rfl 129 _ _ rfl (h.c.length : Int) rfl rfl Try.underlying129 (.bool false) 1 info_bool rfl (by decide) (by decide) false (ok := fun _ => True) (okp := fun _ => False) rfl (fun _ h => h.elim) trivial (by omega) (by have := HL.out; rw [Int.toNat_natCast]; omega) (Below.refl W1.heap.size W1) (Nat.le_refl _) ?_; intro v1 w5 ho hb hg hat; have HO5 := Aside0.mk ho; have HB5 := Aside0.mk hb; clear ho hb hg hat) | fail)
  have ho := HO5.out
  rw [Int.toNat_natCast, fillB_zero (heldB h roots 0) h.c.length] at ho
  obtain ⟨g0, cap0, rfl, hg0, _, _⟩ := Kd.R_form ho (by rw [rowB_len]; exact HL.out.2.1)
  rw [rowB_len] at ho ⊢
  have HO0 := Aside0.mk ho
  have HG0 := Aside0.mk hg0
  clear ho hg0 HO5 c0
  go_wp2
  go_loopg [8] h.c.length (fun g s8 wr => ∃ k : Nat, s8 = .int .i64 k ∧ k + g = h.c.length ∧ Aside0 (Kd.bool.R 4 wr W1.heap.size (fun _ => True) (.slice (some ⟨g0, 0, none⟩) h.c.length cap0) (rowB (fillB (heldB h roots 0) k) h.c.length)) ∧ Aside0 (Below W1.heap.size W1 wr))
  case atStart => exact ⟨0, rfl, by omega, HO0, HB5⟩
  case round =>
    obtain ⟨p, rfl, hk, HO, HB⟩ := hrel
    have b0 := (blk_cell (blk_below HBH.out HB.out) 0).trans (show _ = some (Value.slice A h.c.length c) from rfl)
    by_cases hlt : p < h.c.length
    · obtain ⟨g1, rfl⟩ : ∃ g1, gk = g1 + 1 := ⟨gk - 1, by omega⟩
      have r1 : decide (p < h.c.length) = true := decide_eq_true hlt
      have r2 : (p < h.c.length) = True := eq_true hlt
      have HOUT := Aside0.mk (HOUT0.out (p : Int))
      obtain ⟨C, hC⟩ : ∃ C, C = cntI roots (p : Int) := ⟨_, rfl⟩
      have hb0 : decide ((0 : Int) < (C : Int)) = heldB h roots 0 p := by rw [hC, heldB]; exact decide_eq_decide.2 (by omega)
      have hb1 : decide (0 < C) = heldB h roots 0 p := by rw [hC, heldB]
      rw [← hC] at HOUT
      obtain ⟨hc1, hf1⟩ := Kd.R_celln false HO.out (p : Int) (by omega) (by omega)
      have hput := Kd.R_putn HO.out (p : Int) (heldB h roots 0 p)
      rw [Int.toNat_natCast] at hc1 hf1 hput
      rw [fillB_set] at hput
      obtain ⟨bb, hbb⟩ : ∃ bb, bb = heldB h roots 0 p := ⟨_, rfl⟩
      rw [← hbb] at hput hb0 hb1
      have HP := Aside0.mk hput
      have HKQ := Aside0.mk (And.intro hlt hk)
      have HWQ := Aside0.mk (show wrap64 ((p : Int) + 1) = ((p + 1 : Nat) : Int) by have := HL.out; unfold wrap64; omega)
      clear hC hput hbb hlt hk
      go_wp2_with (first | (go_at_call 108; (with_reducible refine (HOUT.out _ (by repeat (first | (with_reducible exact Below.refl _ _) | (with_reducible refine below_alloc ?_ _) | (with_reducible refine below_drew1 ?_) | (with_reducible refine pw_below_drewN ?_ _) | (with_reducible exact HB.out)))).mono ?_); rintro e w' ⟨rfl, rfl⟩) | fail)
      go_roundg g1
      case measure => omega
      case rel => exact ⟨p + 1, by rw [HWQ.out], by have := HKQ.out; omega, HP, ⟨below_set HB.out HG0.out⟩⟩
    · have r1 : decide (p < h.c.length) = false := decide_eq_false hlt
      have r2 : (p < h.c.length) = False := eq_false hlt
      have hp : p = h.c.length := by omega
      have ho := HO.out
      rw [hp, fillB_all] at ho
      have HO1 := Aside0.mk ho
      clear ho hp hlt hk HO
      go_wp2
      have hc7 := (Kd.R_reads' HO1.out).2.2
      rw [rowB_len] at hc7
      have HC7 := Aside0.mk hc7
      clear hc7 b0
      go_loopg [7, 9] 25 (fun g s7 s9 wr => ∃ (k c7 : Nat) (A7 : Option Addr), s9 = .int .i64 k ∧ k + g = 25 ∧ s7 = .slice A7 h.c.length c7 ∧ Aside0 (Kd.bool.C wr A7 h.c.length (rowB (heldB h roots k) h.c.length)) ∧ Aside0 (Below W1.heap.size W1 wr))
      case atStart => exact ⟨0, cap0, _, rfl, rfl, rfl, HC7, HB⟩
      case round =>
        clear HO1 HC7 HB r1 r2
        obtain ⟨k, c7, A7, rfl, hk, rfl, HC, HB⟩ := hrel
        by_cases hlt : k < 25
        · obtain ⟨g1, rfl⟩ : ∃ g1, gk = g1 + 1 := ⟨gk - 1, by omega⟩
          have r1 : decide ((k : Int) < 25) = true := decide_eq_true (by omega)
          have r2 : decide (k < 25) = true := decide_eq_true hlt
          have r3 : (k < 25) = True := eq_true hlt
          have r4 : ((k : Int) < 25) = True := eq_true (by omega)
          obtain ⟨o, ho⟩ : ∃ o, o = heldB h roots k := ⟨_, rfl⟩
          rw [← ho] at HC
          have HOK := Aside0.mk ho
          have HKK := Aside0.mk (And.intro hk hlt)
          have HWK := Aside0.mk (show wrap64 ((k : Int) + 1) = ((k + 1 : Nat) : Int) by unfold wrap64; omega)
          obtain ⟨wo, hwo⟩ : ∃ wo : World, wo = wr := ⟨_, rfl⟩
          rw [← hwo] at HC HB ⊢
          have HE0 := Aside0.mk (show Kd.R Kd.bool 4 (wo.alloc (.cells #[] 4)) wo.heap.size (fun _ => True) (.slice (some ⟨wo.heap.size, 0, none⟩) 0 0) [] from Kd.R_of_own (enc := Value.bool) (h1 := fun _ => rfl) ⟨rfl, .inr ⟨wo.heap.size, 0, #[], rfl, Nat.le_refl _, blk_new _ _, Nat.le_refl _, by unfold maxLen; decide, rfl, rfl⟩⟩ (fun _ _ => trivial))
          clear ho hk hlt hwo
          go_upto_region 10 with (first | ((with_reducible refine gate_builtin (b := .append) (xs := #[.tmp 36, .tmp 37]) rfl ?_); at_builtin; refine Kd.R_append_rows Kd.bool (w0 := wo) wo.heap.size rfl (.tmp 36) (.tmp 37) 129 4 (.bool false) 1 rfl Try.underlying129 info_bool rfl (by decide) (by omega) _ [] (rowB o h.c.length) _ h.c.length _ (fun _ => True) (fun _ => False) rfl rfl HE0.out (Kd.C_alloc HC.out _) (fun _ _ h => h) (fun _ h => h.elim) (fun _ _ => trivial) (below_alloc (Below.refl _ _) _) (below_alloc (Below.refl _ _) _).size (by have := HL.out; simp; omega) ?_; intro v1 w5 ho hb hg hat; have HO5 := Aside0.mk ho; have HB5 := Aside0.mk hb; clear ho hb hg hat) | fail)
          have ho := HO5.out
          rw [List.nil_append, stF_zero (t := fun p j => decide (0 < tellsN h p (j : Int)))] at ho
          obtain ⟨g2, cap2, rfl, hg2, _, _⟩ := Kd.R_form ho (by rw [rowB_len]; exact HL.out.2.1)
          rw [rowB_len] at ho ⊢
          have HO6 := Aside0.mk ho
          have HG2 := Aside0.mk hg2
          clear ho hg2 HO5 r1 r2 r3 r4
          go_wp2
          go_loopg [11] h.c.length (fun g s11 wr => ∃ p : Nat, s11 = .int .i64 p ∧ p + g = h.c.length ∧ Aside0 (Kd.bool.R 4 wr wo.heap.size (fun _ => True) (.slice (some ⟨g2, 0, none⟩) h.c.length cap2) (rowB (stF o (fun p j => decide (0 < tellsN h p (j : Int))) p 0) h.c.length)) ∧ Aside0 (Below wo.heap.size wo wr))
          case atStart => exact ⟨0, rfl, by omega, HO6, HB5⟩
          case round =>
            clear HO6 HB5
            obtain ⟨p, rfl, hp, HO, HBP⟩ := hrel
            have b0 := (blk_cell (blk_below (blk_below HBH.out HB.out) HBP.out) 0).trans (show _ = some (Value.slice A h.c.length c) from rfl)
            by_cases hlt : p < h.c.length
            · obtain ⟨g3, rfl⟩ : ∃ g3, gk = g3 + 1 := ⟨gk - 1, by omega⟩
              have r1 : decide (p < h.c.length) = true := decide_eq_true hlt
              have r2 : (p < h.c.length) = True := eq_true hlt
              have HPP := Aside0.mk (And.intro hp hlt)
              have HWP := Aside0.mk (show wrap64 ((p : Int) + 1) = ((p + 1 : Nat) : Int) by have := HL.out; unfold wrap64; omega)
              obtain ⟨ad7, rfl, _⟩ := Kd.at_bool HC.out (p : Int) (by omega) (by omega)
              clear hp hlt
              go_wp2
              clear r1 r2
              go_loopg [12] h.c.length (fun g s12 wr => ∃ q : Nat, s12 = .int .i64 q ∧ q + g = h.c.length ∧ Aside0 (o p = true ∨ q = 0) ∧ Aside0 (Kd.bool.R 4 wr wo.heap.size (fun _ => True) (.slice (some ⟨g2, 0, none⟩) h.c.length cap2) (rowB (stF o (fun p j => decide (0 < tellsN h p (j : Int))) p q) h.c.length)) ∧ Aside0 (Below wo.heap.size wo wr))
              case atStart => exact ⟨0, rfl, by omega, ⟨.inr rfl⟩, HO, HBP⟩
              case round =>
                clear b0 HO HBP
                obtain ⟨q, rfl, hq, HOQ, HO, HBI⟩ := hrel
                have b0 := (blk_cell (blk_below (blk_below HBH.out HB.out) HBI.out) 0).trans (show _ = some (Value.slice (A) h.c.length c) from rfl)
                have b1 := (blk_cell (blk_below (blk_below HBH.out HB.out) HBI.out) 1).trans (show _ = some (Value.int .i64 h.keep) from rfl)
                by_cases hlt : q < h.c.length
                · have r1 : decide (q < h.c.length) = true := decide_eq_true hlt
                  have r2 : (q < h.c.length) = True := eq_true hlt
                  have r3 : (p < h.c.length) = True := eq_true HPP.out.2
                  obtain ⟨ad8, e8, hx⟩ := Kd.at_bool (Kd.C_below HC.out HBI.out) (p : Int) (by omega) (by have := HPP.out; omega)
                  cases e8
                  rw [Int.toNat_natCast, show rdOf false (rowB o h.c.length) (p : Int) = o p by unfold rdOf; rw [Int.toNat_natCast]; exact rowB_get o _ p HPP.out.2] at hx
                  obtain ⟨op, hop⟩ : ∃ op, op = o p := ⟨_, rfl⟩
                  rw [← hop] at hx HOQ
                  have HOP := Aside0.mk hop
                  cases op with
                  | false =>
                    have hq0 : q = 0 := by rcases HOQ.out with e | e; cases e; exact e
                    have HN := Aside0.mk (show Kd.bool.R 4 wr wo.heap.size (fun _ => True) (.slice (some ⟨g2, 0, none⟩) h.c.length cap2) (rowB (stF o (fun p j => decide (0 < tellsN h p (j : Int))) (p + 1) 0) h.c.length) by
                      have h2 := HO.out
                      rw [hq0, stF_none hop.symm] at h2
                      exact h2)
                    clear hq0 hop hlt hq
                    go_wp2
                    go_roundg g3
                    case measure => omega
                    case rel => exact ⟨p + 1, by rw [HWP.out], by have := HPP.out; omega, HN, HBI⟩
                  | true =>
                    obtain ⟨g4, rfl⟩ : ∃ g4, gk = g4 + 1 := ⟨gk - 1, by omega⟩
                    have HTL := Aside0.mk (fun (W : World) (hb : Below wo.heap.size wo W) => HTL0.out p (q : Int) HPP.out.2 W (below_step HB.out hb))
                    obtain ⟨T, hT⟩ : ∃ T, T = tellsN h p (q : Int) := ⟨_, rfl⟩
                    rw [← hT] at HTL
                    have HQQ := Aside0.mk (And.intro hq hlt)
                    have HWQ := Aside0.mk (show wrap64 ((q : Int) + 1) = ((q + 1 : Nat) : Int) by have := HL.out; unfold wrap64; omega)
                    by_cases e0 : 0 < T
                    · have d1 : decide ((0 : Int) < (T : Int)) = true := decide_eq_true (by omega)
                      have d2 : decide (0 < T) = true := decide_eq_true e0
                      have HTT := Aside0.mk (show decide (0 < tellsN h p (q : Int)) = true by rw [← hT]; exact d2)
                      have HOPT := Aside0.mk hop.symm
                      clear hT hop hlt hq e0
                      go_upto_region 17 with (first | (go_at_call 109; (with_reducible refine (HTL.out _ (by repeat (first | (with_reducible exact Below.refl _ _) | (with_reducible refine below_alloc ?_ _) | (with_reducible refine below_drew1 ?_) | (with_reducible refine pw_below_drewN ?_ _) | (with_reducible exact HBI.out)))).mono ?_); rintro e w3 ⟨rfl, hb3⟩; have HB3 := Aside0.mk (show Below wo.heap.size wo w3 from below_step HBI.out hb3); have HB4 := Aside0.mk hb3; clear hb3) | fail)
                      have ho3 := Kd.R_below HO.out HB4.out
                      obtain ⟨hc1, hf1⟩ := Kd.R_celln false ho3 (q : Int) (by omega) (by have := HQQ.out; omega)
                      have hput := Kd.R_putn ho3 (q : Int) true
                      rw [Int.toNat_natCast] at hc1 hf1 hput
                      rw [stF_set HOPT.out HTT.out] at hput
                      have HP := Aside0.mk hput
                      clear ho3 hput
                      go_wp2
                      go_roundg g4
                      case measure => omega
                      case rel => exact ⟨q + 1, by rw [HWQ.out], by have := HQQ.out; omega, ⟨.inl HOP.out.symm⟩, HP, ⟨below_set HB3.out HG2.out⟩⟩
                    · have d1 : decide ((0 : Int) < (T : Int)) = false := decide_eq_false (by omega)
                      have d2 : decide (0 < T) = false := decide_eq_false e0
                      have HTT := Aside0.mk (show decide (0 < tellsN h p (q : Int)) = false by rw [← hT]; exact d2)
                      clear hT hop hlt hq e0
                      go_wp2_with (first | (go_at_call 109; (with_reducible refine (HTL.out _ (by repeat (first | (with_reducible exact Below.refl _ _) | (with_reducible refine below_alloc ?_ _) | (with_reducible refine below_drew1 ?_) | (with_reducible refine pw_below_drewN ?_ _) | (with_reducible exact HBI.out)))).mono ?_); rintro e w3 ⟨rfl, hb3⟩; have HB3 := Aside0.mk (show Below wo.heap.size wo w3 from below_step HBI.out hb3); have HB4 := Aside0.mk hb3; clear hb3) | fail)
                      go_roundg g4
                      case measure => omega
                      case rel => exact ⟨q + 1, by rw [HWQ.out], by have := HQQ.out; omega, ⟨.inl HOP.out.symm⟩, ⟨by rw [← stF_skip HTT.out]; exact Kd.R_below HO.out HB4.out⟩, HB3⟩
                · have r1 : decide (q < h.c.length) = false := decide_eq_false hlt
                  have r2 : (q < h.c.length) = False := eq_false hlt
                  have hqn : q = h.c.length := by omega
                  have HN := Aside0.mk (show Kd.bool.R 4 wr wo.heap.size (fun _ => True) (.slice (some ⟨g2, 0, none⟩) h.c.length cap2) (rowB (stF o (fun p j => decide (0 < tellsN h p (j : Int))) (p + 1) 0) h.c.length) by
                    have h2 := HO.out
                    rw [hqn, stF_end] at h2
                    exact h2)
                  clear hqn hlt hq
                  go_wp2
                  go_roundg g3
                  case measure => omega
                  case rel => exact ⟨p + 1, by rw [HWP.out], by have := HPP.out; omega, HN, HBI⟩
            · have r1 : decide (p < h.c.length) = false := decide_eq_false hlt
              have r2 : (p < h.c.length) = False := eq_false hlt
              have hpn : p = h.c.length := by omega
              have h2 := HO.out
              rw [hpn, HOK.out, stF_held] at h2
              have h3 := (Kd.R_reads' h2).2.2
              rw [rowB_len] at h3
              have H3 := Aside0.mk h3
              clear hpn hlt hp h2 h3
              go_wp2
              go_roundg g1
              case measure => omega
              case rel => exact ⟨k + 1, cap2, _, by rw [HWK.out], by have := HKK.out; omega, rfl, H3, ⟨below_step HB.out HBP.out⟩⟩
        · have r1 : decide ((k : Int) < 25) = false := decide_eq_false (by omega)
          have r2 : decide (k < 25) = false := decide_eq_false hlt
          have r3 : (k < 25) = False := eq_false hlt
          have r4 : ((k : Int) < 25) = False := eq_false (by omega)
          have hk25 : k = 25 := by omega
          have h2 := HC.out
          rw [hk25] at h2
          have H2 := Aside0.mk h2
          have HBW := Aside0.mk (below_step HB0.out HB.out)
          clear hk25 hlt hk h2
          go_wp2
          go_ret
          exact ⟨_, _, rfl, H2.out, HBW.out⟩
end Go.Proofs.Ytopkoganfnabgaa.H
namespace Go.Proofs.Ytopkoganfnabgaa.H
open Go.RowKit Go.Proofs.YtopkoganfnabgaaW.PrintWords Go.Proofs.YtopkoganfnabgaaW.PrintLast Go.Proofs.YtopkoganfnabgaaW.PrintMore
attribute [local go_sem] max2_int min2_int max_two min_two max_three min_three max_four min_four
set_option linter.unusedVariables false
set_option linter.unusedSimpArgs false
theorem belowO_eq (m : Nat) (h : Hp) (p : Int) : ∃ inner, belowO m h p = belowB m h p inner ∧ (m ≤ 1 → ∀ l, inner l = some zGt) ∧ (2 ≤ m → ∀ l, inner l = belowL (belowO (m - 1) h) zGt true l) := by
  cases m with
  | zero => exact ⟨_, rfl, fun _ _ => rfl, fun h => by omega⟩
  | succ m =>
    refine ⟨_, rfl, fun hm l => ?_, fun hm l => ?_⟩
    · show (if m = 0 then some zGt else belowL (belowO m h) zGt true l) = _; rw [if_pos (by omega)]
    · show (if m = 0 then some zGt else belowL (belowO m h) zGt true l) = _; rw [if_neg (by omega)]; rfl
set_option maxHeartbeats 8000000 in
set_option maxRecDepth 100000 in
theorem below_walk (m : Nat) : ∀ (A : Option Addr) (c : Nat) (h : Hp) (p : Int) (r : Gt) (w : World), m ≤ 1000 → kCl.C w A h.c.length h.c → belowO m h p = some r →
    Calls Try.prog 68 #[.agg #[.slice A h.c.length c, .int .i64 h.keep], .int .i64 p, .int .i64 m] w fun e w' => e = .returned (.agg #[.int .i64 r.lo, .int .i64 r.hi, .int .i64 r.high, .bool r.is]) ∧ Below w.heap.size w w' := by
  induction m using Nat.strongRecOn with
  | _ m ih =>
    intro A c h p r w hm hr e
    obtain ⟨inner, e0, em1, em2⟩ := belowO_eq m h p
    rw [e0] at e
    unfold belowB at e
    by_cases hin' : inB h p = false
    · rw [hin'] at e; simp at e
    have hin : inB h p = true := by simpa using hin'
    rw [if_pos hin] at e
    obtain ⟨i, rfl, hi⟩ := inB_nat hin
    rw [clAt_nat] at e
    obtain ⟨ad, B, cb, rfl, x0, x1, x2, x3, hcb, hB⟩ := at_cl hr i hi
    obtain ⟨x, hx⟩ : ∃ x, x = h.c.getD i zCl := ⟨_, rfl⟩
    rw [← hx] at x0 x2 x3 hB e hcb
    have q2 : (i < h.c.length) = True := eq_true hi
    obtain ⟨lf, hlf⟩ : ∃ lf, lf = x.n.leaf := ⟨_, rfl⟩
    rw [← hlf] at x2 e
    obtain ⟨W1, hW1⟩ : ∃ W1, W1 = (w.alloc (.cells #[.slice (some ad) h.c.length c, .int .i64 h.keep] 24)).alloc (.cells #[.int .i64 0, .int .i64 0, .int .i64 0, .bool false] 110) := ⟨_, rfl⟩
    have hB1 : Below w.heap.size w W1 := by rw [hW1]; exact below_alloc (below_alloc (Below.refl _ _) _) _
    obtain ⟨W2, hW2⟩ : ∃ W2, W2 = W1.alloc (.cells #[.bool lf, .slice B x.n.it.length cb] 77) := ⟨_, rfl⟩
    have hsz : W1.heap.size = w.heap.size + 1 + 1 := by rw [hW1]; simp
    have HB0 := Aside0.mk (show Below w.heap.size w W2 by rw [hW2]; exact below_alloc hB1 _)
    have hH1 : W1.heap[w.heap.size]? = some (.cells #[.slice (some ad) h.c.length c, .int .i64 h.keep] 24) := by rw [hW1]; exact blk_alloc (blk_new w _) _
    have hG1 : W1.heap[w.heap.size + 1]? = some (.cells #[.int .i64 0, .int .i64 0, .int .i64 0, .bool false] 110) := by rw [hW1]; exact blk2 w _ _
    have HBH := Aside0.mk (show W2.heap[w.heap.size]? = some (.cells #[.slice (some ad) h.c.length c, .int .i64 h.keep] 24) by rw [hW2]; exact blk_alloc hH1 _)
    have HBG := Aside0.mk (show W2.heap[w.heap.size + 1]? = some (.cells #[.int .i64 0, .int .i64 0, .int .i64 0, .bool false] 110) by rw [hW2]; exact blk_alloc hG1 _)
    have HBN := Aside0.mk (show W2.heap[w.heap.size + 1 + 1]? = some (.cells #[.bool lf, .slice B x.n.it.length cb] 77) by rw [hW2, ← hsz]; exact blk_new _ _)
    have x5 := bcell hB1 x2
    have x6 := bcell hB1 x3
    have x7 := bcell HB0.out x0
    have c0 := (blk_cell hH1 0).trans (show _ = some (Value.slice (some ad) h.c.length c) from rfl)
    have c1 := (blk_cell HBH.out 0).trans (show _ = some (Value.slice (some ad) h.c.length c) from rfl)
    have n0 := (blk_cell HBN.out 0).trans (show _ = some (Value.bool lf) from rfl)
    have n1 := (blk_cell HBN.out 1).trans (show _ = some (Value.slice B x.n.it.length cb) from rfl)
    have g0 := (blk_cell HBG.out 0).trans (show _ = some (Value.int .i64 0) from rfl)
    have g1 := (blk_cell HBG.out 1).trans (show _ = some (Value.int .i64 0) from rfl)
    have g2 := (blk_cell HBG.out 2).trans (show _ = some (Value.int .i64 0) from rfl)
    have g3 := (blk_cell HBG.out 3).trans (show _ = some (Value.bool false) from rfl)
    have f0 := blk_frozen HBG.out 0
    have f1 := blk_frozen HBG.out 1
    have f2 := blk_frozen HBG.out 2
    have f3 := blk_frozen HBG.out 3
    have HW1 := Aside0.mk hW1
    have HW2 := Aside0.mk hW2
    have HSZ := Aside0.mk hsz
    have HR := Aside0.mk hr
    have HBI := Aside0.mk (Kd.C_below hB HB0.out)
    have HB00 := Aside0.mk hB
    have HCB := Aside0.mk hcb
    have HM1 := Aside0.mk em1
    have HM2 := Aside0.mk em2
    have HIH := Aside0.mk ih
    have hmx := Kd.C_max hB
    clear ih hin' hin hi hx hlf hr hB hcb x0 x1 x2 x3 hW1 hW2 hsz hB1 hH1 hG1 e0 em1 em2
    go_enter Try.func68, Try.ntmps68
    go_upto_region 1 with (fail)
    rw [← HW1.out]
    go_upto_region 2 with (fail)
    rw [HSZ.out, ← HW2.out]
    by_cases e1 : x.ref < 1
    · rw [if_pos e1] at e
      obtain rfl : zGt = r := by simpa using e
      have d1 : decide (x.ref < 1) = true := decide_eq_true e1
      clear e e1
      go_wp2
      (refine bodyPost_ret (results_single rfl (.cell (w.heap.size + 1) 110 #[.int .i64 0, .int .i64 0, .int .i64 0, .bool false] (0, 0) _ rfl (blk_put (blk_put (blk_put (blk_put HBG.out 0 _ rfl) 1 _ rfl) 2 _ rfl) 3 _ rfl) Try.underlying110 rfl (by kernel_rfl) .nil)) rfl ⟨rfl, below_set (below_set (below_set (below_set HB0.out (by omega)) (by omega)) (by omega)) (by omega)⟩)
    · rw [if_neg e1] at e
      have d1 : decide (x.ref < 1) = false := decide_eq_false e1
      clear e1
      cases lf with
      | true =>
        rw [if_pos rfl] at e
        by_cases hl : 0 < x.n.it.length
        · rw [if_pos hl] at e
          obtain ⟨ad2, rfl, z0, _⟩ := at_it0 HBI.out hl
          obtain ⟨j, hj⟩ : ∃ j, j = x.n.it.length - 1 := ⟨_, rfl⟩
          rw [← hj] at e
          obtain ⟨ad3, e3, y0, _⟩ := at_it HBI.out j (by omega)
          cases e3
          obtain ⟨k0, hk0⟩ : ∃ k0, k0 = (itAt x.n.it 0).k := ⟨_, rfl⟩
          obtain ⟨k1, hk1⟩ : ∃ k1, k1 = (itAt x.n.it j).k := ⟨_, rfl⟩
          rw [← hk0] at z0 e
          rw [← hk1] at y0 e
          have r1 : (0 < x.n.it.length) = True := eq_true hl
          have r2 : ((0 : Int) < (x.n.it.length : Int)) = True := eq_true (by omega)
          have r3 : IntKind.i64.wrap ((x.n.it.length : Int) - 1) = (j : Int) := by rw [i64_w]; unfold wrap64; omega
          have r4 : (j < x.n.it.length) = True := eq_true (by omega)
          have r5 : ((j : Int) < (x.n.it.length : Int)) = True := eq_true (by omega)
          have r6 : decide ((1 : Int) ≤ (m : Int)) = decide (1 ≤ m) := decide_eq_decide.2 (by omega)
          obtain ⟨bm, hbm⟩ : ∃ bm, bm = decide (1 ≤ m) := ⟨_, rfl⟩
          rw [← hbm] at e r6
          obtain rfl : (⟨k0, k1, 1, bm⟩ : Gt) = r := by simpa using e
          clear e hl hj hk0 hk1 hbm
          go_wp2
          go_still_tail 17, (by kernel_rfl)
          go_wp2
          (refine bodyPost_ret (results_single rfl (.cell (w.heap.size + 1) 110 #[.int .i64 k0, .int .i64 k1, .int .i64 1, .bool bm] (0, 0) _ rfl (blk_put (blk_put (blk_put (blk_put (blk_drew HBG.out) 0 _ rfl) 1 _ rfl) 2 _ rfl) 3 _ rfl) Try.underlying110 rfl (by kernel_rfl) .nil)) rfl ⟨rfl, below_set (below_set (below_set (below_set (below_drew1 HB0.out) (by omega)) (by omega)) (by omega)) (by omega)⟩)
        · rw [if_neg hl] at e; cases e
      | false =>
        rw [if_neg (by decide)] at e
        by_cases hm1 : m ≤ 1
        · rw [HM1.out hm1] at e
          obtain rfl : zGt = r := by simpa using e
          have d2 : decide ((m : Int) ≤ 1) = true := decide_eq_true (by omega)
          have d3 : decide (m ≤ 1) = true := decide_eq_true hm1
          clear e hm1
          go_wp2
          (refine bodyPost_ret (results_single rfl (.cell (w.heap.size + 1) 110 #[.int .i64 0, .int .i64 0, .int .i64 0, .bool false] (0, 0) _ rfl (blk_put (blk_put (blk_put (blk_put HBG.out 0 _ rfl) 1 _ rfl) 2 _ rfl) 3 _ rfl) Try.underlying110 rfl (by kernel_rfl) .nil)) rfl ⟨rfl, below_set (below_set (below_set (below_set HB0.out (by omega)) (by omega)) (by omega)) (by omega)⟩)
        · rw [HM2.out (by omega)] at e
          have d2 : decide ((m : Int) ≤ 1) = false := decide_eq_false (by omega)
          have d3 : decide (m ≤ 1) = false := decide_eq_false hm1
          have HE := Aside0.mk e
          obtain ⟨m', hm'⟩ : ∃ m', m' = m - 1 := ⟨_, rfl⟩
          rw [← hm'] at HE
          have HMM := Aside0.mk (show m' < m ∧ m' ≤ 1000 ∧ wrap64 ((m : Int) - 1) = (m' : Int) ∧ IntKind.i64.wrap ((m : Int) - 1) = (m' : Int) from ⟨by omega, by omega, by unfold wrap64; omega, by rw [i64_w]; unfold wrap64; omega⟩)
          clear e hm1 hm'
          go_wp2
          obtain ⟨S, hS⟩ : ∃ S, S = W2.heap.size := ⟨_, rfl⟩
          obtain ⟨W3, hW3⟩ : ∃ W3, W3 = W2.alloc (.cells #[.int .i64 0, .int .i64 0, .int .i64 0, .bool false] 110) := ⟨_, rfl⟩
          have HX3 := Aside0.mk (show W3.heap[w.heap.size]? = some (.cells #[.slice (some ad) h.c.length c, .int .i64 h.keep] 24) ∧ W3.heap[w.heap.size + 1]? = some (.cells #[.int .i64 0, .int .i64 0, .int .i64 0, .bool false] 110) ∧ W3.heap[w.heap.size + 1 + 1]? = some (.cells #[.bool false, .slice B x.n.it.length cb] 77) ∧ W3.heap[S]? = some (.cells #[.int .i64 zGt.lo, .int .i64 zGt.hi, .int .i64 zGt.high, .bool false] 110) by
            rw [hW3, hS]; exact ⟨blk_alloc HBH.out _, blk_alloc HBG.out _, blk_alloc HBN.out _, blk_new _ _⟩)
          have HB3 := Aside0.mk (show Below w.heap.size w W3 by rw [hW3]; exact below_alloc HB0.out _)
          have HSS := Aside0.mk (show w.heap.size ≤ S ∧ w.heap.size < S ∧ w.heap.size + 1 < S ∧ w.heap.size + 1 + 1 < S by
            have := blk_lt HBN.out; rw [hS]; exact ⟨HB0.out.size, by omega, by omega, by omega⟩)
          rw [← hS, ← hW3]
          clear hS hW3 x5 x6 x7 c0 c1 n0 n1 g0 g1 g2 g3 f0 f1 f2 f3 d1 d2 d3 q2
          go_loopg [9] x.n.it.length (fun gg s9 wr => ∃ (k : Nat) (out : Gt), s9 = .int .i64 k ∧ k + gg = x.n.it.length ∧ Aside0 (belowL (belowO m' h) out (decide (k = 0)) (x.n.it.drop k) = some r) ∧ Aside0 (wr.heap[w.heap.size]? = some (.cells #[.slice (some ad) h.c.length c, .int .i64 h.keep] 24) ∧ wr.heap[w.heap.size + 1]? = some (.cells #[.int .i64 0, .int .i64 0, .int .i64 0, .bool false] 110) ∧ wr.heap[w.heap.size + 1 + 1]? = some (.cells #[.bool false, .slice B x.n.it.length cb] 77) ∧ wr.heap[S]? = some (.cells #[.int .i64 out.lo, .int .i64 out.hi, .int .i64 out.high, .bool false] 110)) ∧ Aside0 (Below w.heap.size w wr))
          case atStart => exact ⟨0, zGt, rfl, by omega, HE, HX3, HB3⟩
          case round =>
            obtain ⟨k, out, rfl, hk, HACC, HX, HBW⟩ := hrel
            have b0 := (blk_cell HX.out.1 0).trans (show _ = some (Value.slice (some ad) h.c.length c) from rfl)
            have b1 := (blk_cell HX.out.1 1).trans (show _ = some (Value.int .i64 h.keep) from rfl)
            have n1 := (blk_cell HX.out.2.2.1 1).trans (show _ = some (Value.slice B x.n.it.length cb) from rfl)
            by_cases hlt : k < x.n.it.length
            · obtain ⟨g1, rfl⟩ : ∃ g1, gk = g1 + 1 := ⟨gk - 1, by omega⟩
              have r1 : decide (k < x.n.it.length) = true := decide_eq_true hlt
              have r2 : (k < x.n.it.length) = True := eq_true hlt
              have r3 := HMM.out.2.2.1
              have r4 := HMM.out.2.2.2
              have ha := HACC.out
              rw [drop_at _ _ hlt, belowL] at ha
              obtain ⟨ad2, rfl, y0, z1⟩ := at_it (Kd.C_below HB00.out HBW.out) k hlt
              obtain ⟨y, hy⟩ : ∃ y, y = itAt x.n.it k := ⟨_, rfl⟩
              rw [← hy] at y0 z1 ha
              cases hq : belowO m' h y.v with
              | none => rw [hq] at ha; cases ha
              | some z =>
                rw [hq] at ha
                simp only at ha
                have HI := Aside0.mk (fun (W : World) (hb : Below w.heap.size w W) => HIH.out m' HMM.out.1 (some ad) c h y.v z W HMM.out.2.1 (Kd.C_below HR.out hb) hq)
                have HKK := Aside0.mk (And.intro hk hlt)
                have HW := Aside0.mk (show wrap64 ((k : Int) + 1) = ((k + 1 : Nat) : Int) by unfold wrap64; omega)
                obtain ⟨t1, ht1⟩ : ∃ t1, t1 = w64 (z.high + 1) := ⟨_, rfl⟩
                have s1 : wrap64 (z.high + 1) = t1 := by rw [ht1, w64_eq]
                have s2 : IntKind.i64.wrap (z.high + 1) = t1 := by rw [ht1, wrap_i64]
                have hbad : badB out (decide (k = 0)) y z = (!z.is || (!decide (z.lo = y.k) || (!decide (k = 0) && (decide (z.lo ≤ out.hi) || !decide (out.high = t1))))) := by rw [ht1]; rfl
                have hstep : stepG out (decide (k = 0)) z = ⟨if decide (k = 0) then z.lo else out.lo, z.hi, if decide (k = 0) then t1 else out.high, false⟩ := by rw [ht1]; rfl
                obtain ⟨zis, hzis⟩ : ∃ zis, zis = z.is := ⟨_, rfl⟩
                rw [← hzis] at HI hbad
                clear hq hy hlt hk ht1 hzis
                go_upto_region 12 with (fail)
                go_cut [10] from 55 to 64 (fun v10 wc => ∃ XN : Nat, v10 = .pointer (some ⟨XN, 0, none⟩) ∧ S < XN ∧ Aside0 (wc.heap[XN]? = some (.cells #[.int .i64 z.lo, .int .i64 z.hi, .int .i64 z.high, .bool zis] 110)) ∧ Aside0 (Below wr.heap.size wr wc))
                case first =>
                  go_region_held3 (fun w' => w'.cell? ⟨w.heap.size, 0, none⟩ = some (.slice (some ad) h.c.length c) ∧ w'.cell? ⟨w.heap.size, 1, none⟩ = some (.int .i64 h.keep) ∧ w'.cell? ⟨w.heap.size + 1 + 1, 1, none⟩ = some (.slice (some ad2) x.n.it.length cb) ∧ w'.cell? ⟨(ad2.add (k * 2)).block, (ad2.add (k * 2)).off + 1, none⟩ = some (.int .i64 y.v)) (first | exact ⟨b0, b1, n1, z1⟩ | exact (fun (h : Below wr.heap.size wr _) => ⟨bcell h b0, bcell h b1, bcell h n1, bcell h z1⟩) (by repeat (first | (with_reducible exact Below.refl _ _) | (with_reducible refine below_alloc ?_ _) | (with_reducible refine below_drew1 ?_) | (with_reducible refine pw_below_drewN ?_ _) | (with_reducible exact HB2.out) | (with_reducible refine below_set ?_ (Nat.le_refl _))))) (first | (go_at_call 68; (with_reducible refine (HI.out _ (below_step HBW.out (by repeat (first | (with_reducible exact Below.refl _ _) | (with_reducible refine below_alloc ?_ _) | (with_reducible refine below_drew1 ?_) | (with_reducible refine pw_below_drewN ?_ _) | fail)))).mono ?_); rintro e w2 ⟨rfl, hb2⟩; have HB2 := Aside0.mk (show Below wr.heap.size wr w2 from below_step (by repeat (first | (with_reducible exact Below.refl _ _) | (with_reducible refine below_alloc ?_ _) | (with_reducible refine below_drew1 ?_) | (with_reducible refine pw_below_drewN ?_ _) | fail)) hb2); (first | (have qx := blk_below (blk_drew (blk_new wr (.cells #[.int .i64 0, .int .i64 0, .int .i64 0, .bool false] 110))) hb2; have QX := Aside0.mk qx; have qx0 := (blk_cell qx 0).trans (show _ = some (Value.int .i64 0) from rfl); have qx1 := (blk_cell qx 1).trans (show _ = some (Value.int .i64 0) from rfl); have qx2 := (blk_cell qx 2).trans (show _ = some (Value.int .i64 0) from rfl); have qx3 := (blk_cell qx 3).trans (show _ = some (Value.bool false) from rfl); have qf0 := blk_frozen qx 0; have qf1 := blk_frozen qx 1; have qf2 := blk_frozen qx 2; have qf3 := blk_frozen qx 3; clear qx) | skip); clear hb2) | fail)
                  · go_wp2
                    go_meet
                    case rel => exact ⟨w2.heap.size, rfl, by have := blk_lt HX.out.2.2.2; have := HB2.out.size; omega, ⟨blk_new _ _⟩, ⟨below_alloc HB2.out _⟩⟩
                  · go_wp2
                    go_meet
                    case rel => exact ⟨wr.heap.size, rfl, blk_lt HX.out.2.2.2, ⟨blk_put (blk_put (blk_put (blk_put QX.out 0 _ rfl) 1 _ rfl) 2 _ rfl) 3 _ rfl⟩, ⟨below_set (below_set (below_set (below_set HB2.out (Nat.le_refl _)) (Nat.le_refl _)) (Nat.le_refl _)) (Nat.le_refl _)⟩⟩
                case rest =>
                  obtain ⟨XN, rfl, hSX, HXN, HB2⟩ := hcut
                  have HSX := Aside0.mk hSX
                  have X0 := Aside0.mk (blk_below HX.out.1 HB2.out)
                  have X1 := Aside0.mk (blk_below HX.out.2.1 HB2.out)
                  have X2 := Aside0.mk (blk_below HX.out.2.2.1 HB2.out)
                  have X3 := Aside0.mk (blk_below HX.out.2.2.2 HB2.out)
                  have HB5 := Aside0.mk (below_step HBW.out HB2.out)
                  have v1 := (blk_cell X2.out 1).trans (show _ = some (Value.slice (some ad2) x.n.it.length cb) from rfl)
                  have v2 := (blk_cell X3.out 1).trans (show _ = some (Value.int .i64 out.hi) from rfl)
                  have v3 := (blk_cell X3.out 2).trans (show _ = some (Value.int .i64 out.high) from rfl)
                  have v4 := bcell HB2.out y0
                  have u0 := (blk_cell HXN.out 0).trans (show _ = some (Value.int .i64 z.lo) from rfl)
                  have u1 := (blk_cell HXN.out 1).trans (show _ = some (Value.int .i64 z.hi) from rfl)
                  have u2 := (blk_cell HXN.out 2).trans (show _ = some (Value.int .i64 z.high) from rfl)
                  have u3 := (blk_cell HXN.out 3).trans (show _ = some (Value.bool zis) from rfl)
                  clear b0 b1 n1 y0 z1 hSX HI r3 r4
                  cases zis with
                  | false =>
                    rw [hbad, if_pos (by rfl)] at ha
                    obtain rfl : zGt = r := by simpa using ha
                    clear ha hbad hstep
                    (go_wp2; go_quiet (fail); obtain ⟨W5, hW5⟩ : ∃ W5, W5 = wc.drewN nq := ⟨_, rfl⟩; have HB6 := Aside0.mk (show Below w.heap.size w W5 by rw [hW5]; exact pw_below_drewN HB5.out nq); have G5 := Aside0.mk (show W5.heap[w.heap.size + 1]? = some (.cells #[.int .i64 0, .int .i64 0, .int .i64 0, .bool false] 110) by rw [hW5]; exact blk_drewN X1.out nq); rw [← hW5]; have g0 := (blk_cell G5.out 0).trans (show _ = some (Value.int .i64 0) from rfl); have g1 := (blk_cell G5.out 1).trans (show _ = some (Value.int .i64 0) from rfl); have g2 := (blk_cell G5.out 2).trans (show _ = some (Value.int .i64 0) from rfl); have g3 := (blk_cell G5.out 3).trans (show _ = some (Value.bool false) from rfl); have f0 := blk_frozen G5.out 0; have f1 := blk_frozen G5.out 1; have f2 := blk_frozen G5.out 2; have f3 := blk_frozen G5.out 3; clear hW5; go_wp2; (refine bodyPost_ret (results_single rfl (.cell (w.heap.size + 1) 110 #[.int .i64 0, .int .i64 0, .int .i64 0, .bool false] (0, 0) _ rfl (blk_put (blk_put (blk_put (blk_put G5.out 0 _ rfl) 1 _ rfl) 2 _ rfl) 3 _ rfl) Try.underlying110 rfl (by kernel_rfl) .nil)) rfl ⟨rfl, below_set (below_set (below_set (below_set HB6.out (by omega)) (by omega)) (by omega)) (by omega)⟩))
                  | true =>
                    by_cases e1 : z.lo = y.k
                    · have d1 : (z.lo != y.k) = false := bne_f e1
                      rw [decide_eq_true e1] at hbad
                      by_cases hk0 : k = 0
                      · have p1 : (0 < (k : Int)) = False := eq_false (by omega)
                        have p2 : decide (0 < (k : Int)) = false := decide_eq_false (by omega)
                        have p3 : decide (0 < k) = false := decide_eq_false (by omega)
                        have p4 : (0 < k) = False := eq_false (by omega)
                        have p5 : ((k : Int) == 0) = true := beq_iff_eq.mpr (by omega)
                        have p6 : (k == 0) = true := beq_iff_eq.mpr hk0
                        rw [decide_eq_true hk0] at ha hbad hstep
                        rw [hbad, if_neg (by simp), hstep] at ha
                        have HA := Aside0.mk (show belowL (belowO m' h) ⟨z.lo, z.hi, t1, false⟩ false (x.n.it.drop (k + 1)) = some r from ha)
                        clear ha hbad hstep e1 hk0
                        (go_wp2; go_quiet (fail); obtain ⟨W5, hW5⟩ : ∃ W5, W5 = wc.drewN nq := ⟨_, rfl⟩; have HB6 := Aside0.mk (show Below w.heap.size w W5 by rw [hW5]; exact pw_below_drewN HB5.out nq); have Y0 := Aside0.mk (show W5.heap[w.heap.size]? = some (.cells #[.slice (some ad) h.c.length c, .int .i64 h.keep] 24) by rw [hW5]; exact blk_drewN X0.out nq); have Y1 := Aside0.mk (show W5.heap[w.heap.size + 1]? = some (.cells #[.int .i64 0, .int .i64 0, .int .i64 0, .bool false] 110) by rw [hW5]; exact blk_drewN X1.out nq); have Y2 := Aside0.mk (show W5.heap[w.heap.size + 1 + 1]? = some (.cells #[.bool false, .slice (some ad2) x.n.it.length cb] 77) by rw [hW5]; exact blk_drewN X2.out nq); have Y3 := Aside0.mk (show W5.heap[S]? = some (.cells #[.int .i64 out.lo, .int .i64 out.hi, .int .i64 out.high, .bool false] 110) by rw [hW5]; exact blk_drewN X3.out nq); have Y4 := Aside0.mk (show W5.heap[XN]? = some (.cells #[.int .i64 z.lo, .int .i64 z.hi, .int .i64 z.high, .bool true] 110) by rw [hW5]; exact blk_drewN HXN.out nq); rw [← hW5]; clear u0 u1 u2 u3 v1 v2 v3 v4; have s5 := (blk_cell Y3.out 0).trans (show _ = some (Value.int .i64 out.lo) from rfl); have s6 := (blk_cell Y3.out 1).trans (show _ = some (Value.int .i64 out.hi) from rfl); have s7 := (blk_cell Y3.out 2).trans (show _ = some (Value.int .i64 out.high) from rfl); have f5 := blk_frozen Y3.out 0; have f6 := blk_frozen Y3.out 1; have f7 := blk_frozen Y3.out 2; have u5 := (blk_cell Y4.out 0).trans (show _ = some (Value.int .i64 z.lo) from rfl); have u6 := (blk_cell Y4.out 1).trans (show _ = some (Value.int .i64 z.hi) from rfl); have u7 := (blk_cell Y4.out 2).trans (show _ = some (Value.int .i64 z.high) from rfl); have l1 : (S = XN) = False := eq_false (by have := HSX.out; omega); have l2 : (XN = S) = False := eq_false (by have := HSX.out; omega); clear hW5; go_wp2)
                        go_roundg g1
                        case measure => omega
                        case rel => exact ⟨k + 1, ⟨z.lo, z.hi, t1, false⟩, by rw [HW.out], by have := HKK.out; omega, ⟨by rw [show decide (k + 1 = 0) = false by simp]; exact HA.out⟩, ⟨blk_far (blk_far (blk_far Y0.out (by have := HSS.out; show w.heap.size ≠ S; omega) _) (by have := HSS.out; show w.heap.size ≠ S; omega) _) (by have := HSS.out; show w.heap.size ≠ S; omega) _, blk_far (blk_far (blk_far Y1.out (by have := HSS.out; show w.heap.size + 1 ≠ S; omega) _) (by have := HSS.out; show w.heap.size + 1 ≠ S; omega) _) (by have := HSS.out; show w.heap.size + 1 ≠ S; omega) _, blk_far (blk_far (blk_far Y2.out (by have := HSS.out; show w.heap.size + 1 + 1 ≠ S; omega) _) (by have := HSS.out; show w.heap.size + 1 + 1 ≠ S; omega) _) (by have := HSS.out; show w.heap.size + 1 + 1 ≠ S; omega) _, blk_put (blk_put (blk_put Y3.out 0 _ rfl) 2 _ rfl) 1 _ rfl⟩, ⟨below_set (below_set (below_set HB6.out HSS.out.1) HSS.out.1) HSS.out.1⟩⟩
                      · have p1 : (0 < (k : Int)) = True := eq_true (by omega)
                        have p2 : decide (0 < (k : Int)) = true := decide_eq_true (by omega)
                        have p3 : decide (0 < k) = true := decide_eq_true (by omega)
                        have p4 : (0 < k) = True := eq_true (by omega)
                        have p5 : ((k : Int) == 0) = false := beq_eq_false_iff_ne.mpr (by omega)
                        have p6 : (k == 0) = false := beq_eq_false_iff_ne.mpr hk0
                        rw [decide_eq_false hk0] at ha hbad hstep
                        by_cases e2 : z.lo ≤ out.hi
                        · have d2 : decide (z.lo ≤ out.hi) = true := decide_eq_true e2
                          rw [hbad, if_pos (by rw [d2]; rfl)] at ha
                          obtain rfl : zGt = r := by simpa using ha
                          clear ha hbad hstep e1 e2 hk0
                          (go_wp2; go_quiet (fail); obtain ⟨W5, hW5⟩ : ∃ W5, W5 = wc.drewN nq := ⟨_, rfl⟩; have HB6 := Aside0.mk (show Below w.heap.size w W5 by rw [hW5]; exact pw_below_drewN HB5.out nq); have G5 := Aside0.mk (show W5.heap[w.heap.size + 1]? = some (.cells #[.int .i64 0, .int .i64 0, .int .i64 0, .bool false] 110) by rw [hW5]; exact blk_drewN X1.out nq); rw [← hW5]; have g0 := (blk_cell G5.out 0).trans (show _ = some (Value.int .i64 0) from rfl); have g1 := (blk_cell G5.out 1).trans (show _ = some (Value.int .i64 0) from rfl); have g2 := (blk_cell G5.out 2).trans (show _ = some (Value.int .i64 0) from rfl); have g3 := (blk_cell G5.out 3).trans (show _ = some (Value.bool false) from rfl); have f0 := blk_frozen G5.out 0; have f1 := blk_frozen G5.out 1; have f2 := blk_frozen G5.out 2; have f3 := blk_frozen G5.out 3; clear hW5; go_wp2; (refine bodyPost_ret (results_single rfl (.cell (w.heap.size + 1) 110 #[.int .i64 0, .int .i64 0, .int .i64 0, .bool false] (0, 0) _ rfl (blk_put (blk_put (blk_put (blk_put G5.out 0 _ rfl) 1 _ rfl) 2 _ rfl) 3 _ rfl) Try.underlying110 rfl (by kernel_rfl) .nil)) rfl ⟨rfl, below_set (below_set (below_set (below_set HB6.out (by omega)) (by omega)) (by omega)) (by omega)⟩))
                        · have d2 : decide (z.lo ≤ out.hi) = false := decide_eq_false e2
                          by_cases e3 : out.high = t1
                          · have d3 : (out.high != t1) = false := bne_f e3
                            rw [hbad, if_neg (by rw [d2, decide_eq_true e3]; decide), hstep] at ha
                            have HA := Aside0.mk (show belowL (belowO m' h) ⟨out.lo, z.hi, out.high, false⟩ false (x.n.it.drop (k + 1)) = some r from ha)
                            clear ha hbad hstep e1 e2 e3 hk0
                            (go_wp2; go_quiet (fail); obtain ⟨W5, hW5⟩ : ∃ W5, W5 = wc.drewN nq := ⟨_, rfl⟩; have HB6 := Aside0.mk (show Below w.heap.size w W5 by rw [hW5]; exact pw_below_drewN HB5.out nq); have Y0 := Aside0.mk (show W5.heap[w.heap.size]? = some (.cells #[.slice (some ad) h.c.length c, .int .i64 h.keep] 24) by rw [hW5]; exact blk_drewN X0.out nq); have Y1 := Aside0.mk (show W5.heap[w.heap.size + 1]? = some (.cells #[.int .i64 0, .int .i64 0, .int .i64 0, .bool false] 110) by rw [hW5]; exact blk_drewN X1.out nq); have Y2 := Aside0.mk (show W5.heap[w.heap.size + 1 + 1]? = some (.cells #[.bool false, .slice (some ad2) x.n.it.length cb] 77) by rw [hW5]; exact blk_drewN X2.out nq); have Y3 := Aside0.mk (show W5.heap[S]? = some (.cells #[.int .i64 out.lo, .int .i64 out.hi, .int .i64 out.high, .bool false] 110) by rw [hW5]; exact blk_drewN X3.out nq); have Y4 := Aside0.mk (show W5.heap[XN]? = some (.cells #[.int .i64 z.lo, .int .i64 z.hi, .int .i64 z.high, .bool true] 110) by rw [hW5]; exact blk_drewN HXN.out nq); rw [← hW5]; clear u0 u1 u2 u3 v1 v2 v3 v4; have s5 := (blk_cell Y3.out 0).trans (show _ = some (Value.int .i64 out.lo) from rfl); have s6 := (blk_cell Y3.out 1).trans (show _ = some (Value.int .i64 out.hi) from rfl); have s7 := (blk_cell Y3.out 2).trans (show _ = some (Value.int .i64 out.high) from rfl); have f5 := blk_frozen Y3.out 0; have f6 := blk_frozen Y3.out 1; have f7 := blk_frozen Y3.out 2; have u5 := (blk_cell Y4.out 0).trans (show _ = some (Value.int .i64 z.lo) from rfl); have u6 := (blk_cell Y4.out 1).trans (show _ = some (Value.int .i64 z.hi) from rfl); have u7 := (blk_cell Y4.out 2).trans (show _ = some (Value.int .i64 z.high) from rfl); have l1 : (S = XN) = False := eq_false (by have := HSX.out; omega); have l2 : (XN = S) = False := eq_false (by have := HSX.out; omega); clear hW5; go_wp2)
                            go_roundg g1
                            case measure => omega
                            case rel => exact ⟨k + 1, ⟨out.lo, z.hi, out.high, false⟩, by rw [HW.out], by have := HKK.out; omega, ⟨by rw [show decide (k + 1 = 0) = false by simp]; exact HA.out⟩, ⟨blk_far Y0.out (by have := HSS.out; show w.heap.size ≠ S; omega) _, blk_far Y1.out (by have := HSS.out; show w.heap.size + 1 ≠ S; omega) _, blk_far Y2.out (by have := HSS.out; show w.heap.size + 1 + 1 ≠ S; omega) _, blk_put Y3.out 1 _ rfl⟩, ⟨below_set HB6.out HSS.out.1⟩⟩
                          · have d3 : (out.high != t1) = true := bne_t e3
                            rw [hbad, if_pos (by rw [d2, decide_eq_false e3]; rfl)] at ha
                            obtain rfl : zGt = r := by simpa using ha
                            clear ha hbad hstep e1 e2 e3 hk0
                            (go_wp2; go_quiet (fail); obtain ⟨W5, hW5⟩ : ∃ W5, W5 = wc.drewN nq := ⟨_, rfl⟩; have HB6 := Aside0.mk (show Below w.heap.size w W5 by rw [hW5]; exact pw_below_drewN HB5.out nq); have G5 := Aside0.mk (show W5.heap[w.heap.size + 1]? = some (.cells #[.int .i64 0, .int .i64 0, .int .i64 0, .bool false] 110) by rw [hW5]; exact blk_drewN X1.out nq); rw [← hW5]; have g0 := (blk_cell G5.out 0).trans (show _ = some (Value.int .i64 0) from rfl); have g1 := (blk_cell G5.out 1).trans (show _ = some (Value.int .i64 0) from rfl); have g2 := (blk_cell G5.out 2).trans (show _ = some (Value.int .i64 0) from rfl); have g3 := (blk_cell G5.out 3).trans (show _ = some (Value.bool false) from rfl); have f0 := blk_frozen G5.out 0; have f1 := blk_frozen G5.out 1; have f2 := blk_frozen G5.out 2; have f3 := blk_frozen G5.out 3; clear hW5; go_wp2; (refine bodyPost_ret (results_single rfl (.cell (w.heap.size + 1) 110 #[.int .i64 0, .int .i64 0, .int .i64 0, .bool false] (0, 0) _ rfl (blk_put (blk_put (blk_put (blk_put G5.out 0 _ rfl) 1 _ rfl) 2 _ rfl) 3 _ rfl) Try.underlying110 rfl (by kernel_rfl) .nil)) rfl ⟨rfl, below_set (below_set (below_set (below_set HB6.out (by omega)) (by omega)) (by omega)) (by omega)⟩))
                    · have d1 : (z.lo != y.k) = true := bne_t e1
                      rw [decide_eq_false e1] at hbad
                      rw [hbad, if_pos (by rfl)] at ha
                      obtain rfl : zGt = r := by simpa using ha
                      clear ha hbad hstep e1
                      (go_wp2; go_quiet (fail); obtain ⟨W5, hW5⟩ : ∃ W5, W5 = wc.drewN nq := ⟨_, rfl⟩; have HB6 := Aside0.mk (show Below w.heap.size w W5 by rw [hW5]; exact pw_below_drewN HB5.out nq); have G5 := Aside0.mk (show W5.heap[w.heap.size + 1]? = some (.cells #[.int .i64 0, .int .i64 0, .int .i64 0, .bool false] 110) by rw [hW5]; exact blk_drewN X1.out nq); rw [← hW5]; have g0 := (blk_cell G5.out 0).trans (show _ = some (Value.int .i64 0) from rfl); have g1 := (blk_cell G5.out 1).trans (show _ = some (Value.int .i64 0) from rfl); have g2 := (blk_cell G5.out 2).trans (show _ = some (Value.int .i64 0) from rfl); have g3 := (blk_cell G5.out 3).trans (show _ = some (Value.bool false) from rfl); have f0 := blk_frozen G5.out 0; have f1 := blk_frozen G5.out 1; have f2 := blk_frozen G5.out 2; have f3 := blk_frozen G5.out 3; clear hW5; go_wp2; (refine bodyPost_ret (results_single rfl (.cell (w.heap.size + 1) 110 #[.int .i64 0, .int .i64 0, .int .i64 0, .bool false] (0, 0) _ rfl (blk_put (blk_put (blk_put (blk_put G5.out 0 _ rfl) 1 _ rfl) 2 _ rfl) 3 _ rfl) Try.underlying110 rfl (by kernel_rfl) .nil)) rfl ⟨rfl, below_set (below_set (below_set (below_set HB6.out (by omega)) (by omega)) (by omega)) (by omega)⟩))
            · have r1 : decide (k < x.n.it.length) = false := decide_eq_false hlt
              have r2 : (k < x.n.it.length) = False := eq_false hlt
              have hr : (⟨out.lo, out.hi, out.high, true⟩ : Gt) = r := by
                have := HACC.out
                rw [List.drop_eq_nil_of_le (by omega), belowL] at this
                simpa using this
              subst hr
              have s8 := (blk_cell HX.out.2.2.2 3).trans (show _ = some (Value.bool false) from rfl)
              have f8 := blk_frozen HX.out.2.2.2 3
              obtain ⟨W5, hW5⟩ : ∃ W5, W5 = wr.setCell ⟨S, 3, none⟩ (.bool true) := ⟨_, rfl⟩
              have K1 := Aside0.mk (show W5.heap[w.heap.size + 1]? = some (.cells #[.int .i64 0, .int .i64 0, .int .i64 0, .bool false] 110) by rw [hW5]; exact blk_far HX.out.2.1 (by have := HSS.out; show w.heap.size + 1 ≠ S; omega) _)
              have K3 := Aside0.mk (show W5.heap[S]? = some (.cells #[.int .i64 out.lo, .int .i64 out.hi, .int .i64 out.high, .bool true] 110) by rw [hW5]; exact blk_put HX.out.2.2.2 3 _ rfl)
              have HB5 := Aside0.mk (show Below w.heap.size w W5 by rw [hW5]; exact below_set HBW.out HSS.out.1)
              have HW5 := Aside0.mk hW5
              clear hlt hk hW5
              go_upto_region 20 with (fail)
              rw [← HW5.out]
              clear s8 f8
              have s5 := (blk_cell K3.out 0).trans (show _ = some (Value.int .i64 out.lo) from rfl)
              have s6 := (blk_cell K3.out 1).trans (show _ = some (Value.int .i64 out.hi) from rfl)
              have s7 := (blk_cell K3.out 2).trans (show _ = some (Value.int .i64 out.high) from rfl)
              have s8 := (blk_cell K3.out 3).trans (show _ = some (Value.bool true) from rfl)
              have g0 := (blk_cell K1.out 0).trans (show _ = some (Value.int .i64 0) from rfl)
              have g1 := (blk_cell K1.out 1).trans (show _ = some (Value.int .i64 0) from rfl)
              have g2 := (blk_cell K1.out 2).trans (show _ = some (Value.int .i64 0) from rfl)
              have g3 := (blk_cell K1.out 3).trans (show _ = some (Value.bool false) from rfl)
              have h0 := blk_frozen K1.out 0
              have h1 := blk_frozen K1.out 1
              have h2 := blk_frozen K1.out 2
              have h3 := blk_frozen K1.out 3
              go_wp2
              (refine bodyPost_ret (results_single rfl (.cell (w.heap.size + 1) 110 #[.int .i64 out.lo, .int .i64 out.hi, .int .i64 out.high, .bool true] (0, 0) _ rfl (blk_put (blk_put (blk_put (blk_put K1.out 0 _ rfl) 1 _ rfl) 2 _ rfl) 3 _ rfl) Try.underlying110 rfl (by kernel_rfl) .nil)) rfl ⟨rfl, below_set (below_set (below_set (below_set HB5.out (by omega)) (by omega)) (by omega)) (by omega)⟩)
end Go.Proofs.Ytopkoganfnabgaa.H
namespace Go.Proofs.Ytopkoganfnabgaa.H
open Go.RowKit Go.Proofs.YtopkoganfnabgaaW.PrintWords Go.Proofs.YtopkoganfnabgaaW.PrintLast Go.Proofs.YtopkoganfnabgaaW.PrintMore
attribute [local go_sem] max2_int min2_int max_two min_two max_three min_three max_four min_four
set_option linter.unusedVariables false
set_option linter.unusedSimpArgs false
set_option maxHeartbeats 2000000 in
theorem right07_walk (A : Option Addr) (c : Nat) (h : Hp) (root : Int) (b : Bool) (w : World) (hr : kCl.C w A h.c.length h.c) (e : treeO h root = some b) :
    Calls Try.prog 37 #[.agg #[.slice A h.c.length c, .int .i64 h.keep], .int .i64 root] w fun e w' => e = .returned (.bool b) ∧ Below w.heap.size w w' := by
  obtain ⟨W1, hW1⟩ : ∃ W1, W1 = w.alloc (.cells #[.slice A h.c.length c, .int .i64 h.keep] 24) := ⟨_, rfl⟩
  have HB0 := Aside0.mk (show Below w.heap.size w W1 by rw [hW1]; exact below_alloc (Below.refl _ _) _)
  have HBH := Aside0.mk (show W1.heap[w.heap.size]? = some (.cells #[.slice A h.c.length c, .int .i64 h.keep] 24) by rw [hW1]; exact blk_new w _)
  have HUW := Aside0.mk (fun (W : World) (hb : Below W1.heap.size W1 W) => refUsed_walk A c h root W (Kd.C_below (Kd.C_below hr HB0.out) hb))
  have HR1 := Aside0.mk (Kd.C_below hr HB0.out)
  have b0 := (blk_cell HBH.out 0).trans (show _ = some (Value.slice A h.c.length c) from rfl)
  have b1 := (blk_cell HBH.out 1).trans (show _ = some (Value.int .i64 h.keep) from rfl)
  have hW1' := Aside0.mk hW1
  clear hr hW1
  unfold treeO at e
  by_cases h1 : root = -1
  · rw [if_pos h1] at e
    obtain rfl : true = b := by simpa using e
    have q1 : (root == -1) = true := beq_iff_eq.mpr h1
    have HH := Aside0.mk h1
    clear h1 e
    go_enter Try.func37, Try.ntmps37
    go_wp2
    go_ret
    exact ⟨rfl, by repeat (first | (with_reducible exact Below.refl _ _) | (with_reducible refine below_alloc ?_ _) | (with_reducible refine below_drew1 ?_) | (with_reducible refine pw_below_drewN ?_ _) | fail)⟩
  rw [if_neg h1] at e
  have q1 : (root == -1) = false := beq_eq_false_iff_ne.mpr h1
  clear h1
  obtain ⟨u, hu⟩ : ∃ u, u = usedB h root := ⟨_, rfl⟩
  rw [← hu] at e HUW
  clear hu
  cases u with
  | false =>
    obtain rfl : false = b := by simpa using e
    clear e
    go_enter Try.func37, Try.ntmps37
    go_upto_region 3 with (fail)
    rw [← hW1'.out]
    go_wp2_with (first | (go_at_call 67; (with_reducible refine (HUW.out _ (by repeat (first | (with_reducible exact Below.refl _ _) | (with_reducible refine below_alloc ?_ _) | (with_reducible refine below_drew1 ?_) | (with_reducible refine pw_below_drewN ?_ _) | fail))).mono ?_); rintro e w2 ⟨rfl, hb2⟩; have HB2 := Aside0.mk hb2; clear hb2) | fail)
    go_ret
    exact ⟨rfl, below_step HB0.out HB2.out⟩
  | true =>
    rw [if_pos rfl] at e
    cases hq : belowO 20 h root with
    | none => rw [hq] at e; cases e
    | some z =>
      rw [hq] at e
      obtain rfl : z.is = b := by simpa using e
      have HBL := Aside0.mk (fun (W : World) (hb : Below W1.heap.size W1 W) => below_walk 20 A c h root z W (by decide) (Kd.C_below HR1.out hb) hq)
      rw [show ((20 : Nat) : Int) = 20 from rfl] at HBL
      clear e hq
      go_enter Try.func37, Try.ntmps37
      go_upto_region 3 with (fail)
      rw [← hW1'.out]
      go_wp2_with (first | (go_at_call 67; (with_reducible refine (HUW.out _ (by repeat (first | (with_reducible exact Below.refl _ _) | (with_reducible refine below_alloc ?_ _) | (with_reducible refine below_drew1 ?_) | (with_reducible refine pw_below_drewN ?_ _) | fail))).mono ?_); rintro e w2 ⟨rfl, hb2⟩; have HB2 := Aside0.mk hb2; have d0 := bcell hb2 b0; have d1 := bcell hb2 b1; clear hb2) | (go_at_call 68; (with_reducible refine (HBL.out _ HB2.out).mono ?_); rintro e w3 ⟨rfl, hb3⟩; have HB3 := Aside0.mk (below_step HB2.out hb3); clear hb3) | fail)
      go_ret
      exact ⟨rfl, by repeat (first | (with_reducible exact Below.refl _ _) | (with_reducible refine below_alloc ?_ _) | (with_reducible refine below_drew1 ?_) | (with_reducible refine pw_below_drewN ?_ _) | (with_reducible exact below_step HB0.out HB3.out))⟩
def may7O (h : Hp) (root : Int) (most : Nat) : Option Bool := if mayB h most = true then treeO h root else some false
theorem may07_walk (A : Option Addr) (c : Nat) (h : Hp) (root : Int) (most : Nat) (b : Bool) (w : World) (hr : kCl.C w A h.c.length h.c) (e : may7O h root most = some b) :
    Calls Try.prog 12 #[.agg #[.slice A h.c.length c, .int .i64 h.keep], .int .i64 root, .int .i64 most] w fun e w' => e = .returned (.bool b) ∧ Below w.heap.size w w' := by
  obtain ⟨W1, hW1⟩ : ∃ W1, W1 = w.alloc (.cells #[.slice A h.c.length c, .int .i64 h.keep] 24) := ⟨_, rfl⟩
  have HB0 := Aside0.mk (show Below w.heap.size w W1 by rw [hW1]; exact below_alloc (Below.refl _ _) _)
  have HBH := Aside0.mk (show W1.heap[w.heap.size]? = some (.cells #[.slice A h.c.length c, .int .i64 h.keep] 24) by rw [hW1]; exact blk_new w _)
  have HMW := Aside0.mk (fun (W : World) (hb : Below W1.heap.size W1 W) => may05_walk A c h most W (Kd.C_below (Kd.C_below hr HB0.out) hb))
  have HR1 := Aside0.mk (Kd.C_below hr HB0.out)
  have b0 := (blk_cell HBH.out 0).trans (show _ = some (Value.slice A h.c.length c) from rfl)
  have b1 := (blk_cell HBH.out 1).trans (show _ = some (Value.int .i64 h.keep) from rfl)
  have hW1' := Aside0.mk hW1
  clear hr hW1
  unfold may7O at e
  obtain ⟨u, hu⟩ : ∃ u, u = mayB h most := ⟨_, rfl⟩
  rw [← hu] at e HMW
  clear hu
  cases u with
  | false =>
    obtain rfl : false = b := by simpa using e
    clear e
    go_enter Try.func12, Try.ntmps12
    go_upto_region 1 with (fail)
    rw [← hW1'.out]
    go_wp2_with (first | (go_at_call 36; (with_reducible refine (HMW.out _ (by repeat (first | (with_reducible exact Below.refl _ _) | (with_reducible refine below_alloc ?_ _) | (with_reducible refine below_drew1 ?_) | (with_reducible refine pw_below_drewN ?_ _) | fail))).mono ?_); rintro e w2 ⟨rfl, hb2⟩; have HB2 := Aside0.mk hb2; clear hb2) | fail)
    go_ret
    exact ⟨rfl, below_step HB0.out HB2.out⟩
  | true =>
    rw [if_pos rfl] at e
    have HTW := Aside0.mk (fun (W : World) (hb : Below W1.heap.size W1 W) => right07_walk A c h root b W (Kd.C_below HR1.out hb) e)
    clear e
    go_enter Try.func12, Try.ntmps12
    go_upto_region 1 with (fail)
    rw [← hW1'.out]
    go_wp2_with (first | (go_at_call 36; (with_reducible refine (HMW.out _ (by repeat (first | (with_reducible exact Below.refl _ _) | (with_reducible refine below_alloc ?_ _) | (with_reducible refine below_drew1 ?_) | (with_reducible refine pw_below_drewN ?_ _) | fail))).mono ?_); rintro e w2 ⟨rfl, hb2⟩; have HB2 := Aside0.mk hb2; have d0 := bcell hb2 b0; have d1 := bcell hb2 b1; clear hb2) | (go_at_call 37; (with_reducible refine (HTW.out _ HB2.out).mono ?_); rintro e w3 ⟨rfl, hb3⟩; have HB3 := Aside0.mk (below_step HB2.out hb3); clear hb3) | fail)
    go_ret
    exact ⟨rfl, below_step HB0.out HB3.out⟩
set_option maxHeartbeats 2000000 in
theorem get07_walk (f : Nat) (A : Option Addr) (c : Nat) (h : Hp) (root key : Int) (l : List It) (w : World) (hr : kCl.C w A h.c.length h.c) (e : listO f h root = some l) :
    Calls Try.prog 25 #[.agg #[.slice A h.c.length c, .int .i64 h.keep], .int .i64 root, .int .i64 key] w fun e w' => e = .returned (.tuple #[.int .i64 (getL l key).1, .int .i64 (getL l key).2]) ∧ Below w.heap.size w w' := by
  obtain ⟨W1, hW1⟩ : ∃ W1, W1 = w.alloc (.cells #[.slice A h.c.length c, .int .i64 h.keep] 24) := ⟨_, rfl⟩
  have HB0 := Aside0.mk (show Below w.heap.size w W1 by rw [hW1]; exact below_alloc (Below.refl _ _) _)
  have HBH := Aside0.mk (show W1.heap[w.heap.size]? = some (.cells #[.slice A h.c.length c, .int .i64 h.keep] 24) by rw [hW1]; exact blk_new w _)
  have HLW := Aside0.mk (fun (W : World) (hb : Below W1.heap.size W1 W) => list_walk f A c h root l W (Kd.C_below (Kd.C_below hr HB0.out) hb) e)
  have b0 := (blk_cell HBH.out 0).trans (show _ = some (Value.slice A h.c.length c) from rfl)
  have b1 := (blk_cell HBH.out 1).trans (show _ = some (Value.int .i64 h.keep) from rfl)
  have HLN := Aside0.mk (listO_len e)
  have hW1' := Aside0.mk hW1
  clear hr hW1 e
  go_enter Try.func25, Try.ntmps25
  go_upto_region 1 with (fail)
  rw [← hW1'.out]
  go_wp2_with (first | (go_at_call 24; (with_reducible refine (HLW.out _ (by repeat (first | (with_reducible exact Below.refl _ _) | (with_reducible refine below_alloc ?_ _) | (with_reducible refine below_drew1 ?_) | (with_reducible refine pw_below_drewN ?_ _) | fail))).mono ?_); rintro e w2 ⟨B, cb, rfl, hcb, hB, hb2⟩; have HB2 := Aside0.mk (below_step HB0.out hb2); have HBB := Aside0.mk hB; clear hb2 hB hcb) | fail)
  go_loopg [9] l.length (fun g s9 wr => ∃ k : Nat, s9 = .int .i64 k ∧ k + g = l.length ∧ Aside0 (∀ i, i < k → (itAt l i).k ≠ key) ∧ Aside0 (wr = w2))
  case atStart => exact ⟨0, rfl, by omega, ⟨fun i h => by omega⟩, ⟨rfl⟩⟩
  case round =>
    obtain ⟨k, rfl, hk, HO, HE⟩ := hrel
    have he := HE.out
    subst he
    by_cases hlt : k < l.length
    · obtain ⟨g1, rfl⟩ : ∃ g1, gk = g1 + 1 := ⟨gk - 1, by omega⟩
      have r1 : decide (k < l.length) = true := decide_eq_true hlt
      have r2 : (k < l.length) = True := eq_true hlt
      obtain ⟨ad, rfl, x0, x1⟩ := at_it HBB.out k hlt
      obtain ⟨x, hx⟩ : ∃ x, x = itAt l k := ⟨_, rfl⟩
      rw [← hx] at x0 x1
      have HX := Aside0.mk hx
      have HK := Aside0.mk (And.intro hlt hk)
      have HW := Aside0.mk (show wrap64 ((k : Int) + 1) = ((k + 1 : Nat) : Int) by have := HLN.out; unfold wrap64; omega)
      by_cases ek : x.k = key
      · have q1 : (x.k == key) = true := beq_iff_eq.mpr ek
        have HG := Aside0.mk (find_at k hlt HO.out (by rw [← hx]; exact ek))
        clear hx hk hlt ek
        go_wp2
        go_ret2
        exact ⟨by rw [HG.out, ← HX.out]; rfl, HB2.out⟩
      · have q1 : (x.k == key) = false := beq_eq_false_iff_ne.mpr ek
        have HNE := Aside0.mk ek
        clear hx hk hlt ek
        go_wp2
        go_roundg g1
        case measure => omega
        case rel => exact ⟨k + 1, by rw [HW.out], by have := HK.out; omega, ⟨fun i hi => by rcases Nat.lt_or_ge i k with h | h; exact HO.out i h; obtain rfl : i = k := (by omega); rw [← HX.out]; exact HNE.out⟩, ⟨rfl⟩⟩
    · have r1 : decide (k < l.length) = false := decide_eq_false hlt
      have r2 : (k < l.length) = False := eq_false hlt
      have HG := Aside0.mk (find_none (l := l) (key := key) (fun i hi => HO.out i (by omega)))
      clear hlt hk
      go_wp2
      go_ret2
      exact ⟨by rw [HG.out]; rfl, HB2.out⟩
end Go.Proofs.Ytopkoganfnabgaa.H
namespace Go.Proofs.Ytopkoganfnabgaa.H
open Go.RowKit Go.Proofs.YtopkoganfnabgaaW.PrintWords Go.Proofs.YtopkoganfnabgaaW.PrintLast Go.Proofs.YtopkoganfnabgaaW.PrintMore
attribute [local go_sem] max2_int min2_int max_two min_two max_three min_three max_four min_four
set_option linter.unusedVariables false
set_option linter.unusedSimpArgs false
set_option maxHeartbeats 4000000 in
set_option maxRecDepth 100000 in
theorem sound_walk (A Ar : Option Addr) (c cr : Nat) (h : Hp) (roots : List Int) (w : World) (hr : kCl.C w A h.c.length h.c) (hrr : (Kd.int .i64).C w Ar roots.length roots) (hl : h.c.length ≤ 2000) (hl1 : 1 ≤ h.c.length) (hrl : roots.length ≤ 1000) (hit : ∀ i, i < h.c.length → (h.c.getD i zCl).n.it.length ≤ 10) :
    Calls Try.prog 55 #[.agg #[.slice A h.c.length c, .int .i64 h.keep], .slice Ar roots.length cr, .slice none 0 0] w fun e w' => e = .returned (.bool (soundB h roots)) ∧ Below w.heap.size w w' := by
  obtain ⟨W1, hW1⟩ : ∃ W1, W1 = w.alloc (.cells #[.slice A h.c.length c, .int .i64 h.keep] 24) := ⟨_, rfl⟩
  have HB0 := Aside0.mk (show Below w.heap.size w W1 by rw [hW1]; exact below_alloc (Below.refl _ _) _)
  have HBH := Aside0.mk (show W1.heap[w.heap.size]? = some (.cells #[.slice A h.c.length c, .int .i64 h.keep] 24) by rw [hW1]; exact blk_new w _)
  have HRF := Aside0.mk (fun (W : World) (hb : Below W1.heap.size W1 W) => refs_walk A Ar c cr h roots W (Kd.C_below (Kd.C_below hr HB0.out) hb) (Kd.C_below (Kd.C_below hrr HB0.out) hb) hl hrl hit)
  have HHD := Aside0.mk (fun (W : World) (hb : Below W1.heap.size W1 W) => held_walk A Ar c cr h roots W (Kd.C_below (Kd.C_below hr HB0.out) hb) (Kd.C_below (Kd.C_below hrr HB0.out) hb) hl hl1 hrl hit)
  have HR1 := Aside0.mk (Kd.C_below hr HB0.out)
  have HL := Aside0.mk hl
  have c0 := (blk_cell HBH.out 0).trans (show _ = some (Value.slice A h.c.length c) from rfl)
  have c1 := (blk_cell HBH.out 1).trans (show _ = some (Value.int .i64 h.keep) from rfl)
  have hW1' := Aside0.mk hW1
  clear hr hrr hW1 hit hrl hl hl1
  go_enter Try.func55, Try.ntmps55
  go_upto_region 1 with (fail)
  rw [← hW1'.out]
  go_upto_region 3 with (first | (go_at_call 90; (with_reducible refine (HRF.out _ (by repeat (first | (with_reducible exact Below.refl _ _) | (with_reducible refine below_alloc ?_ _) | (with_reducible refine below_drew1 ?_) | (with_reducible refine pw_below_drewN ?_ _) | fail))).mono ?_); rintro e w2 ⟨B2, cb2, rfl, hB2, hb2⟩; have HB2 := Aside0.mk hb2; have HR2 := Aside0.mk hB2; have d0 := bcell hb2 c0; have d1 := bcell hb2 c1; clear hb2 hB2) | (go_at_call 91; (with_reducible refine (HHD.out _ HB2.out).mono ?_); rintro e w3 ⟨B3, cb3, rfl, hB3, hb3⟩; have HB3 := Aside0.mk (below_step HB2.out hb3); have HH3 := Aside0.mk hB3; have HR3 := Aside0.mk (Kd.C_below HR2.out hb3); clear hb3 hB3) | fail)
  go_wp2
  clear c0 c1 d0 d1
  go_loopg [9] h.c.length (fun g s9 wr => ∃ k : Nat, s9 = .int .i64 k ∧ k + g = h.c.length ∧ Aside0 (∀ i, i < k → soundAt h roots i = true) ∧ Aside0 (Below w3.heap.size w3 wr))
  case atStart => exact ⟨0, rfl, by omega, ⟨fun i h => by omega⟩, ⟨Below.refl _ _⟩⟩
  case round =>
    obtain ⟨k, rfl, hk, HO, HB⟩ := hrel
    have HBW := Aside0.mk (below_step HB3.out HB.out)
    have b0 := (blk_cell (blk_below HBH.out HBW.out) 0).trans (show _ = some (Value.slice A h.c.length c) from rfl)
    by_cases hlt : k < h.c.length
    · obtain ⟨g1, rfl⟩ : ∃ g1, gk = g1 + 1 := ⟨gk - 1, by omega⟩
      have r1 : decide (k < h.c.length) = true := decide_eq_true hlt
      have r2 : (k < h.c.length) = True := eq_true hlt
      obtain ⟨ad, B, cb, rfl, x0, _⟩ := at_cl (Kd.C_below HR1.out HBW.out) k hlt
      obtain ⟨ad2, rfl, y0⟩ := Kd.at_int (Kd.C_below HR3.out HB.out) (k : Int) (by omega) (by omega)
      obtain ⟨ad3, rfl, z0⟩ := Kd.at_bool (Kd.C_below HH3.out HB.out) (k : Int) (by omega) (by omega)
      rw [Int.toNat_natCast] at y0 z0
      have hsa : soundAt h roots k = (decide ((h.c.getD k zCl).ref = (refsN h roots k : Int)) && (heldB h roots 25 k == decide (0 < (h.c.getD k zCl).ref))) := rfl
      rw [show rd (refsL h roots h.c.length) (k : Int) = (refsN h roots k : Int) by unfold rd refsL; rw [Int.toNat_natCast, List.getD_eq_getElem?_getD, List.getElem?_map, List.getElem?_range hlt]; rfl] at y0
      rw [show rdOf false (rowB (heldB h roots 25) h.c.length) (k : Int) = heldB h roots 25 k by unfold rdOf; rw [Int.toNat_natCast]; exact rowB_get _ _ k hlt] at z0
      obtain ⟨x, hx⟩ : ∃ x, x = (h.c.getD k zCl).ref := ⟨_, rfl⟩
      obtain ⟨R, hR⟩ : ∃ R : Int, R = (refsN h roots k : Int) := ⟨_, rfl⟩
      obtain ⟨H, hH⟩ : ∃ H, H = heldB h roots 25 k := ⟨_, rfl⟩
      rw [← hx, ← hR, ← hH] at hsa
      rw [← hx] at x0
      rw [← hR] at y0
      rw [← hH] at z0
      have HK := Aside0.mk (And.intro hlt hk)
      have HW := Aside0.mk (show wrap64 ((k : Int) + 1) = ((k + 1 : Nat) : Int) by have := HL.out; unfold wrap64; omega)
      clear hx hR hH hlt hk
      by_cases e1 : x = R
      · have d1 : (x != R) = false := bne_f e1
        rw [decide_eq_true e1] at hsa
        obtain ⟨P, hP⟩ : ∃ P, P = decide (0 < x) := ⟨_, rfl⟩
        have d2 := hP.symm
        rw [← hP] at hsa
        clear hP e1
        cases H <;> cases P
        · have HS := Aside0.mk (show soundAt h roots k = true by rw [hsa]; rfl)
          clear hsa
          go_wp2
          go_quiet (fail)
          go_wp2
          go_roundg g1
          case measure => omega
          case rel => exact ⟨k + 1, by rw [HW.out], by have := HK.out; omega, ⟨fun i hi => by rcases Nat.lt_or_ge i k with h | h; exact HO.out i h; obtain rfl : i = k := (by omega); exact HS.out⟩, ⟨by repeat (first | (with_reducible exact Below.refl _ _) | (with_reducible refine below_alloc ?_ _) | (with_reducible refine below_drew1 ?_) | (with_reducible refine pw_below_drewN ?_ _) | (with_reducible exact HB.out))⟩⟩
        · have HF := Aside0.mk (show soundB h roots = false from all_false HK.out.1 (by rw [hsa]; rfl))
          clear hsa
          go_wp2
          go_quiet (fail)
          go_wp2
          go_ret
          exact ⟨ret_b HF.out.symm, by repeat (first | (with_reducible exact Below.refl _ _) | (with_reducible refine below_alloc ?_ _) | (with_reducible refine below_drew1 ?_) | (with_reducible refine pw_below_drewN ?_ _) | (with_reducible exact below_step HB0.out HBW.out))⟩
        · have HF := Aside0.mk (show soundB h roots = false from all_false HK.out.1 (by rw [hsa]; rfl))
          clear hsa
          go_wp2
          go_quiet (fail)
          go_wp2
          go_ret
          exact ⟨ret_b HF.out.symm, by repeat (first | (with_reducible exact Below.refl _ _) | (with_reducible refine below_alloc ?_ _) | (with_reducible refine below_drew1 ?_) | (with_reducible refine pw_below_drewN ?_ _) | (with_reducible exact below_step HB0.out HBW.out))⟩
        · have HS := Aside0.mk (show soundAt h roots k = true by rw [hsa]; rfl)
          clear hsa
          go_wp2
          go_quiet (fail)
          go_wp2
          go_roundg g1
          case measure => omega
          case rel => exact ⟨k + 1, by rw [HW.out], by have := HK.out; omega, ⟨fun i hi => by rcases Nat.lt_or_ge i k with h | h; exact HO.out i h; obtain rfl : i = k := (by omega); exact HS.out⟩, ⟨by repeat (first | (with_reducible exact Below.refl _ _) | (with_reducible refine below_alloc ?_ _) | (with_reducible refine below_drew1 ?_) | (with_reducible refine pw_below_drewN ?_ _) | (with_reducible exact HB.out))⟩⟩
      · have d1 : (x != R) = true := bne_t e1
        have HF := Aside0.mk (show soundB h roots = false from all_false HK.out.1 (by rw [hsa, decide_eq_false e1]; rfl))
        clear hsa e1
        go_wp2
        go_quiet (fail)
        go_wp2
        go_ret
        exact ⟨ret_b HF.out.symm, by repeat (first | (with_reducible exact Below.refl _ _) | (with_reducible refine below_alloc ?_ _) | (with_reducible refine below_drew1 ?_) | (with_reducible refine pw_below_drewN ?_ _) | (with_reducible exact below_step HB0.out HBW.out))⟩
    · have r1 : decide (k < h.c.length) = false := decide_eq_false hlt
      have r2 : (k < h.c.length) = False := eq_false hlt
      have HF := Aside0.mk (show soundB h roots = true from all_true (fun i hi => HO.out i (by omega)))
      clear hlt hk
      go_wp2
      go_ret
      exact ⟨ret_b HF.out.symm, below_step HB0.out HBW.out⟩
end Go.Proofs.Ytopkoganfnabgaa.H
namespace Go.Proofs.Ytopkoganfnabgaa.H
open Go.RowKit Go.Proofs.YtopkoganfnabgaaW.PrintWords Go.Proofs.YtopkoganfnabgaaW.PrintLast Go.Proofs.YtopkoganfnabgaaW.PrintMore
attribute [local go_sem] max2_int min2_int max_two min_two max_three min_three max_four min_four
set_option linter.unusedVariables false
set_option linter.unusedSimpArgs false
def anyO (h : Hp) (roots : List Int) : Option Bool := if rightB h = true then anyL h roots else some false
def may8O (h : Hp) (roots : List Int) (most : Nat) : Option Bool := if (smallB h most && decide (roots.length ≤ 20)) = true then anyO h roots else some false
def fineO (h : Hp) (roots : List Int) (most : Nat) : Option Bool := match may8O h roots most with
  | none => none
  | some b => if b then some (soundB h roots) else some false
theorem drop_atI (l : List Int) (k : Nat) (hk : k < l.length) : l.drop k = rd l (k : Int) :: l.drop (k + 1) := by
  rw [List.drop_eq_getElem_cons hk]
  unfold rd
  rw [Int.toNat_natCast, List.getD_eq_getElem?_getD, List.getElem?_eq_getElem hk]
  rfl
set_option maxHeartbeats 4000000 in
set_option maxRecDepth 100000 in
theorem any_walk (A Ar : Option Addr) (c cr : Nat) (h : Hp) (roots : List Int) (b : Bool) (w : World) (hr : kCl.C w A h.c.length h.c) (hrr : (Kd.int .i64).C w Ar roots.length roots) (e : anyO h roots = some b) :
    Calls Try.prog 89 #[.agg #[.slice A h.c.length c, .int .i64 h.keep], .slice Ar roots.length cr, .slice none 0 0] w fun e w' => e = .returned (.bool b) ∧ Below w.heap.size w w' := by
  have hmr := Kd.C_max hrr
  obtain ⟨W1, hW1⟩ : ∃ W1, W1 = w.alloc (.cells #[.slice A h.c.length c, .int .i64 h.keep] 24) := ⟨_, rfl⟩
  have HB0 := Aside0.mk (show Below w.heap.size w W1 by rw [hW1]; exact below_alloc (Below.refl _ _) _)
  have HBH := Aside0.mk (show W1.heap[w.heap.size]? = some (.cells #[.slice A h.c.length c, .int .i64 h.keep] 24) by rw [hW1]; exact blk_new w _)
  have HRT := Aside0.mk (fun (W : World) (hb : Below W1.heap.size W1 W) => right05_walk A c h W (Kd.C_below (Kd.C_below hr HB0.out) hb))
  have HR1 := Aside0.mk (Kd.C_below hr HB0.out)
  have HRR := Aside0.mk (Kd.C_below hrr HB0.out)
  have c0 := (blk_cell HBH.out 0).trans (show _ = some (Value.slice A h.c.length c) from rfl)
  have c1 := (blk_cell HBH.out 1).trans (show _ = some (Value.int .i64 h.keep) from rfl)
  have hW1' := Aside0.mk hW1
  clear hr hrr hW1
  unfold anyO at e
  obtain ⟨u, hu⟩ : ∃ u, u = rightB h := ⟨_, rfl⟩
  rw [← hu] at e HRT
  clear hu
  cases u with
  | false =>
    obtain rfl : false = b := by simpa using e
    clear e
    go_enter Try.func89, Try.ntmps89
    go_upto_region 1 with (fail)
    rw [← hW1'.out]
    go_wp2_with (first | (go_at_call 66; (with_reducible refine (HRT.out _ (by repeat (first | (with_reducible exact Below.refl _ _) | (with_reducible refine below_alloc ?_ _) | (with_reducible refine below_drew1 ?_) | (with_reducible refine pw_below_drewN ?_ _) | fail))).mono ?_); rintro e w2 ⟨rfl, hb2⟩; have HB2 := Aside0.mk hb2; have d0 := bcell hb2 c0; have d1 := bcell hb2 c1; clear hb2) | (go_at_call 104; (with_reducible refine (right06_walk _ _).mono ?_); rintro e w' ⟨rfl, rfl⟩) | fail)
    go_ret
    exact ⟨rfl, below_step HB0.out HB2.out⟩
  | true =>
    rw [if_pos rfl] at e
    have HE := Aside0.mk e
    clear e
    go_enter Try.func89, Try.ntmps89
    go_upto_region 1 with (fail)
    rw [← hW1'.out]
    go_wp2_with (first | (go_at_call 66; (with_reducible refine (HRT.out _ (by repeat (first | (with_reducible exact Below.refl _ _) | (with_reducible refine below_alloc ?_ _) | (with_reducible refine below_drew1 ?_) | (with_reducible refine pw_below_drewN ?_ _) | fail))).mono ?_); rintro e w2 ⟨rfl, hb2⟩; have HB2 := Aside0.mk hb2; have d0 := bcell hb2 c0; have d1 := bcell hb2 c1; clear hb2) | (go_at_call 104; (with_reducible refine (right06_walk _ _).mono ?_); rintro e w' ⟨rfl, rfl⟩) | fail)
    clear c0 c1 d0 d1
    go_loopg [9] roots.length (fun g s9 wr => ∃ k : Nat, s9 = .int .i64 k ∧ k + g = roots.length ∧ Aside0 (anyL h (roots.drop k) = some b) ∧ Aside0 (Below W1.heap.size W1 wr))
    case atStart => exact ⟨0, rfl, by omega, HE, HB2⟩
    case round =>
      obtain ⟨k, rfl, hk, HO, HB⟩ := hrel
      have b0 := (blk_cell (blk_below HBH.out HB.out) 0).trans (show _ = some (Value.slice A h.c.length c) from rfl)
      have b1 := (blk_cell (blk_below HBH.out HB.out) 1).trans (show _ = some (Value.int .i64 h.keep) from rfl)
      by_cases hlt : k < roots.length
      · obtain ⟨g1, rfl⟩ : ∃ g1, gk = g1 + 1 := ⟨gk - 1, by omega⟩
        have r1 : decide (k < roots.length) = true := decide_eq_true hlt
        have r2 : (k < roots.length) = True := eq_true hlt
        obtain ⟨ad2, rfl, y0⟩ := Kd.at_int (Kd.C_below HRR.out HB.out) (k : Int) (by omega) (by omega)
        rw [Int.toNat_natCast] at y0
        have ho := HO.out
        rw [drop_atI _ _ hlt, anyL] at ho
        obtain ⟨r, hrt⟩ : ∃ r, r = rd roots (k : Int) := ⟨_, rfl⟩
        rw [← hrt] at y0 ho
        cases hq : treeO h r with
        | none => rw [hq] at ho; cases ho
        | some t =>
          rw [hq] at ho
          have HTW := Aside0.mk (fun (W : World) (hb : Below W1.heap.size W1 W) => right07_walk A c h r t W (Kd.C_below HR1.out hb) hq)
          have HK := Aside0.mk (And.intro hlt hk)
          have HW := Aside0.mk (show wrap64 ((k : Int) + 1) = ((k + 1 : Nat) : Int) by unfold wrap64; omega)
          clear hq hrt hlt hk
          cases t with
          | false =>
            obtain rfl : false = b := by simpa using ho
            clear ho
            go_wp2
            go_still_tail 5, (by kernel_rfl)
            go_wp2_with (first | (go_at_call 37; (with_reducible refine (HTW.out _ (by repeat (first | (with_reducible exact Below.refl _ _) | (with_reducible refine below_alloc ?_ _) | (with_reducible refine below_drew1 ?_) | (with_reducible refine pw_below_drewN ?_ _) | (with_reducible exact HB.out)))).mono ?_); rintro e w3 ⟨rfl, hb3⟩; have HB3 := Aside0.mk (show Below W1.heap.size W1 w3 from below_step (by repeat (first | (with_reducible exact Below.refl _ _) | (with_reducible refine below_alloc ?_ _) | (with_reducible refine below_drew1 ?_) | (with_reducible refine pw_below_drewN ?_ _) | (with_reducible exact HB.out))) hb3); clear hb3) | fail)
            go_ret
            exact ⟨rfl, below_step HB0.out HB3.out⟩
          | true =>
            have HA := Aside0.mk (show anyL h (roots.drop (k + 1)) = some b from ho)
            clear ho
            go_wp2
            go_still_tail 5, (by kernel_rfl)
            go_wp2_with (first | (go_at_call 37; (with_reducible refine (HTW.out _ (by repeat (first | (with_reducible exact Below.refl _ _) | (with_reducible refine below_alloc ?_ _) | (with_reducible refine below_drew1 ?_) | (with_reducible refine pw_below_drewN ?_ _) | (with_reducible exact HB.out)))).mono ?_); rintro e w3 ⟨rfl, hb3⟩; have HB3 := Aside0.mk (show Below W1.heap.size W1 w3 from below_step (by repeat (first | (with_reducible exact Below.refl _ _) | (with_reducible refine below_alloc ?_ _) | (with_reducible refine below_drew1 ?_) | (with_reducible refine pw_below_drewN ?_ _) | (with_reducible exact HB.out))) hb3); clear hb3) | fail)
            go_roundg g1
            case measure => omega
            case rel => exact ⟨k + 1, by rw [HW.out], by have := HK.out; omega, HA, HB3⟩
      · have r1 : decide (k < roots.length) = false := decide_eq_false hlt
        have r2 : (k < roots.length) = False := eq_false hlt
        have ho := HO.out
        rw [List.drop_eq_nil_of_le (by omega), anyL] at ho
        obtain rfl : true = b := by simpa using ho
        clear ho hlt hk
        go_wp2
        refine wp_loop_rounds 1 ?_
        rw [rounds_succ]; go_wp2
        go_ret
        exact ⟨rfl, below_step HB0.out HB.out⟩
theorem may08_walk (A Ar : Option Addr) (c cr : Nat) (h : Hp) (roots : List Int) (most : Nat) (b : Bool) (w : World) (hr : kCl.C w A h.c.length h.c) (hrr : (Kd.int .i64).C w Ar roots.length roots) (e : may8O h roots most = some b) :
    Calls Try.prog 54 #[.agg #[.slice A h.c.length c, .int .i64 h.keep], .slice Ar roots.length cr, .slice none 0 0, .int .i64 most] w fun e w' => e = .returned (.bool b) ∧ Below w.heap.size w w' := by
  obtain ⟨W1, hW1⟩ : ∃ W1, W1 = w.alloc (.cells #[.slice A h.c.length c, .int .i64 h.keep] 24) := ⟨_, rfl⟩
  have HB0 := Aside0.mk (show Below w.heap.size w W1 by rw [hW1]; exact below_alloc (Below.refl _ _) _)
  have HBH := Aside0.mk (show W1.heap[w.heap.size]? = some (.cells #[.slice A h.c.length c, .int .i64 h.keep] 24) by rw [hW1]; exact blk_new w _)
  have HSW := Aside0.mk (fun (W : World) (hb : Below W1.heap.size W1 W) => small_walk A c h most W (Kd.C_below (Kd.C_below hr HB0.out) hb))
  have HR1 := Aside0.mk (Kd.C_below hr HB0.out)
  have HRR := Aside0.mk (Kd.C_below hrr HB0.out)
  have c0 := (blk_cell HBH.out 0).trans (show _ = some (Value.slice A h.c.length c) from rfl)
  have c1 := (blk_cell HBH.out 1).trans (show _ = some (Value.int .i64 h.keep) from rfl)
  have hW1' := Aside0.mk hW1
  clear hr hrr hW1
  unfold may8O at e
  obtain ⟨u, hu⟩ : ∃ u, u = smallB h most := ⟨_, rfl⟩
  rw [← hu] at e HSW
  clear hu
  cases u with
  | false =>
    obtain rfl : false = b := by simpa using e
    clear e
    go_enter Try.func54, Try.ntmps54
    go_upto_region 1 with (fail)
    rw [← hW1'.out]
    go_wp2_with (first | (go_at_call 65; (with_reducible refine (HSW.out _ (by repeat (first | (with_reducible exact Below.refl _ _) | (with_reducible refine below_alloc ?_ _) | (with_reducible refine below_drew1 ?_) | (with_reducible refine pw_below_drewN ?_ _) | fail))).mono ?_); rintro e w2 ⟨rfl, hb2⟩; have HB2 := Aside0.mk hb2; have d0 := bcell hb2 c0; have d1 := bcell hb2 c1; clear hb2) | fail)
    go_ret
    exact ⟨rfl, below_step HB0.out HB2.out⟩
  | true =>
    by_cases hl : roots.length ≤ 20
    · have q1 : decide ((20 : Int) < (roots.length : Int)) = false := decide_eq_false (by omega)
      have q2 : decide (20 < roots.length) = false := decide_eq_false (by omega)
      rw [decide_eq_true hl] at e
      have HAW := Aside0.mk (fun (W : World) (hb : Below W1.heap.size W1 W) => any_walk A Ar c cr h roots b W (Kd.C_below HR1.out hb) (Kd.C_below HRR.out hb) e)
      clear e hl
      go_enter Try.func54, Try.ntmps54
      go_upto_region 1 with (fail)
      rw [← hW1'.out]
      go_wp2_with (first | (go_at_call 65; (with_reducible refine (HSW.out _ (by repeat (first | (with_reducible exact Below.refl _ _) | (with_reducible refine below_alloc ?_ _) | (with_reducible refine below_drew1 ?_) | (with_reducible refine pw_below_drewN ?_ _) | fail))).mono ?_); rintro e w2 ⟨rfl, hb2⟩; have HB2 := Aside0.mk hb2; have d0 := bcell hb2 c0; have d1 := bcell hb2 c1; clear hb2) | (go_at_call 89; (with_reducible refine (HAW.out _ HB2.out).mono ?_); rintro e w3 ⟨rfl, hb3⟩; have HB3 := Aside0.mk (below_step HB2.out hb3); clear hb3) | fail)
      go_ret
      exact ⟨rfl, below_step HB0.out HB3.out⟩
    · have q1 : decide ((20 : Int) < (roots.length : Int)) = true := decide_eq_true (by omega)
      have q2 : decide (20 < roots.length) = true := decide_eq_true (by omega)
      rw [decide_eq_false hl] at e
      obtain rfl : false = b := by simpa using e
      clear e hl
      go_enter Try.func54, Try.ntmps54
      go_upto_region 1 with (fail)
      rw [← hW1'.out]
      go_wp2_with (first | (go_at_call 65; (with_reducible refine (HSW.out _ (by repeat (first | (with_reducible exact Below.refl _ _) | (with_reducible refine below_alloc ?_ _) | (with_reducible refine below_drew1 ?_) | (with_reducible refine pw_below_drewN ?_ _) | fail))).mono ?_); rintro e w2 ⟨rfl, hb2⟩; have HB2 := Aside0.mk hb2; have d0 := bcell hb2 c0; have d1 := bcell hb2 c1; clear hb2) | fail)
      go_ret
      exact ⟨rfl, below_step HB0.out HB2.out⟩
theorem may8_facts {h : Hp} {roots : List Int} {most : Nat} (e : may8O h roots most = some true) : smallB h most = true ∧ roots.length ≤ 20 ∧ rightB h = true ∧ anyL h roots = some true := by
  unfold may8O at e
  split at e
  · rename_i hs
    simp only [Bool.and_eq_true, decide_eq_true_eq] at hs
    unfold anyO at e
    split at e
    · rename_i hr; exact ⟨hs.1, hs.2, hr, e⟩
    · simp at e
  · simp at e
theorem small_facts {h : Hp} {most : Nat} (e : smallB h most = true) : h.c.length ≤ most ∧ ∀ i, i < h.c.length → (h.c.getD i zCl).n.it.length ≤ 10 ∧ (h.c.getD i zCl).ref ≤ 1000000 := by
  unfold smallB at e
  simp only [Bool.and_eq_true, decide_eq_true_eq, List.all_eq_true] at e
  refine ⟨e.1, fun i hi => ?_⟩
  have := e.2 (h.c.getD i zCl) (by rw [List.getD_eq_getElem?_getD, List.getElem?_eq_getElem hi]; exact List.getElem_mem _)
  unfold smallC at this
  simpa using this
theorem rightB_len {h : Hp} (e : rightB h = true) : 1 ≤ h.c.length ∧ h.c.length ≤ 2000 := by
  unfold rightB at e
  simp only [Bool.and_eq_true, decide_eq_true_eq] at e
  exact ⟨e.1, e.2.1⟩
theorem fine_walk (A Ar : Option Addr) (c cr : Nat) (h : Hp) (roots : List Int) (most : Nat) (b : Bool) (w : World) (hr : kCl.C w A h.c.length h.c) (hrr : (Kd.int .i64).C w Ar roots.length roots) (e : fineO h roots most = some b) :
    Calls Try.prog 18 #[.agg #[.slice A h.c.length c, .int .i64 h.keep], .slice Ar roots.length cr, .slice none 0 0, .int .i64 most] w fun e w' => e = .returned (.bool b) ∧ Below w.heap.size w w' := by
  obtain ⟨W1, hW1⟩ : ∃ W1, W1 = w.alloc (.cells #[.slice A h.c.length c, .int .i64 h.keep] 24) := ⟨_, rfl⟩
  have HB0 := Aside0.mk (show Below w.heap.size w W1 by rw [hW1]; exact below_alloc (Below.refl _ _) _)
  have HBH := Aside0.mk (show W1.heap[w.heap.size]? = some (.cells #[.slice A h.c.length c, .int .i64 h.keep] 24) by rw [hW1]; exact blk_new w _)
  have hr1 := Kd.C_below hr HB0.out
  have hrr1 := Kd.C_below hrr HB0.out
  have c0 := (blk_cell HBH.out 0).trans (show _ = some (Value.slice A h.c.length c) from rfl)
  have c1 := (blk_cell HBH.out 1).trans (show _ = some (Value.int .i64 h.keep) from rfl)
  have hW1' := Aside0.mk hW1
  unfold fineO at e
  cases hq : may8O h roots most with
  | none => rw [hq] at e; cases e
  | some t =>
    rw [hq] at e
    have HMW := Aside0.mk (fun (W : World) (hb : Below W1.heap.size W1 W) => may08_walk A Ar c cr h roots most t W (Kd.C_below hr1 hb) (Kd.C_below hrr1 hb) hq)
    cases t with
    | false =>
      obtain rfl : false = b := by simpa using e
      clear e hq hr hrr hr1 hrr1 hW1
      go_enter Try.func18, Try.ntmps18
      go_upto_region 1 with (fail)
      rw [← hW1'.out]
      go_wp2_with (first | (go_at_call 54; (with_reducible refine (HMW.out _ (by repeat (first | (with_reducible exact Below.refl _ _) | (with_reducible refine below_alloc ?_ _) | (with_reducible refine below_drew1 ?_) | (with_reducible refine pw_below_drewN ?_ _) | fail))).mono ?_); rintro e w2 ⟨rfl, hb2⟩; have HB2 := Aside0.mk hb2; have d0 := bcell hb2 c0; have d1 := bcell hb2 c1; clear hb2) | fail)
      go_ret
      exact ⟨rfl, below_step HB0.out HB2.out⟩
    | true =>
      obtain rfl : soundB h roots = b := by simpa using e
      obtain ⟨f1, f2, f3, f4⟩ := may8_facts hq
      obtain ⟨f5, f6⟩ := small_facts f1
      obtain ⟨f7, f8⟩ := rightB_len f3
      have HSW := Aside0.mk (fun (W : World) (hb : Below W1.heap.size W1 W) => sound_walk A Ar c cr h roots W (Kd.C_below hr1 hb) (Kd.C_below hrr1 hb) f8 f7 (by omega) (fun i hi => (f6 i hi).1))
      clear e hq hr hrr hr1 hrr1 hW1 f1 f2 f3 f4 f5 f6 f7 f8
      generalize soundB h roots = s at HSW ⊢
      go_enter Try.func18, Try.ntmps18
      go_upto_region 1 with (fail)
      rw [← hW1'.out]
      go_wp2_with (first | (go_at_call 54; (with_reducible refine (HMW.out _ (by repeat (first | (with_reducible exact Below.refl _ _) | (with_reducible refine below_alloc ?_ _) | (with_reducible refine below_drew1 ?_) | (with_reducible refine pw_below_drewN ?_ _) | fail))).mono ?_); rintro e w2 ⟨rfl, hb2⟩; have HB2 := Aside0.mk hb2; have d0 := bcell hb2 c0; have d1 := bcell hb2 c1; clear hb2) | (go_at_call 55; (with_reducible refine (HSW.out _ HB2.out).mono ?_); rintro e w3 ⟨rfl, hb3⟩; have HB3 := Aside0.mk (below_step HB2.out hb3); clear hb3) | fail)
      go_ret
      exact ⟨rfl, below_step HB0.out HB3.out⟩
end Go.Proofs.Ytopkoganfnabgaa.H
namespace Go.Proofs.Ytopkoganfnabgaa.H
theorem small_of {h : Hp} {most : Nat} (hl : h.c.length ≤ most) (H : ∀ p, inB h p = true → (clAt h p).n.it.length ≤ 10 ∧ (clAt h p).ref ≤ 1000000) : smallB h most = true := by
  unfold smallB
  rw [Bool.and_eq_true, decide_eq_true_eq, all_cells]
  refine ⟨hl, fun p hp => ?_⟩
  unfold smallC
  simpa using H p hp
theorem small_ok {h : Hp} {most : Nat} (hs : smallB h most = true) (hr : rightB h = true) : Ok h 1000000 ∧ h.c.length ≤ most := by
  have o := rightB_ok.mp hr
  obtain ⟨a, b⟩ := small_facts hs
  exact ⟨⟨o.l1, o.l2, o.k1, o.k2, o.pos, fun p hp => by obtain ⟨i, rfl, hi⟩ := inB_nat' hp; rw [clAt_nat']; exact (b i hi).2, o.zero, o.pin, o.right, o.plc⟩, a⟩
theorem Ok.it_len {h : Hp} {B : Int} (o : Ok h B) {p : Int} (hp : inB h p = true) : (clAt h p).n.it.length ≤ 4 := by
  by_cases hr : 0 < (clAt h p).ref
  · exact (nodeRight_iff.mp (o.right p (used_iff.mpr ⟨hp, hr⟩))).1
  · have := o.pos p hp
    rw [o.zero p hp (by omega)]; exact Nat.zero_le _
theorem Ok.cut {h : Hp} {B C : Int} (o : Ok h B) (H : ∀ p, inB h p = true → (clAt h p).ref ≤ C) : Ok h C := ⟨o.l1, o.l2, o.k1, o.k2, o.pos, H, o.zero, o.pin, o.right, o.plc⟩
theorem may7_some {h : Hp} {root : Int} (most : Nat) : ∃ b, may7O h root most = some b := by
  unfold may7O
  split
  · rename_i hm
    unfold mayB at hm
    rw [Bool.and_eq_true] at hm
    exact treeO_some (rightB_ok.mp hm.2) root
  · exact ⟨_, rfl⟩
theorem may7_facts {h : Hp} {root : Int} {most : Nat} (e : may7O h root most = some true) : Ok h 1000000 ∧ h.c.length ≤ most ∧ ∃ d l, Rt h root d l := by
  unfold may7O at e
  split at e
  · rename_i hm
    unfold mayB at hm
    rw [Bool.and_eq_true] at hm
    obtain ⟨o, hl⟩ := small_ok hm.1 hm.2
    refine ⟨o, hl, ?_⟩
    rcases treeO_T o e with rfl | ⟨d, l, hd, t⟩
    · exact ⟨0, [], .inl ⟨rfl, rfl, rfl⟩⟩
    · exact ⟨d, l, .inr ⟨hd, t⟩⟩
  · cases e
theorem Rt.tree {h : Hp} {root : Int} {d : Nat} {l : List It} (t : Rt h root d l) : treeO h root = some true := by
  rcases t with ⟨rfl, _⟩ | ⟨hd, t⟩
  · exact T_treeO (.inl rfl)
  · exact T_treeO (.inr ⟨d, l, hd, t⟩)
theorem fine_some {h : Hp} {root : Int} (most : Nat) : ∃ b, fineO h [root] most = some b := by
  have : ∃ b, may8O h [root] most = some b := by
    unfold may8O
    split
    · unfold anyO
      split
      · rename_i hr
        obtain ⟨b, hb⟩ := treeO_some (rightB_ok.mp hr) root
        unfold anyL
        rw [hb]
        cases b <;> simp [anyL]
      · exact ⟨_, rfl⟩
    · exact ⟨_, rfl⟩
  obtain ⟨b, hb⟩ := this
  unfold fineO
  rw [hb]
  cases b <;> simp
/-- A sound heap with a root. -/
structure FP (h : Hp) (root : Int) (d : Nat) (l : List It) : Prop where
  ok : Ok h 8001
  ct : Ct h (one root)
  ht : Hts h
  tr : Rt h root d l
theorem fine_facts {h : Hp} {root : Int} {most : Nat} (e : fineO h [root] most = some true) : h.c.length ≤ most ∧ ∃ d l, FP h root d l := by
  unfold fineO at e
  cases hm : may8O h [root] most with
  | none => rw [hm] at e; cases e
  | some b =>
    rw [hm] at e
    cases b with
    | false => simp at e
    | true =>
      obtain ⟨s1, _, s3, s4⟩ := may8_facts hm
      obtain ⟨o, hl⟩ := small_ok s1 s3
      have hs : soundB h [root] = true := by simpa using e
      have ht : treeO h root = some true := by
        unfold anyL at s4
        cases hq : treeO h root with
        | none => rw [hq] at s4; cases s4
        | some b =>
          rw [hq] at s4
          cases b with
          | true => rfl
          | false => simp at s4
      have : ∃ d l, Rt h root d l := by
        rcases treeO_T o ht with rfl | ⟨d, l, hd, t⟩
        · exact ⟨0, [], .inl ⟨rfl, rfl, rfl⟩⟩
        · exact ⟨d, l, .inr ⟨hd, t⟩⟩
      obtain ⟨d, l, t⟩ := this
      obtain ⟨c, hh⟩ := sound_in o hs t
      exact ⟨hl, d, l, o.cut fun p hp => ct_small o c hp, c, hh, t⟩
theorem FP.fine {h : Hp} {root : Int} {d : Nat} {l : List It} (f : FP h root d l) {most : Nat} (hl : h.c.length ≤ most) : fineO h [root] most = some true := by
  have hs := sound_out f.ok f.ct f.ht
  have h1 : smallB h most = true := small_of hl fun p hp => ⟨by have := f.ok.it_len hp; omega, by have := f.ok.le p hp; omega⟩
  have h2 : rightB h = true := rightB_ok.mpr (f.ok.wide (by decide))
  unfold fineO may8O anyO anyL
  rw [h1, h2, f.tr.tree, hs]
  rfl
/-- What a put comes to in a sound heap. -/
theorem FP.put {h : Hp} {root : Int} {d : Nat} {l : List It} (f : FP h root d l) (key val : Int) (deep : Bool) :
    ∃ g p e, putO 25 h root key val deep = some (g, p, e) ∧
      ((e = 1 ∧ g = h ∧ p = root ∧ ¬ (fitsB key = true ∧ fitsB val = true)) ∨
       (e = 3 ∧ g = h ∧ p = root ∧ (fitsB key = true ∧ fitsB val = true) ∧ ¬ (fitsH h (2 * (d : Int) + 1) deep = true ∧ d < 20)) ∨
       (e = 0 ∧ (fitsB key = true ∧ fitsB val = true) ∧ (fitsH h (2 * (d : Int) + 1) deep = true ∧ d < 20) ∧ 0 ≤ p ∧ g.c.length = h.c.length ∧ g.keep = h.keep ∧ freeN h ≤ freeN g + (2 * d + 1) ∧ freeN g + max d 1 ≤ freeN h ∧ ∃ d', (d' = d ∨ d' = d + 1) ∧ FP g p d' (ins l ⟨key, val⟩))) := by
  obtain ⟨g, p, e, h1, h2⟩ := put_spec key val deep f.ok (by decide) (by decide) f.tr
  refine ⟨g, p, e, h1, ?_⟩
  rcases h2 with h2 | h2 | ⟨a, b, c, k⟩
  · exact .inl h2
  · exact .inr (.inl h2)
  · obtain ⟨x, y, d', z1, z2, z3⟩ := k.fine f.ct f.ht
    exact .inr (.inr ⟨a, b, c, k.pos, k.len, k.keep, k.lo, k.hi, d', z1, ⟨k.ok.cut fun q hq => ct_small k.ok x hq, x, y, .inr ⟨z2, z3⟩⟩⟩)
end Go.Proofs.Ytopkoganfnabgaa.H
namespace Go.Proofs.Ytopkoganfnabgaa.H
open Go.RowKit Go.Proofs.YtopkoganfnabgaaW.PrintWords Go.Proofs.YtopkoganfnabgaaW.PrintLast Go.Proofs.YtopkoganfnabgaaW.PrintMore
attribute [local go_sem] max2_int min2_int max_two min_two max_three min_three max_four min_four
set_option linter.unusedVariables false
set_option linter.unusedSimpArgs false
theorem one_int (W : World) (x : Int) : (Kd.int .i64).C (W.alloc (.cells #[.int .i64 x] 3)) (some ⟨W.heap.size, 0, none⟩) 1 [x] := by
  refine ⟨rfl, by decide, fun _ => ⟨_, rfl, fun j p hj => ?_⟩⟩
  have hj0 : j = 0 := by
    have := (List.getElem?_eq_some_iff.1 hj).1
    simp at this
    exact this
  subst hj0
  cases hj
  refine ⟨[.int .i64 x], rfl, rfl, fun i u hu => ?_⟩
  have hi : i = 0 := by
    have := (List.getElem?_eq_some_iff.1 hu).1
    simpa using this
  subst hi
  rw [show (({ block := W.heap.size, off := 0 } : Addr).add (0 * (Kd.int .i64).sz + 0)) = ⟨W.heap.size, 0, none⟩ from rfl, blk_cell (blk_new W _) 0]
  exact hu
/-- Where a law of grow stands behind its first regions. -/
structure LwSt (w W : World) (A : Option Addr) (c : Nat) (h : Hp) (x : It) (n : Nat) : Prop where
  b0 : Below w.heap.size w W
  hh : W.heap[w.heap.size + n]? = some (.cells #[.slice A h.c.length c, .int .i64 h.keep] 24 (0, 0))
  hx : W.heap[w.heap.size + n + 1]? = some (.cells #[.int .i64 x.k, .int .i64 x.v] 26 (0, 0))
  cl : kCl.C W A h.c.length h.c
theorem LwSt.step {w W W' : World} {A : Option Addr} {c : Nat} {h : Hp} {x : It} {n : Nat} (s : LwSt w W A c h x n) (hb : Below W.heap.size W W') : LwSt w W' A c h x n := ⟨below_step s.b0 hb, blk_below s.hh hb, blk_below s.hx hb, Kd.C_below s.cl hb⟩
end Go.Proofs.Ytopkoganfnabgaa.H
namespace Go.Proofs.Ytopkoganfnabgaa.H
open Go.RowKit Go.Proofs.YtopkoganfnabgaaW.PrintWords Go.Proofs.YtopkoganfnabgaaW.PrintLast Go.Proofs.YtopkoganfnabgaaW.PrintMore
attribute [local go_sem] max2_int min2_int max_two min_two max_three min_three max_four min_four
set_option linter.unusedVariables false
set_option linter.unusedSimpArgs false
/-- A box that holds a heap. -/
structure Bx (W : World) (s : Nat) (B : Option Addr) (cb : Nat) (g : Hp) : Prop where
  bx : W.heap[s]? = some (.cells #[.slice B g.c.length cb, .int .i64 g.keep] 24 (0, 0))
  cl : kCl.C W B g.c.length g.c
  le : g.c.length ≤ cb
theorem Bx.step {W W' : World} {s : Nat} {B : Option Addr} {cb : Nat} {g : Hp} (b : Bx W s B cb g) (hb : Below W.heap.size W W') : Bx W' s B cb g := ⟨blk_below b.bx hb, Kd.C_below b.cl hb, b.le⟩
theorem Bx.new {W : World} {B : Option Addr} {cb : Nat} {g : Hp} (hc : kCl.C W B g.c.length g.c) (hl : g.c.length ≤ cb) : Bx (W.alloc (.cells #[.slice B g.c.length cb, .int .i64 g.keep] 24)) W.heap.size B cb g := ⟨blk_new W _, Kd.C_alloc hc _, hl⟩
theorem Bx.c0 {W : World} {s : Nat} {B : Option Addr} {cb : Nat} {g : Hp} (b : Bx W s B cb g) : W.cell? ⟨s, 0, none⟩ = some (.slice B g.c.length cb) := (blk_cell b.bx 0).trans rfl
theorem Bx.c1 {W : World} {s : Nat} {B : Option Addr} {cb : Nat} {g : Hp} (b : Bx W s B cb g) : W.cell? ⟨s, 1, none⟩ = some (.int .i64 g.keep) := (blk_cell b.bx 1).trans rfl
/-- A box that holds an item. -/
structure Ix (W : World) (s : Nat) (x : It) : Prop where
  bx : W.heap[s]? = some (.cells #[.int .i64 x.k, .int .i64 x.v] 26 (0, 0))
theorem Ix.step {W W' : World} {s : Nat} {x : It} (b : Ix W s x) (hb : Below W.heap.size W W') : Ix W' s x := ⟨blk_below b.bx hb⟩
theorem Ix.c0 {W : World} {s : Nat} {x : It} (b : Ix W s x) : W.cell? ⟨s, 0, none⟩ = some (.int .i64 x.k) := (blk_cell b.bx 0).trans rfl
theorem Ix.c1 {W : World} {s : Nat} {x : It} (b : Ix W s x) : W.cell? ⟨s, 1, none⟩ = some (.int .i64 x.v) := (blk_cell b.bx 1).trans rfl
structure TwSt (w W : World) (A : Option Addr) (c : Nat) (h : Hp) (x y : It) : Prop where
  b0 : Below w.heap.size w W
  hh : Bx W (w.heap.size + 1) A c h
  hx : Ix W (w.heap.size + 1 + 1) x
  hy : Ix W (w.heap.size + 1 + 1 + 1) y
theorem TwSt.step {w W W' : World} {A : Option Addr} {c : Nat} {h : Hp} {x y : It} (s : TwSt w W A c h x y) (hb : Below W.heap.size W W') : TwSt w W' A c h x y := ⟨below_step s.b0 hb, s.hh.step hb, s.hx.step hb, s.hy.step hb⟩
abbrev FineC (A : Option Addr) (c : Nat) (h : Hp) (root : Int) (most : Int) (b : Bool) : Prop := ∀ (W : World) (Ar : Option Addr), (Kd.int .i64).C W Ar 1 [root] → kCl.C W A h.c.length h.c → Calls Try.prog 18 #[.agg #[.slice A h.c.length c, .int .i64 h.keep], .slice Ar 1 1, .slice none 0 0, .int .i64 most] W fun e w' => e = .returned (.bool b) ∧ Below W.heap.size W w'
theorem fineC {A : Option Addr} {c : Nat} {h : Hp} {root : Int} {b : Bool} (most : Nat) (hb : fineO h [root] most = some b) : FineC A c h root most b := fun W Ar hrr hcl => fine_walk A Ar c 1 h [root] most b W hcl hrr hb
end Go.Proofs.Ytopkoganfnabgaa.H
