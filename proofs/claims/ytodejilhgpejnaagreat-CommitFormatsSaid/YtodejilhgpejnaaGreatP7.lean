import Derived.Test.YtodejilhgpejnaaGreatPR
import Derived.Test.YtodejilhgpejnaaGreatP6
namespace Go.Proofs.YtodejilhgpejnaaGreat.Q
open Go.RowKit Go.Proofs.YtodejilhgpejnaaGreatW.PrintWords Go.Proofs.YtodejilhgpejnaaGreatW.PrintLast Go.Proofs.YtodejilhgpejnaaGreatW.PrintMore
attribute [local go_sem] max2_int min2_int max_two min_two max_three min_three max_four min_four
set_option linter.unusedVariables false
set_option linter.unusedSimpArgs false
attribute [local go_sem] Oper.semAt_some
def intOf2 : Value → Int | .int _ q => q | _ => 0
/-- The k-th piece of a row of n. -/
def pieceV (A : Option Addr) (n k : Nat) : Value := .slice (A.map (·.add (40 * k))) (min 40 (n - 40 * k)) (min 40 (n - 40 * k))
def piecesN (n : Nat) : Nat := (n + 39) / 40
theorem range_pre (a b : Nat) (h : a < b) : List.range (a + 1) <+: List.range b := by
  obtain ⟨d, rfl⟩ : ∃ d, b = (a + 1) + d := ⟨b - (a + 1), by omega⟩
  exact ⟨(List.range d).map ((a + 1) + ·), List.range_add.symm⟩
set_option maxHeartbeats 2000000 in
set_option maxRecDepth 100000 in
theorem chunkIter (m : Nat) (Bs : Nat) (A : Option Addr) (n c : Nat) (w : World) (hlt : Bs + 1 < w.heap.size) (hn : n ≤ 100000) (hc : n ≤ c) (hcm : c ≤ 9223372036854775807)
    (c0 : w.heap[Bs]? = some (.cells #[.slice A n c] 83 (0, 0))) (c1 : w.heap[Bs + 1]? = some (.cells #[.int .i64 40] 3 (0, 0))) :
    SeqSt Fence.wide m Tryz.prog 114 #[.pointer (some ⟨Bs, 0, none⟩), .pointer (some ⟨Bs + 1, 0, none⟩)] (fun k : Nat => #[pieceV A n k])
      (fun A B => B.heap[Bs]? = A.heap[Bs]? ∧ B.heap[Bs + 1]? = A.heap[Bs + 1]?) (fun A B => ∃ q, B = A.drewN q) (fun xs => xs = List.range (piecesN n)) (fun xs => xs <+: List.range (piecesN n)) (piecesN n) w := by
  intro l J Jx W hb hsz2 hJ hJx hJs hY h0
  have hro : Fence.wide.round = none := rfl
  refine callsIn_of_wp Tryz.func114 rfl trivial ?_ hro
  simp only [Tryz.ntmps114, List.size_toArray, List.length_cons, List.length_nil, Nat.reduceAdd, Nat.reduceSub, Array.replicate_succ, Array.replicate_zero, List.push_toArray, List.append_toArray, List.nil_append, List.cons_append]
  have HC0 := Aside0.mk ((hb.block Bs (by omega)).trans c0)
  have HC1 := Aside0.mk ((hb.block (Bs + 1) hlt).trans c1)
  have HN := Aside0.mk (And.intro hn (And.intro hc hcm))
  have HLT := Aside0.mk hlt
  clear c0 c1 hb hn hc hcm hlt
  gi_wp2
  gi_loopw [4] (fun v4 wr => ∃ k : Nat, v4 = .int .i64 ((40 * k : Nat) : Int) ∧ k ≤ piecesN n ∧ J (List.range k) wr ∧ wr.heap[Bs]? = some (.cells #[.slice A n c] 83 (0, 0)) ∧ wr.heap[Bs + 1]? = some (.cells #[.int .i64 40] 3 (0, 0)))
    (fun v4 _ => (100040 - intOf2 v4).toNat)
  case atStart => exact ⟨0, rfl, Nat.zero_le _, h0, HC0.out, HC1.out⟩
  case round =>
    clear HC0 HC1
    obtain ⟨k, rfl, hk, hj, a0, a1⟩ := hrel
    have d0 := (blk_cell a0 0).trans (show _ = some (Value.slice A n c) from rfl)
    have d1 := (blk_cell a1 0).trans (show _ = some (Value.int .i64 40) from rfl)
    have A0 := Aside0.mk a0
    have A1 := Aside0.mk a1
    clear a0 a1
    obtain ⟨i, hi⟩ : ∃ i, 40 * k = i := ⟨_, rfl⟩
    rw [hi]
    have HI := Aside0.mk hi
    have HK := Aside0.mk hk
    clear hi hk
    by_cases hlt : i < n
    · have q1 : (i < n) = True := eq_true hlt
      have q2 : decide (i < n) = true := decide_eq_true hlt
      have q3 : decide ((i : Int) < (n : Int)) = true := decide_eq_true (by omega)
      have q4 : (c = i) = False := eq_false (by have := HN.out; omega)
      have q5 : (i ≤ n) = True := eq_true (by omega)
      gi_wp2
      gi_quiet (fail)
      obtain ⟨e, he⟩ : ∃ e, e = min 40 (n - i) := ⟨_, rfl⟩
      rw [show (if ((n - i : Nat) : Int) < 40 then ((n - i : Nat) : Int) else 40) = (e : Int) by rw [he]; split <;> omega]
      have hm : k < piecesN n := by have := HI.out; unfold piecesN; omega
      have HW := Aside0.mk (show wrap64 ((i : Int) + 40) = ((40 * (k + 1) : Nat) : Int) by have := HN.out; have := HI.out; unfold wrap64; omega)
      have HM := Aside0.mk (show k + 1 ≤ piecesN n from hm)
      have HI2 := Aside0.mk (show i < 100000 by have := HN.out; omega)
      have hr : List.range (k + 1) = List.range k ++ [k] := List.range_succ
      have hj2 : J (List.range k) (wr.drewN nq) := hJs _ _ _ hj ⟨nq, rfl⟩
      obtain ⟨fn, tmps, assign, body, hyl, hRn⟩ := hY (List.range k) k (wr.drewN nq) hj2 (by simpa using hm) (by rw [← hr]; exact range_pre _ _ hm)
      rw [← hr] at hRn
      have hA0 := A0.out
      have hA1 := A1.out
      have pv : pieceV A n k = .slice (A.map (·.add i)) e e := by unfold pieceV; rw [HI.out, he]
      rw [pv] at hyl
      have r5 : ((i : Int) + (e : Int) ≤ (c : Int)) = True := eq_true (by have := HN.out; omega)
      have r6 : (0 ≤ (i : Int) + (e : Int)) = True := eq_true (by omega)
      have r1 : wrap64 ((i : Int) + (e : Int)) = (i : Int) + (e : Int) := by have := HN.out; unfold wrap64; omega
      have r7 : ((i : Int) + (e : Int)).toNat = i + e := by omega
      have r8 : (i + e = i) = False := eq_false (by omega)
      have r2 : (e = 0) = False := eq_false (by omega)
      have r3 : (i ≤ i + e) = True := eq_true (by omega)
      have r4 : (i + e ≤ c) = True := eq_true (by have := HN.out; omega)
      have HE := Aside0.mk he
      clear he hm hr pv hlt
      gi_wp2_with fail
      refine ⟨(fun h => by cases h), ?_⟩
      refine hRn.mono ?_
      rintro e2 W3 (⟨rfl, hJ3, hk3⟩ | ⟨rfl, hJx3⟩)
      · have a0 : W3.heap[Bs]? = some (.cells #[.slice A n c] 83 (0, 0)) := hk3.1.trans A0.out
        have a1 : W3.heap[Bs + 1]? = some (.cells #[.int .i64 40] 3 (0, 0)) := hk3.2.trans A1.out
        have d1 := (blk_cell a1 0).trans (show _ = some (Value.int .i64 40) from rfl)
        have B0 := Aside0.mk a0
        have B1 := Aside0.mk a1
        clear a0 a1 hk3 d0
        gi_wp2
        go_roundw
        case rel => exact ⟨k + 1, by rw [HW.out], HM.out, hJ3, B0.out, B1.out⟩
        case measure => rw [HW.out]; have := HI2.out; have := HI.out; simp only [intOf2]; omega
      · gi_wp2
        refine bodyPost_ret (results_none rfl _ _ _) rfl ?_
        exact ⟨⟨_, rfl⟩, .inr ⟨List.range (k + 1), range_pre _ _ HM.out, hJx3⟩⟩
    · have q2 : decide (i < n) = false := decide_eq_false hlt
      have q3 : decide ((i : Int) < (n : Int)) = false := decide_eq_false (by omega)
      have hkk : k = piecesN n := by have := HI.out; have := HK.out; unfold piecesN at *; omega
      have HKK := Aside0.mk hkk
      clear hkk hlt
      gi_wp2
      refine bodyPost_end (results_none rfl _ _ _) rfl ?_
      exact ⟨⟨_, rfl⟩, .inl ⟨List.range k, by rw [HKK.out], hj⟩⟩
end Go.Proofs.YtodejilhgpejnaaGreat.Q
