import Derived.Test.YtgjjcgemelafaaaDevU
import Derived.Test.YtgjjcgemelafaaaPx17
import Derived.Test.YtgjjcgemelafaaaPx18
import Derived.Test.YtgjjcgemelafaaaPx19
namespace Go.Proofs.Ytgjjcgemelafaaa.P
open Go.RowKit Go.Proofs.YtgjjcgemelafaaaW.PrintWords Go.Proofs.YtgjjcgemelafaaaW.PrintLast Go.Proofs.YtgjjcgemelafaaaW.PrintMore
set_option linter.unusedVariables false
set_option linter.unusedSimpArgs false
theorem tmod_nat {x : Int} {n : Nat} (hx : 0 ≤ x) (hn : 0 < n) : ∃ j : Nat, x.tmod (n : Int) = (j : Int) ∧ j < n := by
  obtain ⟨m, rfl⟩ := Int.eq_ofNat_of_zero_le hx
  exact ⟨m % n, by rw [Int.tmod_eq_emod_of_nonneg (by omega)]; rfl, Nat.mod_lt _ hn⟩
theorem rdOf_set (F : List ByteArray) (j : Nat) (hj : j < F.length) (u : ByteArray) : rdOf ByteArray.empty (F.set j u) (j : Int) = u := by
  simp [rdOf, List.getD_eq_getElem?_getD, hj]
theorem twice_all (A0 : Option Addr) (c0 : Nat) (l0 : List ByteArray) (A1 : Option Addr) (c1 : Nat) (l1 : List S79) (x : Int) (s t : ByteArray) (k0 k1 : Bool) (w : World)
    (hr0 : Kd.C Kd.string w A0 l0.length l0) (hc0 : l0.length ≤ c0) (hr1 : Kd.C k79 w A1 l1.length l1) (hc1 : l1.length ≤ c1) (hx : 0 ≤ x ∧ x ≤ 255) :
    Calls Try.prog 12 #[.agg #[.slice A0 l0.length c0, .slice A1 l1.length c1, .int .u8 x, .string s, .string t, .bool k0, .bool k1]] w fun e w' => e = .returned (.bool true) ∧ Below w.heap.size w w' := by
  obtain ⟨K0, e0⟩ := ev_shown
  obtain ⟨sm, ⟨K1, e1⟩, q1⟩ := ev_small l0 l1 60 (by decide)
  by_cases hm : sm = true
  · subst hm
    obtain ⟨ha, hb⟩ := q1 rfl
    obtain ⟨K2, e2⟩ := ev_right l0 l1 (by omega)
    by_cases hy : (rightB l0 l1 && (decide (s.size = 40) && decide (t.size = 40))) = true
    · simp only [Bool.and_eq_true, decide_eq_true_eq] at hy
      obtain ⟨hr, hs, ht⟩ := hy
      obtain ⟨r1, r2, r3, r4⟩ := rightB_iff hr
      obtain ⟨j, hj, hjl⟩ := tmod_nat hx.1 (show 0 < l0.length by omega)
      have hFl : (layF l0 l1).length = l0.length := layF_length _ _
      have hFr := right_layF hr
      have hF := dflush_eq hr
      generalize layF l0 l1 = F at hFl hFr hF
      have f1 : fitsB F.length (⟨j, s⟩ : S79) = true := by simp [fitsB]; omega
      have f2 : fitsB F.length (⟨j, t⟩ : S79) = true := by simp [fitsB]; omega
      have g1 : rightB F [(⟨j, s⟩ : S79)] = true := right_snoc hFr f1
      have g2 : rightB F [(⟨j, s⟩ : S79), ⟨j, t⟩] = true := right_snoc g1 f2
      have hjF : j < F.length := by omega
      obtain ⟨K3, e3⟩ := ev_same_true (a := F) (b := []) (c := F) (d := []) (by omega) (by simp) rfl rfl
      obtain ⟨K4, e4⟩ := ev_same_true (a := F.set j s) (b := []) (c := F.set j s) (d := []) (by simp; omega) (by simp) rfl rfl
      have p1 : disk_Put.f F [] (j : Int) s = some (F, [⟨j, s⟩], 0) := by rw [dput_eq _ _ (by simp)]; unfold putF; rw [if_pos f1]; rfl
      have p2 : disk_Put.f F [⟨j, s⟩] (j : Int) t = some (F, [⟨j, s⟩, ⟨j, t⟩], 0) := by rw [dput_eq _ _ (by simp)]; unfold putF; rw [if_pos f2]; rfl
      have rd : disk_Read.f F [⟨j, s⟩, ⟨j, t⟩] (j : Int) = some (t, 0) := by
        rw [dread_eq]
        unfold readF
        rw [if_pos (by omega)]
        simp [lastN]
      refine twice_walk (K0 + K1 + K2 + K3 + K4) A0 c0 l0 A1 c1 l1 x s t k0 k1 w hr0 hc0 hr1 hc1 hx (e0 _ (by omega)) (e1 _ (by omega)) (by rw [← hr]; exact e2 _ (by omega)) hs ht F hF hFl (by omega) j hj hjl
        (layF F (keptL (fun i => [k0, k1].getD i false) [⟨j, s⟩, ⟨j, t⟩] 0)) (dcrash_eq g2 _) (by rw [layF_length, hFl]) (F.set j s) ?_ ?_ ?_ ?_ (e3 _ (by omega)) (e4 _ (by omega)) rd p1 p2
      · cases k0 <;> cases k1 <;> simp [keptL, layF, rdOf_set, hjF]
      · rw [dcrash_eq g2]; rfl
      · rw [dcrash_eq g2]; rfl
      · rw [dflush_eq g1]; rfl
    · refine twice_up (K0 + K1 + K2) A0 c0 l0 A1 c1 l1 x s t k0 k1 w hr0 hc0 hr1 hc1 (e0 _ (by omega)) true (rightB l0 l1) (decide (s.size = 40)) (decide (t.size = 40)) (e1 _ (by omega)) (fun _ => e2 _ (by omega)) rfl rfl ?_
      simpa using hy
  · obtain rfl : sm = false := by simpa using hm
    exact twice_up (K0 + K1) A0 c0 l0 A1 c1 l1 x s t k0 k1 w hr0 hc0 hr1 hc1 (e0 _ (by omega)) false true (decide (s.size = 40)) (decide (t.size = 40)) (e1 _ (by omega)) (fun h => by cases h) rfl rfl rfl
end Go.Proofs.Ytgjjcgemelafaaa.P
