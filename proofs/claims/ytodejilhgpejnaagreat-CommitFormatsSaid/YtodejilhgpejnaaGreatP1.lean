import Derived.Test.YtodejilhgpejnaaGreatP0
import Derived.Shelf.Abstract
namespace Go.Proofs.YtodejilhgpejnaaGreat.Q
open Go.RowKit Go.Proofs.YtodejilhgpejnaaGreatW.PrintWords Go.Proofs.YtodejilhgpejnaaGreatW.PrintLast Go.Proofs.YtodejilhgpejnaaGreatW.PrintMore
attribute [local go_sem] max2_int min2_int max_two min_two max_three min_three max_four min_four
set_option linter.unusedVariables false
set_option linter.unusedSimpArgs false
/-- The rounds of a binary search. -/
def bsF (p : Nat → Bool) : Nat → Nat → Nat → Nat
  | 0, i, _ => i
  | k + 1, i, j => if i < j then (if p ((i + j) / 2) = true then bsF p k i ((i + j) / 2) else bsF p k ((i + j) / 2 + 1) j) else i
theorem u64_small (n : Int) (h : 0 ≤ n ∧ n ≤ 2000000) : IntKind.u64.wrap n = n := IntWalk.u64_in n ⟨h.1, Int.le_trans h.2 (by decide)⟩
set_option maxHeartbeats 2000000 in
theorem sort_Search.walk (n g : Nat) (lb : Array Value) (eg : ∀ args w, (callFunc g args).run Tryz.prog w = .ok (.enter g args) w) (p : Nat → Bool) (w : World) (hn : n ≤ 1000000)
    (hp : ∀ (W : World) (i : Nat), i < n → Below w.heap.size w W → Calls Tryz.prog g (#[.int .i64 (i : Int)] ++ lb) W fun e w' => e = .returned (.bool (p i)) ∧ Below w.heap.size w w') :
    Calls Tryz.prog 34 #[.int .i64 (n : Int), .func (.func g) #[] lb] w fun e w' => e = .returned (.int .i64 (bsF p n 0 n : Int)) ∧ Below w.heap.size w w' := by
  have HP := Aside0.mk hp
  clear hp
  go_enter Tryz.func34, Tryz.ntmps34
  go_wp2
  go_loopg [5, 6] n (fun gg s5 s6 wr => ∃ a b : Nat, s5 = .int .i64 a ∧ s6 = .int .i64 b ∧ b ≤ n ∧ b - a ≤ gg ∧ Aside0 (bsF p gg a b = bsF p n 0 n) ∧ Aside0 (Below w.heap.size w wr))
  case atStart => exact ⟨0, n, rfl, rfl, Nat.le_refl _, by omega, ⟨rfl⟩, ⟨Below.refl _ w⟩⟩
  case round =>
    obtain ⟨a, b, rfl, rfl, hb, hg, HA, HB⟩ := hrel
    by_cases hlt : a < b
    · have c1 : decide (a < b) = true := decide_eq_true hlt
      have c2 : (a < b) = True := eq_true hlt
      obtain ⟨h, hh⟩ : ∃ h, h = (a + b) / 2 := ⟨_, rfl⟩
      have hz0 : 0 ≤ (a : Int) + (b : Int) ∧ (a : Int) + (b : Int) ≤ 2000000 := by omega
      have hz1 : wrap64 ((a : Int) + (b : Int)) = (a : Int) + (b : Int) := by unfold wrap64; omega
      have hz3 : ((a : Int) + (b : Int)) / 2 = (h : Int) := by rw [hh]; omega
      have hz4 : wrap64 (h : Int) = (h : Int) := by unfold wrap64; omega
      have hha : a ≤ h := by omega
      have hhb : h < b := by omega
      have hcall := HP.out wr h (by omega) HB.out
      have hA := HA.out
      cases gk with
      | zero => omega
      | succ gk =>
      rw [bsF, if_pos hlt, ← hh] at hA
      have HZ5 : Aside0 (wrap64 ((h : Int) + 1) = ((h + 1 : Nat) : Int)) := ⟨by unfold wrap64; omega⟩
      have HK := Aside0.mk (And.intro hha (And.intro hhb (And.intro hb hg)))
      clear hh hha hhb hg HA
      have hz2 : IntKind.u64.wrap ((a : Int) + (b : Int)) = (a : Int) + (b : Int) := u64_small _ hz0
      clear hz0
      cases hq : p h with
      | true =>
        rw [hq, if_pos rfl] at hA
        rw [hq] at hcall
        have HA := Aside0.mk hA
        clear hA hlt
        go_wp2
        refine hcall.mono ?_
        rintro e w' ⟨rfl, hb'⟩
        go_wp2
        clear hz1 hz2 hz3 hz4
        go_roundg gk
        case measure => omega
        case rel => exact ⟨a, h, rfl, by simp, by have := HK.out; omega, by have := HK.out; omega, HA, ⟨hb'⟩⟩
      | false =>
        rw [hq, if_neg (by decide)] at hA
        rw [hq] at hcall
        have HA := Aside0.mk hA
        clear hA hlt
        go_wp2
        refine hcall.mono ?_
        rintro e w' ⟨rfl, hb'⟩
        go_wp2
        clear hz1 hz2 hz3 hz4
        go_roundg gk
        case measure => omega
        case rel => exact ⟨h + 1, b, by rw [HZ5.out], rfl, by have := HK.out; omega, by have := HK.out; omega, HA, ⟨hb'⟩⟩
    · have c1 : decide (a < b) = false := decide_eq_false hlt
      have c2 : (a < b) = False := eq_false hlt
      have hA := HA.out
      have e : bsF p gk a b = a := by cases gk with | zero => rfl | succ k => rw [bsF, if_neg hlt]
      rw [e] at hA
      have HA2 := Aside0.mk hA
      clear hA e hlt HA
      go_wp2
      go_ret
      exact ⟨by rw [← HA2.out]; rfl, HB.out⟩
theorem bcell {W w1 : World} (hb : Below W.heap.size W w1) {b o : Nat} {v : Value} (h : W.cell? ⟨b, o, none⟩ = some v) : w1.cell? ⟨b, o, none⟩ = some v := (hb.cell (p := ⟨b, o, none⟩) (World.block_lt_of_cell? W _ h)).trans h
theorem below_drewN' (w : World) (n : Nat) : Below w.heap.size w (w.drewN n) := pw_below_drewN (Below.refl _ _) n
theorem ret_b {a b : Bool} (h : a = b) : Ending.returned (.bool a) = .returned (.bool b) := by rw [h]
def overB (blocks i : Nat) : Bool := decide (blocks < baseF (i + 1) + i + 1)
set_option maxHeartbeats 1000000 in
theorem over_walk (blocks i b : Nat) (w : World) (hi : i < 2000) (hb : blocks ≤ 1000000) (hc : w.cell? ⟨b, 0, none⟩ = some (.int .i64 blocks)) :
    Calls Tryz.prog 35 #[.int .i64 i, .pointer (some ⟨b, 0, none⟩)] w fun e w' => e = .returned (.bool (overB blocks i)) ∧ Below w.heap.size w w' := by
  obtain ⟨r, hr⟩ : ∃ r, overB blocks i = r := ⟨_, rfl⟩
  rw [hr]
  have hB : baseF (i + 1) ≤ 100000 := by unfold baseF areaF; omega
  have HB := Aside0.mk (show i + 1 ≤ 100000 by omega)
  have e1 : wrap64 ((i : Int) + 1) = ((i + 1 : Nat) : Int) := by unfold wrap64; omega
  obtain ⟨B, hBB⟩ : ∃ B, baseF (i + 1) = B := ⟨_, rfl⟩
  have e2 : wrap64 ((B : Int) + (i : Int)) = ((B + i : Nat) : Int) := by unfold wrap64; omega
  have e3 : wrap64 (((B + i : Nat) : Int) + 1) = ((B + i + 1 : Nat) : Int) := by unfold wrap64; omega
  have e4 : decide (blocks < B + i + 1) = r := by rw [← hr, ← hBB]; rfl
  have HCALL := Aside0.mk (fun (W : World) => (base_walk (i + 1) W (by omega)).mono (R' := fun e w' => e = .returned (.int .i64 (B : Int)) ∧ w' = W) (fun e w' h => ⟨by rw [h.1, hBB], h.2.symm⟩))
  clear hB hBB hr hi hb HB
  go_enter Tryz.func35, Tryz.ntmps35
  go_wp2_with fail
  go_quiet ((go_at_call 36; exact Calls.quiet_of_same (HCALL.out _)))
  all_goals
    go_wp2
    go_ret
    exact ⟨ret_b (by rw [← e4, show wrap64 ((B : Int) + (i : Int) + 1) = ((B + i + 1 : Nat) : Int) by rw [← e3]; rfl]; exact decide_eq_decide.2 (by omega)), below_drewN' _ _⟩
/-- How many cells a disk of so many blocks has room for. -/
def cellsF (blocks : Nat) : Nat := bsF (overB blocks) 2000 0 2000
set_option maxHeartbeats 1000000 in
theorem cells_walk (blocks : Nat) (w : World) (hb : blocks ≤ 1000000) : Calls Tryz.prog 16 #[.int .i64 blocks] w fun e w' => e = .returned (.int .i64 (cellsF blocks : Nat)) ∧ Below w.heap.size w w' := by
  have HB := Aside0.mk hb
  have hs := (sort_Search.walk 2000 35 #[.pointer (some ⟨w.heap.size, 0, none⟩)] (enters_of Tryz.func35 (by kernel_rfl) rfl) (overB blocks) (w.alloc (.cells #[.int .i64 blocks] 3)) (by decide)
    (fun W i hi hW => (over_walk blocks i w.heap.size W hi hb (bcell hW ((blk_cell (blk_new _ _) 0).trans rfl))).mono (fun e w' h => ⟨h.1, below_step hW h.2⟩)))
  rw [show ((2000 : Nat) : Int) = 2000 from rfl] at hs
  have HS := Aside0.mk hs
  clear hb hs
  go_enter Tryz.func16, Tryz.ntmps16
  go_wp2_with (go_at_call 34; (with_reducible refine HS.out.mono ?_); rintro e w1 ⟨rfl, hb⟩; have HB1 := Aside0.mk hb; clear hb)
  go_ret
  exact ⟨rfl, below_step (below_alloc (Below.refl _ _) _) HB1.out⟩
end Go.Proofs.YtodejilhgpejnaaGreat.Q
