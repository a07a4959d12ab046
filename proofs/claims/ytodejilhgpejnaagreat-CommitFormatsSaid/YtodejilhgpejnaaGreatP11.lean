import Derived.Test.YtodejilhgpejnaaGreatP10
namespace Go.Proofs.YtodejilhgpejnaaGreat.Q
open Go.RowKit Go.Proofs.YtodejilhgpejnaaGreatW.PrintWords Go.Proofs.YtodejilhgpejnaaGreatW.PrintLast Go.Proofs.YtodejilhgpejnaaGreatW.PrintMore
attribute [local go_sem] max2_int min2_int max_two min_two max_three min_three max_four min_four
set_option linter.unusedVariables false
set_option linter.unusedSimpArgs false
attribute [-go_sem] Builtin.append_
/-- Forty zero bytes. -/
def zero40 : ByteArray := strOfNums (List.replicate 40 0)
def zB (n : Nat) : Array Value := (List.replicate n (Value.int .u8 0)).toArray
theorem zrow_C (w : World) (n : Nat) (hn : n ≤ 9223372036854775807) : Kd.C (Kd.int .u8) (w.alloc (.cells (zB n) 5)) (some ⟨w.heap.size, 0, none⟩) n (List.replicate n 0) := by
  have h := C_cells (w.alloc (.cells (zB n) 5)) w.heap.size (List.replicate n 0) (0, 0) (by rw [List.map_replicate]; exact blk_new w (.cells (zB n) 5)) (by simpa using hn)
  simpa using h
set_option maxHeartbeats 2000000 in
set_option maxRecDepth 100000 in
theorem new_walk (n : Nat) (w : World) (h1 : 1 ≤ n) (h2 : n ≤ 4000) : Calls Tryz.prog 18 #[.int .i64 n] w fun e w' => ∃ A c, e = .returned (.tuple #[.agg #[.slice A n c, .slice none 0 0], .int .i64 0]) ∧ n ≤ c ∧ Kd.C Kd.string w' A n (List.replicate n zero40) ∧ Below w.heap.size w w' := by
  have hm : ∀ w : World, (Instr.makeSlice 83 (.int .i64 40) (.int .i64 40)).run Tryz.prog w = .ok (.slice (some ⟨w.heap.size, 0, none⟩) 40 40) (w.alloc (.cells (zB 40) 5)) := fun w => by kernel_rfl
  have hcv : ∀ w : World, (convert 83 9 (.slice (some ⟨w.heap.size, 0, none⟩) 40 40)).run Tryz.prog (w.alloc (.cells (zB 40) 5)) = .ok (.string zero40) (w.alloc (.cells (zB 40) 5)) := fun w => Kd.C_string Tryz.underlying83 Tryz.underlying5 Tryz.underlying9 (zrow_C w 40 (by decide))
  have hcv2 := hcv ((w.alloc (.cells #[.slice none 0 0, .slice none 0 0] 26)).alloc (.cells #[.slice none 0 0, .slice none 0 0] 26))
  have hm2 := hm ((w.alloc (.cells #[.slice none 0 0, .slice none 0 0] 26)).alloc (.cells #[.slice none 0 0, .slice none 0 0] 26))
  simp only [World.size_alloc] at hcv2 hm2
  have q1 : decide ((n : Int) < 1) = false := decide_eq_false (by omega)
  have q2 : decide ((4000 : Int) < (n : Int)) = false := decide_eq_false (by omega)
  have q3 : decide (4000 < n) = false := decide_eq_false (by omega)
  have q4 : decide (n < 1) = false := decide_eq_false (by omega)
  have q5 : (n == 0) = false := beq_eq_false_iff_ne.mpr (by omega)
  have q6 : (n = 0) = False := eq_false (by omega)
  have HN := Aside0.mk (And.intro h1 h2)
  clear h1 h2 hm hcv
  go_enter Tryz.func18, Tryz.ntmps18
  go_upto_region 5 with fail
  generalize hW : ((w.alloc _).alloc _).alloc _ = W
  have K0 := Aside0.mk (show W.heap[w.heap.size]? = some (.cells #[.slice none 0 0, .slice none 0 0] 26 (0, 0)) from hW ▸ blk_alloc (blk_alloc (blk_new _ _) _) _)
  have K1 := Aside0.mk (show W.heap[w.heap.size + 1]? = some (.cells #[.slice none 0 0, .slice none 0 0] 26 (0, 0)) from hW ▸ blk_alloc (by have h := blk_new (w.alloc (.cells #[.slice none 0 0, .slice none 0 0] 26)) (.cells #[.slice none 0 0, .slice none 0 0] 26); rw [World.size_alloc] at h; exact h) _)
  have HBW := Aside0.mk (show Below w.heap.size w W from hW ▸ below_alloc (below_alloc (below_alloc (Below.refl _ _) _) _) _)
  have HZ := Aside0.mk (show w.heap.size + 3 ≤ W.heap.size from hW ▸ by simp)
  clear hW hcv2 hm2 q1 q2 q3 q4 q5 q6
  go_wp2
  go_loopg [6] n (fun g s6 wr => ∃ (k : Nat) (v : Value), s6 = .int .i64 k ∧ k + g = n ∧ Aside0 (wr.heap[w.heap.size]? = some (.cells #[.slice none 0 0, .slice none 0 0] 26 (0, 0))) ∧ Aside0 (wr.heap[w.heap.size + 1]? = some (.cells #[v, .slice none 0 0] 26 (0, 0))) ∧ Aside0 (wr.ownsRow (w.heap.size + 3) 9 1 v k (List.replicate k (.string zero40))) ∧ Aside0 (Below w.heap.size w wr) ∧ Aside0 (w.heap.size + 3 ≤ wr.heap.size))
  case atStart => exact ⟨0, .slice none 0 0, rfl, by omega, K0, K1, ⟨World.ownsRow_nil _ _ _ _⟩, HBW, HZ⟩
  case round =>
    clear K0 K1 HBW HZ
    obtain ⟨k, v, rfl, hk, K0, K1, HO, HB, HZ⟩ := hrel
    have d0 := (blk_cell K1.out 0).trans (show _ = some v from rfl)
    have d1 := (blk_cell K1.out 1).trans (show _ = some (Value.slice none 0 0) from rfl)
    by_cases hlt : k < n
    · obtain ⟨g1, rfl⟩ : ∃ g1, gk = g1 + 1 := ⟨gk - 1, by omega⟩
      have c1 : decide (k < n) = true := decide_eq_true hlt
      have c2 : (k < n) = True := eq_true hlt
      obtain ⟨g', cap', w3, hrun, hown, hgrow⟩ := ch_app (x := zero40) (by have := HN.out; omega) HO.out (Below.refl _ _) HZ.out
      have hne : ∀ i, v.ownBlock = some i → w.heap.size + 3 ≤ i := fun i e => own_base HO.out i e
      have M0 := blk_grown (blk_alloc K0.out (.cells #[.string zero40] 9)) hgrow (fun e => by have := hne _ e.symm; omega)
      have M1 := blk_grown (blk_alloc K1.out (.cells #[.string zero40] 9)) hgrow (fun e => by have := hne _ e.symm; omega)
      have d2 := (blk_cell M1 0).trans (show _ = some v from rfl)
      have f2 := blk_frozen M1 0
      have HM0 := Aside0.mk M0
      have HM1 := Aside0.mk M1
      have HO3 := Aside0.mk hown
      have HG3 := Aside0.mk hgrow
      have HNE := Aside0.mk hne
      have HKK := Aside0.mk (And.intro hlt hk)
      have HW := Aside0.mk (show wrap64 ((k : Int) + 1) = ((k + 1 : Nat) : Int) by have := HN.out; unfold wrap64; omega)
      clear hlt hk hown hgrow hne M0 M1
      go_wp2
      go_roundg g1
      case measure => omega
      case rel =>
        have hz := HG3.out.size
        have hz0 := HZ.out
        refine ⟨k + 1, _, by rw [HW.out], by have := HKK.out; omega, ⟨blk_far HM0.out (by show w.heap.size ≠ w.heap.size + 1; omega) _⟩, ⟨blk_put HM1.out 0 _ rfl⟩, ⟨?_⟩, ⟨?_⟩, ⟨?_⟩⟩
        · rw [show List.replicate (k + 1) (Value.string zero40) = List.replicate k (Value.string zero40) ++ [.string zero40] from List.replicate_succ']
          exact row_other HO3.out (by omega) _
        · exact ((below_alloc HB.out _).grown HG3.out (by simp; omega) (fun i e => by have := HNE.out i e; omega)).setCell (p := ⟨w.heap.size + 1, 0, none⟩) (by show w.heap.size ≤ w.heap.size + 1; omega) _
        · have h2 := (grownBy_setCell' w3 (w.heap.size + 1) (.slice (some ⟨g', 0, none⟩) (k + 1) cap')).size
          simp at hz
          omega
    · have c1 : decide (k < n) = false := decide_eq_false hlt
      have c2 : (k < n) = False := eq_false hlt
      obtain rfl : k = n := by omega
      have e0 := (blk_cell K0.out 0).trans (show _ = some (Value.slice none 0 0) from rfl)
      have e1 := (blk_cell K0.out 1).trans (show _ = some (Value.slice none 0 0) from rfl)
      have f0 := blk_frozen K0.out 0
      have f1 := blk_frozen K0.out 1
      have HKK := Aside0.mk hlt
      clear hlt hk
      obtain ⟨g', cap', rfl⟩ : ∃ A c, v = .slice A k c := by
        rcases HO.out.2 with ⟨e, e2⟩ | ⟨g, cap, cur, e, _⟩
        · exact ⟨none, 0, by rw [e, e2]⟩
        · exact ⟨_, _, e⟩
      go_wp2
      refine bodyPost_ret (results_ct rfl _ _ w.heap.size 26 #[.slice g' k cap', .slice none 0 0] (0, 0) _ rfl (blk_put (cs := #[.slice g' k cap', .slice none 0 0]) (blk_put K0.out 0 _ rfl) 1 _ rfl) Tryz.underlying26 rfl (by kernel_rfl)) rfl ?_
      have ho := HO.out
      have e3 : (List.replicate k zero40).length = k := List.length_replicate
      have hR : Kd.R Kd.string 9 wr (w.heap.size + 3) (fun _ => True) (.slice g' k cap') (List.replicate k zero40) := Kd.R_of_own (enc := Value.string) (h1 := fun _ => rfl) (by rw [e3, show encs Value.string (List.replicate k zero40) = List.replicate k (Value.string zero40) from List.map_replicate]; exact ho) (fun _ _ => trivial)
      have hC := (Kd.R_reads' hR).2.2
      rw [e3] at hC
      refine ⟨g', cap', rfl, own_cap ho, C_blkS hC (fun _ ad e => ?_), below_set (below_set HB.out (Nat.le_refl _)) (Nat.le_refl _)⟩
      subst e
      obtain ⟨g, rfl⟩ := Kd.R_head hR
      have := own_base ho g rfl
      exact (Below.heap_setCell _ _ _ _ (by show g ≠ w.heap.size; omega)).trans (Below.heap_setCell _ _ _ _ (by show g ≠ w.heap.size; omega))
end Go.Proofs.YtodejilhgpejnaaGreat.Q
