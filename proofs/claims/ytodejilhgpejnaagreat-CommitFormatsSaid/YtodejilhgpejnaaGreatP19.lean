import Derived.Test.YtodejilhgpejnaaGreatP18
namespace Go.Proofs.YtodejilhgpejnaaGreat.Q
open Go.RowKit Go.Proofs.YtodejilhgpejnaaGreatW.PrintWords Go.Proofs.YtodejilhgpejnaaGreatW.PrintLast Go.Proofs.YtodejilhgpejnaaGreatW.PrintMore
attribute [local go_sem] max2_int min2_int max_two min_two max_three min_three max_four min_four
set_option linter.unusedVariables false
set_option linter.unusedSimpArgs false
theorem range_snoc (f : Nat → ByteArray) (k : Nat) : (List.range (k + 1)).map f = (List.range k).map f ++ [f k] := by rw [List.range_succ, List.map_append]; rfl
set_option maxHeartbeats 4000000 in
set_option maxRecDepth 100000 in
theorem refChunks_walk (A : Option Addr) (c : Nat) (l : List Int) (w : World) (hr : Kd.C (Kd.int .u8) w A l.length l) (hl : ∀ x ∈ l, 0 ≤ x ∧ x < 256) (hn : l.length ≤ 100000) (hc : l.length ≤ c) (hcm : c ≤ 9223372036854775807) :
    Calls Tryz.prog 62 #[.slice A l.length c] w fun e w' => ∃ v : Value, e = .returned v ∧ Kd.R Kd.string 9 w' w.heap.size (fun _ => True) v (chunksF l) ∧ Below w.heap.size w w' := by
  obtain ⟨N, hN⟩ : ∃ N, N = piecesN l.length := ⟨_, rfl⟩
  have HR := Aside0.mk hr
  have HL := Aside0.mk hl
  have HN := Aside0.mk hN
  have HNN := Aside0.mk (show 40 * N < l.length + 40 ∧ l.length ≤ 40 * N by rw [hN]; unfold piecesN; omega)
  have HB := Aside0.mk (And.intro hn (And.intro hc hcm))
  have hm : ∀ w : World, (Instr.makeSlice 83 (.int .i64 40) (.int .i64 40)).run Tryz.prog w = .ok (.slice (some ⟨w.heap.size, 0, none⟩) 40 40) (w.alloc (.cells zero40c 5)) := fun w => by kernel_rfl
  have n1 : (l.length : Int) ≤ 100000 := by omega
  clear hr hl hN hn hc hcm
  go_enter Tryz.func62, Tryz.ntmps62
  go_wp2
  go_loopg [3, 4] N (fun g s3 s4 wr => ∃ k : Nat, s4 = .int .i64 ((40 * k : Nat) : Int) ∧ k + g = N ∧ Aside0 (Kd.string.R 9 wr w.heap.size (fun _ => True) s3 ((List.range k).map (chunkS l))) ∧ Aside0 (Below w.heap.size w wr))
  case atStart => exact ⟨0, rfl, by omega, ⟨Kd.R_nil _ _ _ _ _⟩, ⟨Below.refl _ _⟩⟩
  case round =>
    obtain ⟨k, rfl, hk, HO, HBW⟩ := hrel
    obtain ⟨i, hi⟩ : ∃ i, i = 40 * k := ⟨_, rfl⟩
    rw [← hi]
    by_cases hlt : k < N
    · obtain ⟨g1, rfl⟩ : ∃ g1, gk = g1 + 1 := ⟨gk - 1, by omega⟩
      have hil : i < l.length := by have := HNN.out; omega
      have q1 : decide (i < l.length) = true := decide_eq_true hil
      have q2 : (i < l.length) = True := eq_true hil
      have HI := Aside0.mk hi
      have HIL := Aside0.mk hil
      have HK := Aside0.mk (And.intro hk hlt)
      obtain ⟨m, hmm⟩ : ∃ m, m = min 40 (l.length - i) := ⟨_, rfl⟩
      have HM := Aside0.mk hmm
      have HM2 := Aside0.mk (show m ≤ 40 ∧ i + m ≤ l.length by omega)
      have i0 : 0 ≤ (i : Int) := by omega
      have i1 : (i : Int) ≤ 100000 := by omega
      have H0 := R_zero40 wr
      have HB0 := below_alloc (Below.refl wr.heap.size wr) (.cells zero40c 5)
      rw [← laidF_zero l i] at H0
      have HC0 := Aside0.mk H0
      have HBB := Aside0.mk HB0
      clear hk hlt hi hil hmm H0 HB0
      go_wp2
      obtain ⟨wo, hwo⟩ : ∃ wo : World, wo = wr := ⟨_, rfl⟩
      rw [← hwo] at HO HBW HC0 HBB ⊢
      clear hwo
      go_loopg [6] m (fun g s6 wr2 => ∃ j : Nat, s6 = .int .i64 j ∧ j + g = m ∧ Aside0 (Kd.R (Kd.int .u8) 5 wr2 wo.heap.size (fun _ => True) (.slice (some ⟨wo.heap.size, 0, none⟩) 40 40) (laidF l i j)) ∧ Aside0 (Below wo.heap.size wo wr2))
      case atStart => exact ⟨0, rfl, by omega, HC0, HBB⟩
      case round =>
        obtain ⟨j, rfl, hj, HC, HB2⟩ := hrel
        have j0 : 0 ≤ (j : Int) := by omega
        have j1 : (j : Int) ≤ 40 := by have := HM2.out; omega
        have W2 := Aside0.mk (show Below w.heap.size w wr from below_step HBW.out HB2.out)
        by_cases hjm : j < m
        · obtain ⟨g2, rfl⟩ : ∃ g2, gk = g2 + 1 := ⟨gk - 1, by omega⟩
          have r1 : decide ((j : Int) < 40) = true := decide_eq_true (by have := HM2.out; omega)
          have r2 : decide ((i : Int) + (j : Int) < (l.length : Int)) = true := decide_eq_true (by have := HM2.out; omega)
          have r3 : decide (i + j < l.length) = true := decide_eq_true (by have := HM2.out; omega)
          have r4 : (i + j < l.length) = True := eq_true (by have := HM2.out; omega)
          have r5 : (j < 40) = True := eq_true (by have := HM2.out; omega)
          have r6 : (0 ≤ (i : Int) + (j : Int)) = True := eq_true (by omega)
          have r7 : ((i : Int) + (j : Int) < (l.length : Int)) = True := eq_true (by have := HM2.out; omega)
          have r8 : ((j : Int) < 40) = True := eq_true (by have := HM2.out; omega)
          obtain ⟨ad, e6, hx⟩ := Kd.at_int (Kd.C_below HR.out W2.out) ((i + j : Nat) : Int) (by omega) (by have := HM2.out; omega)
          cases e6
          rw [Int.toNat_natCast] at hx
          obtain ⟨x, hxx⟩ : ∃ x, x = rd l ((i + j : Nat) : Int) := ⟨_, rfl⟩
          obtain ⟨hc1, hf1⟩ := Kd.R_celln 0 HC.out (j : Int) (by omega) (by have := HM2.out; omega)
          have hput := Kd.R_putn HC.out (j : Int) x
          rw [Int.toNat_natCast] at hc1 hf1 hput
          rw [hxx, laidF_set, ← hxx] at hput
          rw [← hxx] at hx
          have HP := Aside0.mk hput
          have HX := Aside0.mk hxx
          have HJ := Aside0.mk (And.intro hj hjm)
          have HW := Aside0.mk (show (j : Int) + 1 = ((j + 1 : Nat) : Int) by omega)
          clear hput hxx hj hjm
          go_wp2
          rw [HW.out]
          go_roundg g2
          case measure => omega
          case rel => exact ⟨j + 1, rfl, by have := HJ.out; omega, HP, ⟨HB2.out.setCell (p := ⟨wo.heap.size, j, none⟩) (Nat.le_refl _) _⟩⟩
        · have hjm2 : j = m := by omega
          have hcv0 := (Kd.R_reads' HC.out).2.2
          rw [laidF_len] at hcv0
          have hcv := Kd.C_string (P := Tryz.prog) (src := 83) (dst := 9) (c := 40) Tryz.underlying83 Tryz.underlying5 Tryz.underlying9 hcv0
          have hstr : strOfNums (laidF l i j) = chunkS l k := by rw [hjm2, HI.out]; exact laid_str l k m (by rw [HM.out, HI.out]) (by have := HIL.out; rw [HI.out] at this; exact this)
          obtain ⟨x, hx⟩ : ∃ x, x = chunkS l k := ⟨_, rfl⟩
          rw [hstr, ← hx] at hcv
          have HX := Aside0.mk hx
          have HOW := Aside0.mk (Kd.R_below HO.out HB2.out)
          have HW := Aside0.mk (show (i : Int) + 40 = ((40 * (k + 1) : Nat) : Int) by have := HI.out; omega)
          have HLE := Aside0.mk (show k ≤ 100000 by have := HK.out; have := HNN.out; have := HB.out; omega)
          have HJ := Aside0.mk hjm2
          by_cases hj4 : j < 40
          · have r1 : decide ((j : Int) < 40) = true := decide_eq_true (by omega)
            have r2 : decide ((i : Int) + (j : Int) < (l.length : Int)) = false := decide_eq_false (by have := HM.out; have := HIL.out; omega)
            have r3 : decide (i + j < l.length) = false := decide_eq_false (by have := HM.out; have := HIL.out; omega)
            have r5 : (j < 40) = True := eq_true hj4
            have r8 : ((j : Int) < 40) = True := eq_true (by omega)
            clear hx hstr hcv0 hjm2 hj4 hjm hj
            go_wp2_with (first | ((with_reducible refine gate_builtin (b := .append) (xs := #[.tmp 35, .tmp 38]) rfl ?_); at_builtin; refine Kd.R_append Kd.string (w0 := w) w.heap.size rfl (.tmp 35) (.tmp 38) 23 9 (.string ⟨#[]⟩) 16 rfl Tryz.underlying23 info_str rfl (by decide) (by decide) _ ((List.range k).map (chunkS l)) x [.string x] (fun _ => True) (fun _ => False) rfl rfl rfl (fun _ h => h.elim) (fun _ _ => trivial) HOW.out W2.out W2.out.size (by have := HLE.out; simp; omega) ?_; intro v1 w5 ho hb hg hat; have HO5 := Aside0.mk ho; have HB5 := Aside0.mk hb; clear ho hb hg hat) | fail)
            rw [HW.out]
            go_roundg g1
            case measure => omega
            case rel => exact ⟨k + 1, rfl, by have := HK.out; omega, ⟨by rw [range_snoc, ← HX.out]; exact HO5.out⟩, HB5⟩
          · have r1 : decide ((j : Int) < 40) = false := decide_eq_false (by omega)
            have r5 : (j < 40) = False := eq_false hj4
            have r8 : ((j : Int) < 40) = False := eq_false (by omega)
            clear hx hstr hcv0 hjm2 hj4 hjm hj
            go_wp2_with (first | ((with_reducible refine gate_builtin (b := .append) (xs := #[.tmp 35, .tmp 38]) rfl ?_); at_builtin; refine Kd.R_append Kd.string (w0 := w) w.heap.size rfl (.tmp 35) (.tmp 38) 23 9 (.string ⟨#[]⟩) 16 rfl Tryz.underlying23 info_str rfl (by decide) (by decide) _ ((List.range k).map (chunkS l)) x [.string x] (fun _ => True) (fun _ => False) rfl rfl rfl (fun _ h => h.elim) (fun _ _ => trivial) HOW.out W2.out W2.out.size (by have := HLE.out; simp; omega) ?_; intro v1 w5 ho hb hg hat; have HO5 := Aside0.mk ho; have HB5 := Aside0.mk hb; clear ho hb hg hat) | fail)
            rw [HW.out]
            go_roundg g1
            case measure => omega
            case rel => exact ⟨k + 1, rfl, by have := HK.out; omega, ⟨by rw [range_snoc, ← HX.out]; exact HO5.out⟩, HB5⟩
    · have hkN : k = N := by omega
      have q1 : decide (i < l.length) = false := decide_eq_false (by have := HNN.out; omega)
      have q2 : (i < l.length) = False := eq_false (by have := HNN.out; omega)
      have HE := Aside0.mk (show (List.range k).map (chunkS l) = chunksF l by unfold chunksF; rw [hkN, HN.out])
      clear hkN hi hk hlt
      go_wp2
      go_ret
      exact ⟨_, rfl, by rw [← HE.out]; exact HO.out, HBW.out⟩
end Go.Proofs.YtodejilhgpejnaaGreat.Q
