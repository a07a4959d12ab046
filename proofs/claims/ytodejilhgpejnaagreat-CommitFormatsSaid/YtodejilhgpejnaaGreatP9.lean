import Derived.Test.YtodejilhgpejnaaGreatPC
import Derived.Test.YtodejilhgpejnaaGreatP1
import Derived.Test.YtodejilhgpejnaaGreatP6
namespace Go.Proofs.YtodejilhgpejnaaGreat.Q
open Go.RowKit Go.Proofs.YtodejilhgpejnaaGreatW.PrintWords Go.Proofs.YtodejilhgpejnaaGreatW.PrintLast Go.Proofs.YtodejilhgpejnaaGreatW.PrintMore
attribute [local go_sem] max2_int min2_int max_two min_two max_three min_three max_four min_four
set_option linter.unusedVariables false
set_option linter.unusedSimpArgs false
attribute [local go_sem] Oper.semAt_some
/-- Whose row a slice's box holds. -/
def ownB (W : World) (b : Nat) : Option Nat := (W.cell? ⟨b, 0, none⟩).bind Value.ownBlock
/-- What a round may turn: the box b and the row it holds, and the loop's record. -/
def KpB (b L : Nat) (A B : World) : Prop := A.heap.size ≤ B.heap.size ∧ (∀ k, k < A.heap.size → k ≠ b → k ≠ L → ownB A b ≠ some k → B.heap[k]? = A.heap[k]?) ∧ (∀ k, ownB B b = some k → ownB A b = some k ∨ A.heap.size ≤ k)
theorem KpB.trans {b L : Nat} {A B C : World} (h : KpB b L A B) (k : KpB b L B C) : KpB b L A C := by
  obtain ⟨h1, h2, h3⟩ := h
  obtain ⟨k1, k2, k3⟩ := k
  refine ⟨by omega, fun i hi hb hL ho => (k2 i (by omega) hb hL (fun e => ?_)).trans (h2 i hi hb hL ho), fun i hi => ?_⟩
  · rcases h3 i e with e | e
    · exact ho e
    · omega
  · rcases k3 i hi with e | e
    · exact h3 i e
    · exact .inr (by omega)
theorem KpB.put {b L : Nat} (W : World) (o : Obj) (hb : b ≠ L) : KpB b L W (W.putObj L o) := by
  have hc : (W.putObj L o).cell? ⟨b, 0, none⟩ = W.cell? ⟨b, 0, none⟩ := cell_blk (World.putObj_heap_other hb)
  refine ⟨by simp [World.putObj], fun k _ _ hL _ => World.putObj_heap_other hL, fun k hk => .inl ?_⟩
  unfold ownB at hk ⊢
  rw [← hc]
  exact hk
theorem layArea_walk (n g : Nat) (w : World) (hn : n ≤ 2000) (hg : g ≤ 2147483647) : Calls Tryz.prog 76 #[.agg #[.int .i64 n], .int .i64 g] w fun e w' => e = .returned (.int .i64 ((2 + g % 2 * areaF n : Nat) : Int)) ∧ Below w.heap.size w w' := by
  have ha : areaF n ≤ 10000 := by unfold areaF; omega
  have HA := Aside0.mk ha
  have HN := Aside0.mk hn
  have hm : (g : Int) % 2 = 0 ∨ (g : Int) % 2 = 1 := by omega
  have HM := Aside0.mk hm
  have HG := Aside0.mk hg
  have h2 : (g : Int).tmod 2 = ((g % 2 : Nat) : Int) := by rw [Int.tmod_eq_emod_of_nonneg (by omega)]; omega
  clear ha hn hm hg
  go_enter Tryz.func76, Tryz.ntmps76
  go_wp2_with (first | (go_at_call 58; (with_reducible refine (area_walk _ _ (by have := HN.out; omega)).mono ?_); rintro e w' ⟨rfl, rfl⟩) | fail)
  go_ret
  refine ⟨ret_i ?_, below_alloc (Below.refl _ _) _⟩
  have := HA.out
  rcases HM.out with e | e
  · rw [e, show g % 2 = 0 by omega]; unfold wrap64; simp
  · rw [e, show g % 2 = 1 by omega]; unfold wrap64; omega
theorem blocks_walk (vs : Array Value) (w : World) (hv : vs.size = 8) : Calls Tryz.prog 44 #[.agg vs] w fun e w' => e = .returned (.func (.func 72) #[] #[.pointer (some ⟨w.heap.size, 0, none⟩)]) ∧ w' = w.alloc (.cells vs 95) := by
  go_enter Tryz.func44, Tryz.ntmps44
  go_wp2
  go_ret
  exact ⟨rfl, rfl⟩
def comV (A : Option Addr) (n c keep next gen : Nat) (B : Option Addr) (m c2 : Nat) : Array Value := #[.int .i64 n, .slice A n c, .int .i64 keep, .slice none 0 0, .slice none 0 0, .int .i64 next, .int .i64 gen, .slice B m c2]
/-- Where the k-th block of the book goes. -/
def atF (n gen k : Nat) : Nat := 2 + (gen + 1) % 2 * areaF n + k
theorem ownB_below {W W' : World} {b : Nat} (hb : Below W.heap.size W W') (h : b < W.heap.size) : ownB W' b = ownB W b := by
  unfold ownB
  rw [cell_blk (W := W) (W' := W') (p := ⟨b, 0, none⟩) (hb.block b h)]
theorem chunks_rd (l : List Int) (k : Nat) (h : k < piecesN l.length) : rdOf ByteArray.empty (chunksF l) (k : Int) = chunkS l k := by
  unfold rdOf chunksF
  rw [Int.toNat_natCast, List.getD_eq_getElem?_getD, List.getElem?_map, List.getElem?_range h]
  rfl
theorem C_blkS {W W' : World} {A : Option Addr} {n : Nat} {xs : List ByteArray} (h : Kd.C Kd.string W A n xs) (hb : 0 < n → ∀ ad, A = some ad → W'.heap[ad.block]? = W.heap[ad.block]?) : Kd.C Kd.string W' A n xs := by
  refine ⟨h.1, h.2.1, fun hn => ?_⟩
  obtain ⟨ad, e, hc⟩ := h.2.2 hn
  refine ⟨ad, e, fun j p hj => ?_⟩
  obtain ⟨c, h1, h2, h3⟩ := hc j p hj
  exact ⟨c, h1, h2, fun i u hu => (cell_blk (p := ad.add (j * Kd.string.sz + i)) (by rw [show (ad.add (j * Kd.string.sz + i)).block = ad.block by unfold Addr.add; split <;> rfl]; exact hb hn ad e)).trans (h3 i u hu)⟩
theorem blocks_kept {w W wr w5 W3 : World} {Bs b : Nat} {o : Obj} {A' : Option Addr} {N : Nat} {xs : List ByteArray} (h1 : wr.heap[Bs]? = some o) (h2 : Kd.C Kd.string wr A' N xs) (h3 : W.heap.size ≤ wr.heap.size) (h4 : ownB wr b ≠ some Bs) (h5 : ∀ ad, A' = some ad → ownB wr b ≠ some ad.block)
    (hA : ∀ ad, A' = some ad → W.heap.size ≤ ad.block) (hb5 : Below wr.heap.size wr w5) (hL : Bs < w.heap.size ∧ b < w.heap.size ∧ Bs ≠ b) (hS : w.heap.size + 2 ≤ W.heap.size ∧ w.heap.size ≤ W.heap.size) (hN : 0 < N) (hk : KpB b (w.heap.size + 1) w5 W3) :
    W3.heap[Bs]? = some o ∧ Kd.C Kd.string W3 A' N xs ∧ W.heap.size ≤ W3.heap.size ∧ ownB W3 b ≠ some Bs ∧ ∀ ad, A' = some ad → ownB W3 b ≠ some ad.block := by
  obtain ⟨l1, l2, l3⟩ := hL
  obtain ⟨k1, k2, k3⟩ := hk
  have hz := hb5.size
  have ho5 : ownB w5 b = ownB wr b := ownB_below hb5 (by omega)
  have hC5 := Kd.C_below h2 hb5
  have hlt : ∀ ad, A' = some ad → ad.block < wr.heap.size := fun ad e => by subst e; exact Kd.C_lt h2 hN (by decide)
  refine ⟨?_, ?_, by omega, ?_, ?_⟩
  · exact (k2 Bs (by omega) l3 (by omega) (by rw [ho5]; exact h4)).trans ((hb5.block Bs (by omega)).trans h1)
  · exact C_blkS hC5 (fun _ ad e => k2 ad.block (by have := hlt ad e; omega) (by have := hA ad e; omega) (by have := hA ad e; omega) (by rw [ho5]; exact h5 ad e))
  · intro e
    rcases k3 _ e with e | e
    · rw [ho5] at e; exact h4 e
    · omega
  · intro ad ea e
    rcases k3 _ e with e | e
    · rw [ho5] at e; exact h5 ad ea e
    · have := hlt ad ea; omega
set_option maxHeartbeats 4000000 in
set_option maxRecDepth 100000 in
theorem blocksIter (m : Nat) (Bs b : Nat) (A : Option Addr) (n c keep next gen : Nat) (B : Option Addr) (c2 : Nat) (l : List Int) (w : World) (hlt : Bs < w.heap.size) (hbl : b < w.heap.size) (hbs : Bs ≠ b)
    (c0 : w.heap[Bs]? = some (.cells (comV A n c keep next gen B l.length c2) 95 (0, 0))) (hz : ZC w A n) (hr : Kd.C (Kd.int .u8) w B l.length l) (hl : l.length ≤ 100000) (hc2 : l.length ≤ c2) (hcm : c2 ≤ 9223372036854775807) (hn : n ≤ 2000) (hg : gen ≤ 2147483646)
    (ho : ownB w b = none) :
    SeqSt Fence.wide m Tryz.prog 72 #[.pointer (some ⟨Bs, 0, none⟩)] (fun k : Nat => #[.int .i64 ((atF n gen k : Nat) : Int), .string (chunkS l k)])
      (KpB b (w.heap.size + 1)) (fun A B => Below A.heap.size A B) (fun xs => xs = List.range (piecesN l.length)) (fun xs => xs <+: List.range (piecesN l.length)) (piecesN l.length) w := by
  intro l0 J Jx W hb hsz2 hJ hJx hJs hY h0
  have hro : Fence.wide.round = none := rfl
  refine callsIn_of_wp Tryz.func72 rfl trivial ?_ hro
  simp only [Tryz.ntmps72, List.size_toArray, List.length_cons, List.length_nil, Nat.reduceAdd, Nat.reduceSub, Array.replicate_succ, Array.replicate_zero, List.push_toArray, List.append_toArray, List.nil_append, List.cons_append]
  have cW := (hb.block Bs hlt).trans c0
  have d1 := (blk_cell cW 1).trans (show _ = some (Value.slice A n c) from rfl)
  have HC := Aside0.mk cW
  have HLT := Aside0.mk (And.intro hlt (And.intro hbl hbs))
  have HO := Aside0.mk ((ownB_below hb hbl).trans ho)
  have HZ := Aside0.mk (ZC_below hz hb)
  have HR := Aside0.mk (Kd.C_below hr hb)
  have HL := Aside0.mk (And.intro hl (And.intro hc2 hcm))
  have HN := Aside0.mk (And.intro hn hg)
  have HSZ := Aside0.mk (And.intro hsz2 hb.size)
  have HY := Aside0.mk hY
  clear hlt hbl hbs c0 hz hr hl hc2 hcm hn hg ho hb hY cW hsz2
  gi_wp2
  gi_loopw [14] (fun v14 wr => ∃ k : Nat, v14 = .int .i64 k ∧ k ≤ n ∧ J [] wr ∧ Aside0 (Below W.heap.size W wr)) (fun v14 _ => ((n : Int) - intOf2 v14).toNat)
  case atStart => exact ⟨0, rfl, Nat.zero_le _, h0, ⟨Below.refl _ _⟩⟩
  case round =>
    clear d1
    obtain ⟨k, rfl, hk, hj, HB⟩ := hrel
    by_cases hlt : k < n
    · have q1 : (k < n) = True := eq_true hlt
      have q2 : decide (k < n) = true := decide_eq_true hlt
      have q3 : decide ((k : Int) < (n : Int)) = true := decide_eq_true (by omega)
      obtain ⟨ad, e1, z0, z1, z2, z3⟩ := at_Z (ZC_below HZ.out HB.out) k hlt
      cases e1
      have HK2 := Aside0.mk hlt
      have HW := Aside0.mk (show wrap64 ((k : Int) + 1) = ((k + 1 : Nat) : Int) by have := HN.out.1; unfold wrap64; omega)
      clear hk hlt
      gi_wp2
      rw [HW.out]
      refine ⟨⟨k + 1, rfl, HK2.out, hJs _ _ _ hj (below_alloc (Below.refl _ _) _), ⟨below_alloc HB.out _⟩⟩, ?_⟩
      have := HK2.out
      simp only [intOf2]
      omega
    · have q1 : (k < n) = False := eq_false hlt
      have q2 : decide (k < n) = false := decide_eq_false hlt
      have q3 : decide ((k : Int) < (n : Int)) = false := decide_eq_false (by omega)
      have cr := blk_below HC.out HB.out
      have d7 := (blk_cell cr 7).trans (show _ = some (Value.slice B l.length c2) from rfl)
      clear hk hlt
      gi_wp2_with fail
      refine ⟨trivial, (fun h => by cases h), ?_⟩
      refine (callsIn_wide.2 (chunks_walk B c2 l wr (Kd.C_below HR.out HB.out) HL.out.1 HL.out.2.1 HL.out.2.2)).mono ?_
      rintro e w2 ⟨v, rfl, hR, hB2⟩
      obtain ⟨A', c', rfl⟩ := Kd.R_slice hR
      have hlen : (chunksF l).length = piecesN l.length := by unfold chunksF; simp
      have hAL : ∀ ad, A' = some ad → W.heap.size ≤ ad.block := by
        rintro ad rfl
        obtain ⟨g, rfl⟩ := Kd.R_head hR
        exact Nat.le_trans HB.out.size ((Kd.R_bound hR).1 g rfl).2.1
      have hC0 := (Kd.R_reads' hR).2.2
      rw [hlen] at hC0
      obtain ⟨N, hN⟩ : ∃ N, N = piecesN l.length := ⟨_, rfl⟩
      have hNb : N ≤ 100000 := by have := HL.out.1; rw [hN]; unfold piecesN; omega
      have hC' : Kd.C Kd.string w2 A' N (chunksF l) := by rw [hN]; exact hC0
      rw [hlen, ← hN]
      have HN2 := Aside0.mk (And.intro hN hNb)
      have HCC := Aside0.mk hC'
      have hj2 := hJs _ _ _ hj hB2
      have HB2 := Aside0.mk (below_step HB.out hB2)
      have HAL := Aside0.mk hAL
      clear hAL hC0 hR hlen hN hNb hC' cr d7 q1 q2 q3 hB2 hj
      gi_wp2
      gi_loopw [41] (fun v41 wr => ∃ k : Nat, v41 = .int .i64 k ∧ k ≤ N ∧ J (List.range k) wr ∧ Aside0 (wr.heap[Bs]? = some (.cells (comV A n c keep next gen B l.length c2) 95 (0, 0))) ∧ Aside0 (Kd.C Kd.string wr A' N (chunksF l)) ∧ Aside0 (W.heap.size ≤ wr.heap.size) ∧ Aside0 (ownB wr b ≠ some Bs) ∧ Aside0 (∀ ad, A' = some ad → ownB wr b ≠ some ad.block))
        (fun v41 _ => ((N : Int) - intOf2 v41).toNat)
      case atStart =>
        have hbW : b < W.heap.size := by have := HLT.out.2.1; have := HSZ.out.2; omega
        have ho2 : ownB w2 b = none := (ownB_below HB2.out hbW).trans HO.out
        exact ⟨0, rfl, Nat.zero_le _, hj2, ⟨blk_below HC.out HB2.out⟩, HCC, ⟨HB2.out.size⟩, ⟨by rw [ho2]; simp⟩, ⟨fun ad _ => by rw [ho2]; simp⟩⟩
      case round =>
        clear hj2 HCC
        obtain ⟨k, rfl, hk, hj, HC2, HR2, HS2, HOB, HOA⟩ := hrel
        by_cases hlt : k < N
        · have q1 : (k < N) = True := eq_true hlt
          have q2 : decide (k < N) = true := decide_eq_true hlt
          have q3 : decide ((k : Int) < (N : Int)) = true := decide_eq_true (by omega)
          obtain ⟨ad, e1, hx⟩ := Kd.at_string HR2.out (k : Int) (by omega) (by omega)
          cases e1
          rw [chunks_rd l k (by rw [← HN2.out.1]; exact hlt), Int.toNat_natCast] at hx
          obtain ⟨x, hx2⟩ : ∃ x, x = chunkS l k := ⟨_, rfl⟩
          rw [← hx2] at hx
          have d0 := (blk_cell HC2.out 0).trans (show _ = some (Value.int .i64 n) from rfl)
          have d6 := (blk_cell HC2.out 6).trans (show _ = some (Value.int .i64 gen) from rfl)
          obtain ⟨g, hg⟩ : ∃ g, g = gen + 1 := ⟨_, rfl⟩
          have r1 : wrap64 ((gen : Int) + 1) = (g : Int) := by have := HN.out.2; rw [hg]; unfold wrap64; omega
          obtain ⟨a0, ha⟩ : ∃ a0, a0 = 2 + g % 2 * areaF n := ⟨_, rfl⟩
          obtain ⟨q, hq⟩ : ∃ q, q = atF n gen k := ⟨_, rfl⟩
          have r2 : wrap64 ((a0 : Int) + (k : Int)) = (q : Int) := by
            have h1 : areaF n ≤ 10000 := by have := HN.out.1; unfold areaF; omega
            have h2 : g % 2 = 0 ∨ g % 2 = 1 := by omega
            have h3 := HN2.out.2
            have h4 : q = a0 + k := by rw [hq, ha, hg]; unfold atF; omega
            have h5 : a0 ≤ 20000 := by rcases h2 with e | e <;> rw [ha, e] <;> omega
            rw [h4]; unfold wrap64; omega
          have hla := layArea_walk n g wr HN.out.1 (by have := HN.out.2; omega)
          rw [← ha] at hla
          have HX := Aside0.mk hx2
          have HQ := Aside0.mk hq
          have HKN := Aside0.mk hlt
          have HWK := Aside0.mk (show wrap64 ((k : Int) + 1) = ((k + 1 : Nat) : Int) by have := HN2.out.2; unfold wrap64; omega)
          have HLA := Aside0.mk hla
          clear hk hlt hx2 hq ha hg hla
          gi_wp2_with fail
          refine ⟨trivial, (fun h => by cases h), ?_⟩
          refine (callsIn_wide.2 HLA.out).mono ?_
          rintro e w5 ⟨rfl, hb5⟩
          have hj5 := hJs _ _ _ hj hb5
          have hm : k < piecesN l.length := by rw [← HN2.out.1]; exact HKN.out
          have hr : List.range (k + 1) = List.range k ++ [k] := List.range_succ
          obtain ⟨fn, tmps, assign, body, hyl, hRn⟩ := HY.out (List.range k) k w5 hj5 (by simpa using hm) (by rw [← hr]; exact range_pre _ _ hm)
          rw [← hr] at hRn
          rw [← HX.out, ← HQ.out] at hyl
          have HB5 := Aside0.mk hb5
          clear hm hr hb5 hj5 hj
          gi_wp2_with fail
          refine ⟨(fun h => by cases h), ?_⟩
          refine hRn.mono ?_
          rintro e2 W3 (⟨rfl, hJ3, hk3⟩ | ⟨rfl, hJx3⟩)
          · obtain ⟨i1, i2, i3, i4, i5⟩ := blocks_kept HC2.out HR2.out HS2.out HOB.out HOA.out HAL.out HB5.out HLT.out HSZ.out (by have := HKN.out; omega) hk3
            have I1 := Aside0.mk i1
            have I2 := Aside0.mk i2
            have I3 := Aside0.mk i3
            have I4 := Aside0.mk i4
            have I5 := Aside0.mk i5
            clear i1 i2 i3 i4 i5 hk3 hx d0 d6
            gi_wp2
            rw [HWK.out]
            refine ⟨⟨k + 1, rfl, HKN.out, hJ3, I1, I2, I3, I4, I5⟩, ?_⟩
            have := HKN.out
            simp only [intOf2]
            omega
          · gi_wp2
            refine bodyPost_ret (results_none rfl _ _ _) rfl ?_
            exact ⟨⟨_, rfl⟩, .inr ⟨List.range (k + 1), range_pre _ _ (by rw [← HN2.out.1]; exact HKN.out), hJx3⟩⟩
        · have q2 : decide (k < N) = false := decide_eq_false hlt
          have q3 : decide ((k : Int) < (N : Int)) = false := decide_eq_false (by omega)
          have HKK := Aside0.mk (show k = piecesN l.length by rw [← HN2.out.1]; omega)
          clear hk hlt
          gi_wp2
          refine bodyPost_end (results_none rfl _ _ _) rfl ?_
          exact ⟨⟨_, rfl⟩, .inl ⟨List.range k, by rw [HKK.out], hj⟩⟩
end Go.Proofs.YtodejilhgpejnaaGreat.Q
