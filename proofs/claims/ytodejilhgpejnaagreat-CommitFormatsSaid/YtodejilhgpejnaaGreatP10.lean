import Derived.Test.YtodejilhgpejnaaGreatP9
import Derived.Test.YtodejilhgpejnaaGreatP8
namespace Go.Proofs.YtodejilhgpejnaaGreat.Q
open Go.RowKit Go.Proofs.YtodejilhgpejnaaGreatW.PrintWords Go.Proofs.YtodejilhgpejnaaGreatW.PrintLast Go.Proofs.YtodejilhgpejnaaGreatW.PrintMore
attribute [local go_sem] max2_int min2_int max_two min_two max_three min_three max_four min_four
set_option linter.unusedVariables false
set_option linter.unusedSimpArgs false
attribute [local go_sem] Oper.semAt_some
attribute [-go_sem] Builtin.append_
def bookB (next keep n : Nat) : List Int := bookL next keep n ++ List.replicate (2 * n) 0
/-- The blocks that turn. -/
def writesF (l0 : List ByteArray) (bk : List Int) (n gen : Nat) (pre : List Nat) : List (Int × ByteArray) := pre.filterMap fun k => if rdOf ByteArray.empty l0 ((atF n gen k : Nat) : Int) = chunkS bk k then none else some (((atF n gen k : Nat) : Int), chunkS bk k)
def wcells (l : List (Int × ByteArray)) : List Value := l.flatMap fun x => [.int .i64 x.1, .string x.2]
def PlI (w W6 : World) (b : Nat) (f : List Nat → List (Int × ByteArray)) (pre : List Nat) (W : World) : Prop :=
  ∃ v, Boxed W b 24 v ∧ W.ownsRow W6.heap.size 58 2 v (f pre).length (wcells (f pre)) ∧ (∀ k, k < W6.heap.size → k ≠ b → W.heap[k]? = W6.heap[k]?) ∧ Below w.heap.size w W ∧ W6.heap.size ≤ W.heap.size
theorem plI_own (w W6 : World) (b : Nat) (f : List Nat → List (Int × ByteArray)) (hb : b < W6.heap.size) (hw : w.heap.size ≤ W6.heap.size) : OwnFrom W6.heap.size (PlI w W6 b f) := by
  rintro pre W W' row ⟨v, h1, h2, h3, h7, h8⟩ hg hr
  refine ⟨v, h1.kept hg (fun e => ?_), row_kept h2 hg (fun r e => (hr r e).2), fun k hk hkb => (hg.block k (by omega) (fun e => ?_)).trans (h3 k hk hkb), h7.grown hg h7.size (fun k e => ?_), by have := hg.size; omega⟩
  · have := (hr _ e.symm).1; omega
  · have := (hr _ e.symm).1; omega
  · have := (hr k e).1; omega
theorem plI_st (w W6 : World) (b : Nat) (f : List Nat → List (Int × ByteArray)) (hb : b < W6.heap.size) (pre : List Nat) (A B : World) (h : PlI w W6 b f pre A) (hs : Below A.heap.size A B) : PlI w W6 b f pre B := by
  obtain ⟨v, h1, h2, h3, h7, h8⟩ := h
  exact ⟨v, (hs.block _ h1.lt).trans h1, own_move h2 (fun k hk => hs.block k (own_lt h2 k hk)), fun k hk hkb => (hs.block k (by omega)).trans (h3 k hk hkb), below_step h7 hs, Nat.le_trans h8 hs.size⟩
theorem info_w : (Tryz.prog.info? 58).map (fun i => (i.zero, i.size, i.bytes)) = some (some (.agg #[.int .i64 0, .string ⟨#[]⟩]), 2, 24) := by kernel_rfl
theorem pl_app {B : Nat} {W W2 : World} {v : Value} {xs : List Value} {n : Nat} (ys : List (Int × ByteArray)) (hy : 0 < ys.length) (hn : n + ys.length ≤ 200000) (h : W.ownsRow B 58 2 v n xs) (hb : Below W.heap.size W W2) (hB : B ≤ W.heap.size) :
    ∃ g' cap' w', (Builtin.append_ #[24, 24] 24 #[v, .slice (some ⟨W2.heap.size, 0, none⟩) ys.length ys.length]).run Tryz.prog (W2.alloc (.cells (wcells ys).toArray 58)) = .ok (.slice (some ⟨g', 0, none⟩) (n + ys.length) cap') w' ∧
      w'.ownsRow B 58 2 (.slice (some ⟨g', 0, none⟩) (n + ys.length) cap') (n + ys.length) (xs ++ wcells ys) ∧ (W2.alloc (.cells (wcells ys).toArray 58)).grownBy w' v.ownBlock ∧ (W.heap.size ≤ g' ∨ v.ownBlock = some g') := by
  obtain ⟨i0, hi, hz0, hz1, hz2⟩ := info_parts info_w
  have h2 : W2.ownsRow B 58 2 v n xs := own_move h (fun k hk => hb.block k (own_lt h k hk))
  have hwl : ∀ zs : List (Int × ByteArray), (wcells zs).length = zs.length * 2 := fun zs => by
    induction zs with
    | nil => rfl
    | cons z zs ih => unfold wcells at ih ⊢; simp only [List.flatMap_cons, List.length_append, List.length_cons, List.length_nil]; omega
  have hc : ∀ j u, (wcells ys)[j]? = some u → (W2.alloc (.cells (wcells ys).toArray 58)).cell? ((⟨W2.heap.size, 0, none⟩ : Addr).add j) = some u := by
    intro j u hu
    have := (blk_cell (World.alloc_heap_new W2 (.cells (wcells ys).toArray 58)) j)
    rw [show (Addr.add ⟨W2.heap.size, 0, none⟩ j) = ⟨W2.heap.size, j, none⟩ by simp [Addr.add]; intro e; exact e.symm]
    rw [this]
    simpa using hu
  have h1 : ∀ u ∈ wcells ys, u.oneCell' = true := by
    intro u hu
    unfold wcells at hu
    obtain ⟨x, _, hx⟩ := List.mem_flatMap.1 hu
    simp at hx
    rcases hx with rfl | rfl <;> rfl
  obtain ⟨v', w', hrun, hown, hg, _, hat⟩ := run_append_own_at (P := Tryz.prog) (W2.alloc (.cells (wcells ys).toArray 58)) B 24 24 58 i0 (.agg #[.int .i64 0, .string ⟨#[]⟩]) 2 24 Tryz.underlying24 hi hz0 hz1 hz2 rfl (by decide) v n xs (h2.alloc _) ⟨W2.heap.size, 0, none⟩ ys.length ys.length (wcells ys) (hwl ys) hc h1 (by unfold maxLen; omega) (by omega) (by have := hb.size; simp; omega)
  obtain ⟨g', cap', rfl⟩ : ∃ g' cap', v' = .slice (some ⟨g', 0, none⟩) (n + ys.length) cap' := by
    rcases hown.2 with ⟨_, e⟩ | ⟨g, cap, cur, e, _⟩
    · omega
    · exact ⟨g, cap, e⟩
  refine ⟨g', cap', w', hrun, hown, hg, ?_⟩
  rcases hat with e | e
  · exact .inr (by simpa [Value.ownBlock] using e.symm)
  · refine .inl ?_
    have : g' = W2.heap.size + 1 := by simpa [Value.ownBlock] using e
    have := hb.size
    omega
theorem KpB.of_below {b L : Nat} {A B : World} (h : Below A.heap.size A B) (hb : b < A.heap.size) : KpB b L A B :=
  ⟨h.size, fun k hk _ _ _ => h.block k hk, fun k hk => .inl (by rw [← ownB_below h hb]; exact hk)⟩
theorem toList_inj {r x : ByteArray} (h : r.toList = x.toList) : r = x := by
  rw [ByteArray.toList_eq, ByteArray.toList_eq] at h
  cases r; cases x
  simp only [ByteArray.mk.injEq]
  exact Array.toList_inj.1 h
theorem pl_more {w W6 W W2 w3 : World} {b k g' cap' : Nat} {f : List Nat → List (Int × ByteArray)} {pre : List Nat} {y : Int × ByteArray} {v : Value} {a : Act} (hbz : b < W6.heap.size) (hw6 : w.heap.size ≤ W6.heap.size) (hb : Below W.heap.size W W2) (h1 : Boxed W b 24 v)
    (i2 : W.ownsRow W6.heap.size 58 2 v (f pre).length (wcells (f pre))) (h3 : ∀ k, k < W6.heap.size → k ≠ b → W.heap[k]? = W6.heap[k]?) (h7 : Below w.heap.size w W) (h8 : W6.heap.size ≤ W.heap.size) (hv : Boxed w3 b 24 v)
    (ho : w3.ownsRow W6.heap.size 58 2 (.slice (some ⟨g', 0, none⟩) ((f pre).length + 1) cap') ((f pre).length + 1) (wcells (f pre) ++ [.int .i64 y.1, .string y.2])) (hg : (W2.alloc (.cells [.int .i64 y.1, .string y.2].toArray 58)).grownBy w3 v.ownBlock) (hf : f (pre ++ [k]) = f pre ++ [y]) (hg' : W.heap.size ≤ g' ∨ v.ownBlock = some g') (hwb : w.heap.size ≤ b) :
    ownPostK (KpB b (W6.heap.size + 1)) (PlI w W6 b f) (fun _ _ _ => False) (pre ++ [k]) W .normal a (w3.setCell ⟨b, 0, none⟩ (.slice (some ⟨g', 0, none⟩) ((f pre).length + 1) cap')) := by
  have hne : ∀ k, v.ownBlock = some k → W6.heap.size ≤ k := fun k e => own_base i2 k e
  have k2 : KeepsOthers W W2 := ⟨hb.size, fun k o h _ => (hb.block k (Array.getElem?_eq_some_iff.1 h).1).trans h⟩
  have i7 : Below w.heap.size w W2 := below_step h7 hb
  have i8 : W6.heap.size ≤ W2.heap.size := Nat.le_trans h8 hb.size
  have j2 : W2.ownsRow W6.heap.size 58 2 v (f pre).length (wcells (f pre)) := own_move i2 (fun k hk => hb.block k (own_lt i2 k hk))
  have hz := (grownBy_setCell' w3 b (.slice (some ⟨g', 0, none⟩) ((f pre).length + 1) cap')).size
  have hz2 := hg.size
  have hkeep : ∀ k, k < W.heap.size → k ≠ b → v.ownBlock ≠ some k → (w3.setCell ⟨b, 0, none⟩ (.slice (some ⟨g', 0, none⟩) ((f pre).length + 1) cap')).heap[k]? = W.heap[k]? := fun k h1 h2 h3 => by
    refine (Below.heap_setCell _ _ _ _ (by show k ≠ b; omega)).trans ((hg.block k (by have := hb.size; simp; omega) (fun e => h3 e.symm)).trans ((Lib.alloc_old _ _ _ (by have := hb.size; omega)).trans (hb.block k (by omega))))
  have hcb : (w3.setCell ⟨b, 0, none⟩ (.slice (some ⟨g', 0, none⟩) ((f pre).length + 1) cap')).cell? ⟨b, 0, none⟩ = some (.slice (some ⟨g', 0, none⟩) ((f pre).length + 1) cap') := (hv.set _).cell
  refine ⟨((k2.trans (KeepsOthers.alloc _ _)).trans (KeepsOthers.of_grownBy hg fun j o e ho' => ?_)).trans (KeepsOthers.setCell _ _ _), ⟨?_, fun k h1' h2' h3' h4' => hkeep k h1' h2' (fun e => h4' ?_), fun k hk => ?_⟩, _, hv.set _, ?_, ?_, ?_, ?_⟩
  · obtain ⟨cells, hc⟩ := own_typed (j2.alloc _) j e
    rw [hc] at ho'
    cases ho'
    rfl
  · simp at hz2
    have := hb.size
    omega
  · unfold ownB
    rw [h1.cell]
    exact e
  · unfold ownB at hk ⊢
    rw [hcb] at hk
    rw [h1.cell]
    have hk' : g' = k := by simpa [Value.ownBlock] using hk
    subst hk'
    rcases hg' with h | h
    · exact .inr h
    · exact .inl h
  · rw [hf, List.length_append]
    have e : wcells (f pre ++ [y]) = wcells (f pre) ++ [.int .i64 y.1, .string y.2] := by simp [wcells]
    rw [e]
    exact row_other ho hbz _
  · exact fun k hk hkb => (hkeep k (by omega) hkb (fun e => by have := hne k e; omega)).trans (h3 k hk hkb)
  · exact ((i7.alloc i7.size _).grown hg (by simp; have := hb.size; omega) (fun k e => by have := hne k e; omega)).setCell (p := ⟨b, 0, none⟩) hwb _
  · simp at hz2
    have := hb.size
    omega
theorem book_bytes {next keep n : Nat} (h1 : next ≤ 2147483647) (h2 : keep ≤ 2000) (h3 : n ≤ 2000) : ∀ x ∈ bookL next keep n ++ List.replicate (2 * n) 0, 0 ≤ x ∧ x < 256 := by
  intro x hx
  rcases List.mem_append.1 hx with hx | hx
  · simp [bookL, le4] at hx
    omega
  · obtain ⟨_, rfl⟩ := List.mem_replicate.1 hx
    omega
theorem C_blkU {W W' : World} {A : Option Addr} {n : Nat} {xs : List Int} (h : Kd.C (Kd.int .u8) W A n xs) (hb : 0 < n → ∀ ad, A = some ad → W'.heap[ad.block]? = W.heap[ad.block]?) : Kd.C (Kd.int .u8) W' A n xs := by
  refine ⟨h.1, h.2.1, fun hn => ?_⟩
  obtain ⟨ad, e, hc⟩ := h.2.2 hn
  refine ⟨ad, e, fun j p hj => ?_⟩
  obtain ⟨c, h1, h2, h3⟩ := hc j p hj
  exact ⟨c, h1, h2, fun i u hu => (cell_blk (p := ad.add (j * (Kd.int .u8).sz + i)) (by rw [show (ad.add (j * (Kd.int .u8).sz + i)).block = ad.block by unfold Addr.add; split <;> rfl]; exact hb hn ad e)).trans (h3 i u hu)⟩
theorem R_capmax {w : World} {base n c : Nat} {ok : Nat → Prop} {A : Option Addr} {xs : List Int} (h : (Kd.int .u8).R 5 w base ok (.slice A n c) xs) : c ≤ 9223372036854775807 := by
  obtain ⟨inner, ho⟩ := Kd.R_own h
  rcases ho.2 with ⟨hv, _⟩ | ⟨g, cap, cur, hv, _, _, _, hm, _⟩
  · cases hv; omega
  · cases hv; exact hm
set_option maxHeartbeats 4000000 in
set_option maxRecDepth 100000 in
theorem plan_walk (A : Option Addr) (n c keep next gen : Nat) (A0 : Option Addr) (c0 : Nat) (l0 : List ByteArray) (w : World) (hz : ZC w A n) (hn : n ≤ 2000) (hk : keep ≤ 2000) (hx : next ≤ 2147483647) (hg : gen ≤ 2147483646)
    (hr0 : Kd.C Kd.string w A0 l0.length l0) (hc0 : l0.length ≤ c0) (hl0 : l0.length ≤ 100000) (hcells : cellsF l0.length = n) (hfit : ∀ k, k < piecesN (bookB next keep n).length → atF n gen k < l0.length) :
    Calls Tryz.prog 26 #[.agg #[.slice A0 l0.length c0, .slice none 0 0], .agg #[.slice A n c, .int .i64 keep, .slice none 0 0, .slice none 0 0, .int .i64 next, .int .i64 gen]] w fun e w' => ∃ v, ∃ s : Nat, e = .returned (.tuple #[v, .int .i64 0]) ∧ sumF (bookB next keep n) = (s : Int) ∧ s < 4294967296 ∧ w'.ownsRow w.heap.size 58 2 v ((writesF l0 (bookB next keep n) n gen (List.range (piecesN (bookB next keep n).length))).length + 3) (wcells (writesF l0 (bookB next keep n) n gen (List.range (piecesN (bookB next keep n).length))) ++ wcells [(-1, ⟨#[]⟩), (((gen : Int) + 1) % 2, sealS (slotL (gen + 1) (bookB next keep n).length s)), (-1, ⟨#[]⟩)]) ∧ Below w.heap.size w w' := by
  refine (callsIn_wide (n := 10)).1 ?_
  refine callsIn_of_wp_marks Tryz.func26 rfl trivial ?_ rfl
  simp only [Tryz.ntmps26, List.size_toArray, List.length_cons, List.length_nil, Nat.reduceAdd, Nat.reduceSub, Array.replicate_succ, Array.replicate_zero, List.push_toArray, List.append_toArray, List.nil_append, List.cons_append]
  refine wpIn_wide.2 ?_
  have HZ := Aside0.mk hz
  have HN := Aside0.mk (And.intro hn (And.intro hk (And.intro hx hg)))
  have HR0 := Aside0.mk hr0
  have HL0 := Aside0.mk (And.intro hc0 hl0)
  have HCE := Aside0.mk hcells
  have HF := Aside0.mk hfit
  clear hz hn hk hx hg hr0 hc0 hl0 hcells hfit
  go_upto_region 2 with fail
  generalize hW : ((w.alloc _).alloc _).alloc _ = W
  have K0 := Aside0.mk (show W.heap[w.heap.size]? = some (.cells #[.slice A0 l0.length c0, .slice none 0 0] 26 (0, 0)) from hW ▸ blk_alloc (blk_alloc (blk_new _ _) _) _)
  have K1 := Aside0.mk (show W.heap[w.heap.size + 1]? = some (.cells #[.slice A n c, .int .i64 keep, .slice none 0 0, .slice none 0 0, .int .i64 next, .int .i64 gen] 33 (0, 0)) from hW ▸ blk_alloc (by have h := blk_new (w.alloc (.cells #[.slice A0 l0.length c0, .slice none 0 0] 26)) (.cells #[.slice A n c, .int .i64 keep, .slice none 0 0, .slice none 0 0, .int .i64 next, .int .i64 gen] 33); rw [World.size_alloc] at h; exact h) _)
  have K2 := Aside0.mk (show W.heap[w.heap.size + 1 + 1]? = some (.cells (comV A n c keep next gen none 0 0) 95 (0, 0)) from hW ▸ by
    have h := blk_new ((w.alloc (.cells #[.slice A0 l0.length c0, .slice none 0 0] 26)).alloc (.cells #[.slice A n c, .int .i64 keep, .slice none 0 0, .slice none 0 0, .int .i64 next, .int .i64 gen] 33)) (.cells (comV A n c keep next gen none 0 0) 95)
    rw [World.size_alloc, World.size_alloc] at h
    exact h)
  have HBW := Aside0.mk (show Below w.heap.size w W from hW ▸ below_alloc (below_alloc (below_alloc (Below.refl _ _) _) _) _)
  clear hW
  go_cut [34] from 27 to 34 (fun v34 wc => v34 = .bool false ∧ Aside0 (Below W.heap.size W wc))
  case first =>
    have b0 := (blk_cell K0.out 0).trans (show _ = some (Value.slice A0 l0.length c0) from rfl)
    have b2 := (blk_cell K2.out 0).trans (show _ = some (Value.int .i64 n) from rfl)
    go_region_held3 (fun w' => w'.cell? ⟨w.heap.size, 0, none⟩ = some (.slice A0 l0.length c0) ∧ w'.cell? ⟨w.heap.size + 1 + 1, 0, none⟩ = some (.int .i64 n)) (first | exact ⟨b0, b2⟩ | exact (fun (h : Below W.heap.size W _) => ⟨(h.cell (World.block_lt_of_cell? _ _ b0)).trans b0, (h.cell (World.block_lt_of_cell? _ _ b2)).trans b2⟩) (by repeat (first | (with_reducible exact Below.refl _ _) | (with_reducible refine below_alloc ?_ _) | (with_reducible refine below_drew1 ?_) | (with_reducible refine pw_below_drewN ?_ _) | (with_reducible exact HB2.out)))) (first | (go_at_call 16; (with_reducible refine (cells_walk l0.length _ (by have := HL0.out.2; omega)).mono ?_); rintro e w2 ⟨rfl, hb2⟩; rw [HCE.out]; have HB2 := Aside0.mk (show Below W.heap.size W w2 from below_step (by repeat (first | (with_reducible exact Below.refl _ _) | (with_reducible refine below_alloc ?_ _) | (with_reducible refine below_drew1 ?_) | (with_reducible refine pw_below_drewN ?_ _) | fail)) hb2); clear hb2) | fail)
    all_goals
      go_wp2
      go_meet
      case rel => exact ⟨by first | rfl | (simp; done), HB2⟩
  case rest =>
    obtain ⟨rfl, HB2⟩ := hcut
    have HBW2 := Aside0.mk (show Below w.heap.size w wc from below_step HBW.out HB2.out)
    have L0 := Aside0.mk (blk_below K0.out HB2.out)
    have L1 := Aside0.mk (blk_below K1.out HB2.out)
    have L2 := Aside0.mk (blk_below K2.out HB2.out)
    clear K0 K1 K2 HB2 HBW
    have d0 := (blk_cell L1.out 0).trans (show _ = some (Value.slice A n c) from rfl)
    have d1 := (blk_cell L1.out 1).trans (show _ = some (Value.int .i64 keep) from rfl)
    have d2 := (blk_cell L1.out 2).trans (show _ = some (Value.slice none 0 0) from rfl)
    have d3 := (blk_cell L1.out 3).trans (show _ = some (Value.slice none 0 0) from rfl)
    have d4 := (blk_cell L1.out 4).trans (show _ = some (Value.int .i64 next) from rfl)
    have d5 := (blk_cell L1.out 5).trans (show _ = some (Value.int .i64 gen) from rfl)
    have q2 : ((gen : Int) == 2147483647) = false := beq_eq_false_iff_ne.mpr (by have := HN.out; omega)
    have HD5 := Aside0.mk d5
    obtain ⟨bk, hbk⟩ : ∃ bk, bookL next keep n ++ List.replicate (2 * n) 0 = bk := ⟨_, rfl⟩
    have HBK := Aside0.mk hbk
    clear hbk
    go_upto_region 5 with (first | (go_at_call 43; (with_reducible refine (book_walk A n c keep next gen _ (ZC_below HZ.out HBW2.out) HN.out.1 HN.out.2.1 HN.out.2.2.1).mono ?_); rintro e w3 ⟨v, rfl, ho, hb3⟩; rw [HBK.out] at ho; obtain ⟨A3, c3, rfl⟩ := Kd.R_slice ho; have HO3 := Aside0.mk ho; have HB3 := Aside0.mk hb3; have e5 := (hb3.cell (World.block_lt_of_cell? _ _ HD5.out)).trans HD5.out; clear ho hb3) | fail)
    clear d0 d1 d2 d3 d4 d5 HD5
    have M0 := Aside0.mk (blk_below L0.out HB3.out)
    have M1 := Aside0.mk (blk_below L1.out HB3.out)
    have M2 := Aside0.mk (blk_below L2.out HB3.out)
    have HBW3 := Aside0.mk (show Below w.heap.size w w3 from below_step HBW2.out HB3.out)
    have lz := Aside0.mk (blk_lt L2.out)
    clear L0 L1 L2 HB3
    have f7 := blk_frozen M2.out 7
    have g7 := (blk_cell M2.out 7).trans (show _ = some (Value.slice none 0 0) from rfl)
    go_upto_region 8 with fail
    generalize hW4 : w3.setCell _ _ = W4
    have N0 := Aside0.mk (show W4.heap[w.heap.size]? = some (.cells #[.slice A0 l0.length c0, .slice none 0 0] 26 (0, 0)) from hW4 ▸ blk_far M0.out (by show w.heap.size ≠ w.heap.size + 1 + 1; omega) _)
    have N1 := Aside0.mk (show W4.heap[w.heap.size + 1]? = some (.cells #[.slice A n c, .int .i64 keep, .slice none 0 0, .slice none 0 0, .int .i64 next, .int .i64 gen] 33 (0, 0)) from hW4 ▸ blk_far M1.out (by show w.heap.size + 1 ≠ w.heap.size + 1 + 1; omega) _)
    have N2 := Aside0.mk (show W4.heap[w.heap.size + 1 + 1]? = some (.cells (comV A n c keep next gen A3 bk.length c3) 95 (0, 0)) from hW4 ▸ blk_put M2.out 7 _ rfl)
    have HBW4 := Aside0.mk (show Below w.heap.size w W4 from hW4 ▸ HBW3.out.setCell (p := ⟨w.heap.size + 1 + 1, 7, none⟩) (by show w.heap.size ≤ w.heap.size + 1 + 1; omega) _)
    have HC4 := Aside0.mk (show Kd.C (Kd.int .u8) W4 A3 bk.length bk from hW4 ▸ C_blkU (Kd.R_reads' HO3.out).2.2 (fun _ ad e => Below.heap_setCell _ _ _ _ (by subst e; obtain ⟨g, rfl⟩ := Kd.R_head HO3.out; have h1 := ((Kd.R_bound HO3.out).1 g rfl).2.1; have h2 := lz.out; show g ≠ w.heap.size + 1 + 1; omega)))
    have HCAP := Aside0.mk (show bk.length ≤ c3 ∧ c3 ≤ 9223372036854775807 from ⟨(Kd.R_reads' HO3.out).2.1, R_capmax HO3.out⟩)
    clear hW4 M0 M1 M2 HBW3 lz HO3 e5 f7 g7
    go_upto_region 9 with fail
    have hbN := Boxed.new W4 24 (.slice none 0 0)
    have hzN := World.size_alloc W4 (.cells #[.slice none 0 0] 24)
    have O0 := Aside0.mk (blk_alloc N0.out (.cells #[.slice none 0 0] 24))
    have O1 := Aside0.mk (blk_alloc N1.out (.cells #[.slice none 0 0] 24))
    have O2 := Aside0.mk (blk_alloc N2.out (.cells #[.slice none 0 0] 24))
    have HBW5 := Aside0.mk (below_alloc HBW4.out (.cells #[.slice none 0 0] 24))
    have HC5 := Aside0.mk (Kd.C_alloc HC4.out (.cells #[.slice none 0 0] 24))
    have lb := blk_lt N2.out
    have la : ∀ ad, A3 = some ad → 0 < bk.length → ad.block < W4.heap.size := fun ad e hn => by subst e; exact Kd.C_lt HC4.out hn (by decide)
    clear N0 N1 N2 HBW4 HC4
    revert hbN hzN O0 O1 O2 HBW5 HC5 lb la
    generalize W4.alloc (.cells #[.slice none 0 0] 24) = W5
    generalize W4.heap.size = b
    intro hbN hzN O0 O1 O2 HBW5 HC5 lb la
    have LA := Aside0.mk la
    clear la
    have c0' := (blk_cell O2.out 0).trans (show _ = some (Value.int .i64 n) from rfl)
    have c1' := (blk_cell O2.out 1).trans (show _ = some (Value.slice A n c) from rfl)
    have c2' := (blk_cell O2.out 2).trans (show _ = some (Value.int .i64 keep) from rfl)
    have c3' := (blk_cell O2.out 3).trans (show _ = some (Value.slice none 0 0) from rfl)
    have c4' := (blk_cell O2.out 4).trans (show _ = some (Value.slice none 0 0) from rfl)
    have c5' := (blk_cell O2.out 5).trans (show _ = some (Value.int .i64 next) from rfl)
    have c6' := (blk_cell O2.out 6).trans (show _ = some (Value.int .i64 gen) from rfl)
    have c7' := (blk_cell O2.out 7).trans (show _ = some (Value.slice A3 bk.length c3) from rfl)
    have HBN := Aside0.mk hbN
    have HZN := Aside0.mk hzN
    have LB := Aside0.mk lb
    clear hbN hzN lb
    go_wp2_with (first | (go_at_call 44; (with_reducible refine (blocks_walk _ _ rfl).mono ?_); rintro e w6 ⟨rfl, rfl⟩) | fail)
    have hbN := HBN.out
    have Q0 := Aside0.mk (blk_alloc O0.out (.cells (comV A n c keep next gen A3 bk.length c3) 95))
    have Q1 := Aside0.mk (blk_alloc O1.out (.cells (comV A n c keep next gen A3 bk.length c3) 95))
    have Q2 := Aside0.mk (blk_new W5 (.cells (comV A n c keep next gen A3 bk.length c3) 95))
    have QB := Aside0.mk (hbN.alloc (.cells (comV A n c keep next gen A3 bk.length c3) 95))
    have HBW6 := Aside0.mk (below_alloc HBW5.out (.cells (comV A n c keep next gen A3 bk.length c3) 95))
    have HC6 := Aside0.mk (Kd.C_alloc HC5.out (.cells (comV A n c keep next gen A3 bk.length c3) 95))
    have hz6 := World.size_alloc W5 (.cells (comV A n c keep next gen A3 bk.length c3) 95)
    rw [HZN.out] at Q2 hz6 ⊢
    have HZ6 := Aside0.mk hz6
    clear O0 O1 O2 HBN HBW5 HC5 hbN hz6 c0' c1' c2' c3' c4' c5' c6' c7'
    obtain ⟨W6, hW6⟩ : ∃ W6, W5.alloc (.cells (comV A n c keep next gen A3 bk.length c3) 95) = W6 := ⟨_, rfl⟩
    have hW6' : W5.alloc (.cells #[.int .i64 n, .slice A n c, .int .i64 keep, .slice none 0 0, .slice none 0 0, .int .i64 next, .int .i64 gen, .slice A3 bk.length c3] 95) = W6 := hW6
    rw [hW6'] at ⊢
    rw [hW6] at Q0 Q1 Q2 QB HBW6 HC6 HZ6
    clear hW6 hW6'
    refine (wpIn_wide (n := 10)).1 ?_
    have hN := HN.out
    refine range_st (F := Fence.wide) (n := 10) rfl (by decide) (gf := 72) (lb := #[.pointer (some ⟨b + 1, 0, none⟩)]) rfl trivial (enters_of Tryz.func72 (by kernel_rfl) rfl)
      (blocksIter 9 (b + 1) b A n c keep next gen A3 c3 bk W6 (by have := HZ6.out; omega) (by have := HZ6.out; omega) (by omega) Q2.out (ZC_below HZ.out HBW6.out) HC6.out ?hbl HCAP.out.1 HCAP.out.2 hN.1 hN.2.2.2 ?ho) (fun h1 h2 => h1.trans h2) ?hkb (fun _ => rfl) ?hst (PlI w W6 b (writesF l0 bk n gen)) (fun _ _ _ => False) (plI_own w W6 b _ (by have := HZ6.out; omega) HBW6.out.size) (plI_st w W6 b _ (by have := HZ6.out; omega)) (fun _ _ _ _ _ h => h.elim) ?h0
      ?a1 ?assign ?body ?done ?stop
    case hbl => rw [← HBK.out]; have := hN.1; simp [bookL, le4]; omega
    case ho => unfold ownB; rw [QB.out.cell]; rfl
    case hkb => exact fun W l o' hl hs => by subst hl; exact KpB.put W o' (by have := HZ6.out; omega)
    case hst =>
      rintro A B l o hst ho hl
      exact (hst.block l (Array.getElem?_eq_some_iff.1 ho).1).trans ho
    case h0 => exact ⟨.slice none 0 0, QB.out, World.ownsRow_nil _ _ _ _, fun _ _ _ => rfl, HBW6.out, Nat.le_refl _⟩
    case assign =>
      intro l x W K hK
      gi_wp2
      exact hK
    case body =>
      rintro l2 pre k W ⟨v, h1, h2, h3, h7, h8⟩ hlen hsp
      have hk := mem_range_pre hsp
      have hat : atF n gen k < l0.length := HF.out k (by unfold bookB; rw [HBK.out]; exact hk)
      have g0 : W.heap[w.heap.size]? = some (.cells #[.slice A0 l0.length c0, .slice none 0 0] 26 (0, 0)) := (h3 _ (by have := HZ6.out; have := LB.out; omega) (by have := LB.out; omega)).trans Q0.out
      have d0 := (blk_cell g0 0).trans (show _ = some (Value.slice A0 l0.length c0) from rfl)
      have d1 := (blk_cell g0 1).trans (show _ = some (Value.slice none 0 0) from rfl)
      have hrd := read_walk A0 c0 l0 ((atF n gen k : Nat) : Int) W (Kd.C_below HR0.out h7) HL0.out.1 (by omega) (by omega)
      have hl2 : (writesF l0 bk n gen pre).length ≤ 100000 := by
        have h1 := List.length_filterMap_le (fun k => if rdOf ByteArray.empty l0 ((atF n gen k : Nat) : Int) = chunkS bk k then none else some (((atF n gen k : Nat) : Int), chunkS bk k)) pre
        have h2 : (writesF l0 bk n gen pre).length ≤ pre.length := h1
        have h3 : bk.length ≤ 5000 := by rw [← HBK.out]; have := hN.1; simp [bookL, le4]; omega
        unfold piecesN at hlen
        omega
      obtain ⟨r, hr⟩ : ∃ r, r = rdOf ByteArray.empty l0 ((atF n gen k : Nat) : Int) := ⟨_, rfl⟩
      obtain ⟨x, hx⟩ : ∃ x, x = chunkS bk k := ⟨_, rfl⟩
      obtain ⟨q, hq⟩ : ∃ q, q = atF n gen k := ⟨_, rfl⟩
      have hwr : writesF l0 bk n gen (pre ++ [k]) = writesF l0 bk n gen pre ++ (if r = x then [] else [((q : Int), x)]) := by
        unfold writesF; rw [List.filterMap_append, hr, hx, hq]; simp only [List.filterMap_cons, List.filterMap_nil]; split <;> split <;> simp_all
      rw [← hr, ← hq] at hrd
      rw [← hx, ← hq]
      have HX := Aside0.mk hwr
      have HRD := Aside0.mk hrd
      have H1 := Aside0.mk h1
      have H2 := Aside0.mk h2
      have H3 := Aside0.mk h3
      have H7 := Aside0.mk h7
      have H8 := Aside0.mk h8
      have HLE := Aside0.mk hl2
      clear hk hat g0 hrd hl2 hr hx hq hwr h1 h2 h3 h7 h8 hlen hsp
      gi_wp2_with fail
      refine ⟨trivial, ?_⟩
      refine (CallsIn.inRound l2 (callsIn_wide.2 HRD.out)).mono ?_
      rintro e2 W2 ⟨rfl, hb⟩
      have HB2 := Aside0.mk hb
      have h12 : Boxed W2 b 24 v := (hb.block _ H1.out.lt).trans H1.out
      have b2 := h12.cell
      have f2 := h12.frozen
      have s2 := h12.lt
      have H12 := Aside0.mk h12
      clear hb h12
      by_cases he : r = x
      · have HE := Aside0.mk he
        have e1 : (r.toList == x.toList) = true := by rw [he]; exact beq_self_eq_true _
        clear he
        gi_wp2
        have hk2 : KeepsOthers W W2 := ⟨HB2.out.size, fun k o h _ => (HB2.out.block k (Array.getElem?_eq_some_iff.1 h).1).trans h⟩
        obtain ⟨i1, i2, i3, i4, i5⟩ := plI_st w W6 b (writesF l0 bk n gen) (by have := HZ6.out; omega) pre W W2 ⟨v, H1.out, H2.out, H3.out, H7.out, H8.out⟩ HB2.out
        refine ⟨hk2, KpB.of_below HB2.out H1.out.lt, i1, ?_⟩
        rw [HX.out, if_pos HE.out, List.append_nil]
        exact ⟨i2, i3, i4, i5⟩
      · have HE := Aside0.mk he
        have e1 : (r.toList == x.toList) = false := beq_eq_false_iff_ne.mpr (fun h => he (toList_inj h))
        obtain ⟨g', cap', w3', hrun, hown', hgrow, hgg⟩ := pl_app [((q : Int), x)] (by simp) (by have := HLE.out; simp; omega) H2.out HB2.out H8.out
        simp only [List.length_cons, List.length_nil, Nat.zero_add, Nat.reduceAdd, wcells, List.flatMap_cons, List.flatMap_nil, List.append_nil] at hrun hgrow
        have h13 : Boxed w3' b 24 v := (H12.out.alloc _).kept hgrow (fun e => by have := own_base H2.out _ e.symm; have := HZ6.out; omega)
        have b3 := h13.cell
        have f3 := h13.frozen
        have HO3 := Aside0.mk hown'
        have HG3 := Aside0.mk hgrow
        have H13 := Aside0.mk h13
        have HGG := Aside0.mk hgg
        clear he hown' hgrow h13 hgg
        gi_wp2
        obtain ⟨e1, e2, e3⟩ := pl_more (a := ⟨#[], []⟩) (by have := HZ6.out; omega) HBW6.out.size HB2.out H1.out H2.out H3.out H7.out H8.out H13.out HO3.out HG3.out (by rw [HX.out, if_neg HE.out]) HGG.out (by have := LB.out; omega)
        exact ⟨e1, e2, e3⟩
    case done =>
      rintro D ys W hD rfl ⟨v, h1, h2, h3, h7, h8⟩ hK
      have hbook : bookB next keep n = bk := HBK.out
      have hlb : bk.length ≤ 5000 := by rw [← HBK.out]; have := hN.1; simp [bookL, le4]; omega
      have hl2 : (writesF l0 bk n gen (List.range (piecesN bk.length))).length ≤ 100000 := by
        have h1 := List.length_filterMap_le (fun k => if rdOf ByteArray.empty l0 ((atF n gen k : Nat) : Int) = chunkS bk k then none else some (((atF n gen k : Nat) : Int), chunkS bk k)) (List.range (piecesN bk.length))
        have h2 : (writesF l0 bk n gen (List.range (piecesN bk.length))).length ≤ (List.range (piecesN bk.length)).length := h1
        have h3 : (List.range (piecesN bk.length)).length = piecesN bk.length := List.length_range
        have h4 : piecesN bk.length ≤ 100000 := by unfold piecesN; omega
        omega
      obtain ⟨L, hL⟩ : ∃ L, L = writesF l0 bk n gen (List.range (piecesN bk.length)) := ⟨_, rfl⟩
      rw [← hL] at h2 hl2
      have g1 := (h3 (w.heap.size + 1) (by have := HZ6.out; have := LB.out; omega) (by have := LB.out; omega)).trans Q1.out
      have d5 := (blk_cell g1 5).trans (show _ = some (Value.int .i64 gen) from rfl)
      have hCW : Kd.C (Kd.int .u8) W A3 bk.length bk := C_blkU HC6.out (fun hn ad e => h3 _ (by have := LA.out ad e hn; have := HZ6.out; omega) (by have := LA.out ad e hn; omega))
      have hbytes := book_bytes (next := next) (keep := keep) (n := n) hN.2.2.1 hN.2.1 hN.1
      rw [HBK.out] at hbytes
      have hsb := slotBook_walk A3 c3 bk W hCW hbytes (by omega)
      obtain ⟨g, hg⟩ : ∃ g, g = gen + 1 := ⟨_, rfl⟩
      have r1 : wrap64 ((gen : Int) + 1) = (g : Int) := by have := hN.2.2.2; rw [hg]; unfold wrap64; omega
      have hsp : ∀ (s : Nat) (w : World), s < 4294967296 → _ := fun s w hs => slotPrint_walk g bk.length s w (by rw [hg]; exact Nat.succ_le_succ (Nat.zero_le _)) (by rw [hg]; exact Nat.succ_le_succ hN.2.2.2) (Nat.le_trans hlb (by decide)) (Nat.le_of_lt_succ hs)
      have happ : ∀ (wa : World) (s : Nat), Below W.heap.size W wa → ∃ g9 cap9 w9, (Builtin.append_ #[24, 24] 24 #[v, .slice (some ⟨wa.heap.size + 1, 0, none⟩) 3 3]).run Tryz.prog ((wa.alloc (.cells #[.int .i64 (-1), .string ⟨#[]⟩] 58)).alloc (.cells #[.int .i64 (-1), .string ⟨#[]⟩, .int .i64 ((g : Int) % 2), .string (sealS (slotL g bk.length s)), .int .i64 (-1), .string ⟨#[]⟩] 58)) = .ok (.slice (some ⟨g9, 0, none⟩) (L.length + 3) cap9) w9 ∧
          Aside0 (w9.ownsRow W6.heap.size 58 2 (.slice (some ⟨g9, 0, none⟩) (L.length + 3) cap9) (L.length + 3) (wcells L ++ wcells [(-1, ⟨#[]⟩), ((g : Int) % 2, sealS (slotL g bk.length s)), (-1, ⟨#[]⟩)])) ∧
          Aside0 (((wa.alloc (.cells #[.int .i64 (-1), .string ⟨#[]⟩] 58)).alloc (.cells #[.int .i64 (-1), .string ⟨#[]⟩, .int .i64 ((g : Int) % 2), .string (sealS (slotL g bk.length s)), .int .i64 (-1), .string ⟨#[]⟩] 58)).grownBy w9 v.ownBlock) := by
        intro wa s hba
        obtain ⟨g9, cap9, w9, hrun, hown, hgrow, _⟩ := pl_app [(-1, ⟨#[]⟩), ((g : Int) % 2, sealS (slotL g bk.length s)), (-1, ⟨#[]⟩)] (by simp) (by simp; omega) h2 (show Below W.heap.size W (wa.alloc (.cells #[.int .i64 (-1), .string ⟨#[]⟩] 58)) from below_alloc hba _) h8
        rw [World.size_alloc] at hrun
        exact ⟨g9, cap9, w9, hrun, ⟨hown⟩, ⟨hgrow⟩⟩
      have HAPP := Aside0.mk happ
      clear happ
      have HSB := Aside0.mk hsb
      have HSP := Aside0.mk hsp
      have H1 := Aside0.mk h1
      have H2 := Aside0.mk h2
      have H7 := Aside0.mk h7
      have H8 := Aside0.mk h8
      have HLE := Aside0.mk hl2
      have HK := Aside0.mk hK
      have HD := Aside0.mk hD
      have HG := Aside0.mk hg
      have HLL := Aside0.mk hL
      have HNN := Aside0.mk hN
      clear hbook hlb hl2 hL h1 h2 h3 h7 h8 g1 hCW hbytes hsb hg hsp hK hD hN
      go_wp2_with (first | (go_at_call 46; (with_reducible refine HSB.out.mono ?_); rintro e w2 ⟨s, rfl, hss, hs, rfl⟩; have HSU := Aside0.mk hss; have HSS := Aside0.mk hs; clear hs hss) | (go_at_call 47; (with_reducible refine (HSP.out _ _ HSS.out).mono ?_); rintro e wa ⟨rfl, hba⟩; have h1a : Boxed wa b 24 v := (hba.block _ H1.out.lt).trans H1.out; have ba := h1a.cell; have sa := h1a.lt; obtain ⟨g9, cap9, w9, hrun, HO9, HG9⟩ := HAPP.out wa s hba; have HBA := Aside0.mk hba; clear hba h1a) | fail)
      have hk9 : w9.heap[D]? = some (.deferred (some [])) := by
        have hDl := (Array.getElem?_eq_some_iff.1 HK.out).1
        have hz := HBA.out.size
        refine (HG9.out.block D (by simp; omega) (fun e => ?_)).trans ((Lib.alloc_old _ _ _ (by simp; omega)).trans ((Lib.alloc_old _ _ _ (by omega)).trans ((HBA.out.block D hDl).trans HK.out)))
        obtain ⟨cells, hc⟩ := own_typed H2.out D e.symm
        rw [HK.out] at hc
        cases hc
      refine ⟨by simp, .inl ⟨D, _, rfl, run_takeDeferred hk9, ?_⟩⟩
      unfold LeavesInM
      refine ⟨_, by simp [results, go_sem]; rfl, ?_⟩
      refine ⟨_, s, rfl, by rw [show bookB next keep n = bk from HBK.out]; exact HSU.out, HSS.out, ?_, ?_⟩
      · rw [show bookB next keep n = bk from HBK.out, ← HLL.out, show ((gen : Int) + 1) = (g : Int) by rw [HG.out]; simp, ← HG.out]
        exact ownsRow_putObj (own_weaken HO9.out HBW6.out.size) (o := .deferred (some [])) (.deferred none) hk9 rfl
      · have hs := HBW6.out.size
        have hz := HBA.out.size
        have h8 := H8.out
        have hD := HD.out
        have b1 : Below w.heap.size w wa := below_step H7.out HBA.out
        have b2 := ((below_alloc b1 (.cells #[.int .i64 (-1), .string ⟨#[]⟩] 58)).alloc (by simp; omega) (.cells #[.int .i64 (-1), .string ⟨#[]⟩, .int .i64 ((g : Int) % 2), .string (sealS (slotL g bk.length s)), .int .i64 (-1), .string ⟨#[]⟩] 58)).grown HG9.out (by simp; omega) (fun k e => by have := own_base H2.out k e; omega)
        exact b2.trans (belowK_b (w := W6) hs _ D _ _ hD hk9 rfl rfl)
    case stop => exact fun D c pre W hD hs h => h.elim
end Go.Proofs.YtodejilhgpejnaaGreat.Q
