import Derived.Test.YtodejilhgpejnaaGreatP7
import Derived.Test.YtodejilhgpejnaaGreatShelf
import Derived.Maps.OwnIn
import Derived.Stop.RegionWithIn
namespace Go.Proofs.YtodejilhgpejnaaGreat.Q
open Go.RowKit Go.Proofs.YtodejilhgpejnaaGreatW.PrintWords Go.Proofs.YtodejilhgpejnaaGreatW.PrintLast Go.Proofs.YtodejilhgpejnaaGreatW.PrintMore
attribute [local go_sem] max2_int min2_int max_two min_two max_three min_three max_four min_four
set_option linter.unusedVariables false
set_option linter.unusedSimpArgs false
attribute [local go_sem] Oper.semAt_some
attribute [-go_sem] Builtin.append_
theorem Chunk_walk (A : Option Addr) (n c : Nat) (w : World) :
    Calls Tryz.prog 104 #[.slice A n c, .int .i64 40] w fun e w' => e = .returned (.func (.func 114) #[] #[.pointer (some ⟨w.heap.size, 0, none⟩), .pointer (some ⟨w.heap.size + 1, 0, none⟩)]) ∧ w' = (w.alloc (.cells #[.slice A n c] 83)).alloc (.cells #[.int .i64 40] 3) := by
  go_enter Tryz.func104, Tryz.ntmps104
  go_wp2
  go_ret
  simp
def pieceL (l : List Int) (k : Nat) : List Int := (l.take (40 * k + min 40 (l.length - 40 * k))).drop (40 * k)
/-- The k-th piece, filled with zero bytes. -/
def chunkS (l : List Int) (k : Nat) : ByteArray := strOfNums (pieceL l k) ++ ⟨(Lib.repeatL [0] (40 - min 40 (l.length - 40 * k))).toArray⟩
def chunksF (l : List Int) : List ByteArray := (List.range (piecesN l.length)).map (chunkS l)
def ChI (l : List Int) (w : World) (pre : List Nat) (W : World) : Prop :=
  ∃ v, Boxed W w.heap.size 23 v ∧ W.ownsRow (w.heap.size + 3) 9 1 v pre.length (pre.map (fun k => Value.string (chunkS l k))) ∧ Below w.heap.size w W ∧ w.heap.size + 3 ≤ W.heap.size
theorem row_kept {W W' : World} {row : Option Nat} {base size k : Nat} {e : TypeId} {v : Value} {xs : List Value} (hr : W.ownsRow base e size v k xs) (hg : W.grownBy W' row) (hrow : ∀ r, row = some r → ∃ o : Obj, W.heap[r]? = some o ∧ o.isCells = false) : W'.ownsRow base e size v k xs := by
  refine hr.kept hg ?_
  rcases hr.2 with ⟨rfl, _⟩ | ⟨g, cap, cur, rfl, _, hgb, _⟩
  · exact .inl rfl
  · refine .inr fun e' => ?_
    obtain ⟨o, ho, hc⟩ := hrow g (by simpa [Value.ownBlock] using e'.symm)
    rw [hgb] at ho
    cases ho
    cases hc
theorem row_other {W : World} {base size k : Nat} {e : TypeId} {v : Value} {xs : List Value} (hr : W.ownsRow base e size v k xs) {c : Nat} (hc : c < base) (u : Value) : (W.setCell ⟨c, 0, none⟩ u).ownsRow base e size v k xs :=
  hr.kept (grownBy_setCell' W c u) (.inr fun e => by have := own_base hr c e; omega)
theorem chI_own (l : List Int) (w : World) {B : Nat} (hB : w.heap.size + 3 = B) : OwnFrom B (ChI l w) := by
  rintro pre W W' row ⟨v, h1, h2, h7, h8⟩ hg hr
  refine ⟨v, h1.kept hg ?_, row_kept h2 hg (fun r e => (hr r e).2), h7.grown hg (by omega) (fun k e => by have := (hr k e).1; omega), by have := hg.size; omega⟩
  intro e; have := (hr _ e.symm).1; omega
theorem chI_st (l : List Int) (w : World) (pre : List Nat) (A B : World) (h : ChI l w pre A) (hs : ∃ q, B = A.drewN q) : ChI l w pre B := by
  obtain ⟨q, rfl⟩ := hs
  obtain ⟨v, h1, h2, h7, h8⟩ := h
  exact ⟨v, h1, h2, pw_below_drewN h7 q, h8⟩
theorem piece_C {W : World} {A : Option Addr} {l : List Int} {c k : Nat} (h : Kd.C (Kd.int .u8) W A l.length l) (hc : l.length ≤ c) (hk : 40 * k < l.length) :
    Kd.C (Kd.int .u8) W (A.map (·.add (40 * k))) (min 40 (l.length - 40 * k)) (pieceL l k) := by
  have h1 := Kd.C_mid (lo := 40 * k) (hi := 40 * k + min 40 (l.length - 40 * k)) h (by omega) (by omega) hc
  rw [if_neg (by omega)] at h1
  have e : ((l.take (40 * k + min 40 (l.length - 40 * k))).drop (40 * k)).length = min 40 (l.length - 40 * k) := by simp; omega
  rw [e, show (Kd.int .u8).sz = 1 from rfl, Nat.mul_one] at h1
  exact h1
theorem mem_range_pre {pre : List Nat} {k n : Nat} (h : pre ++ [k] <+: List.range n) : k < n := by
  have : k ∈ List.range n := h.subset (by simp)
  simpa using this
theorem pieceL_size (l : List Int) (k : Nat) (h : 40 * k < l.length) : (strOfNums (pieceL l k)).size = min 40 (l.length - 40 * k) := by
  unfold strOfNums pieceL
  simp [ByteArray.size]
  omega
theorem ch_app {B : Nat} {W W2 : World} {v : Value} {xs : List Value} {n : Nat} {x : ByteArray} (hn : n ≤ 100000) (h : W.ownsRow B 9 1 v n xs) (hb : Below W.heap.size W W2) (hB : B ≤ W.heap.size) :
    ∃ g' cap' w', (Builtin.append_ #[23, 23] 23 #[v, .slice (some ⟨W2.heap.size, 0, none⟩) 1 1]).run Tryz.prog (W2.alloc (.cells #[.string x] 9)) = .ok (.slice (some ⟨g', 0, none⟩) (n + 1) cap') w' ∧
      w'.ownsRow B 9 1 (.slice (some ⟨g', 0, none⟩) (n + 1) cap') (n + 1) (xs ++ [.string x]) ∧ (W2.alloc (.cells #[.string x] 9)).grownBy w' v.ownBlock := by
  obtain ⟨i0, hi, hz0, hz1, hz2⟩ := info_parts info_str
  have h2 : W2.ownsRow B 9 1 v n xs := own_move h (fun k hk => hb.block k (own_lt h k hk))
  obtain ⟨v', w', hrun, hown, hg, _⟩ := run_append_own (P := Tryz.prog) (W2.alloc (.cells #[.string x] 9)) B 23 23 9 i0 (.string ⟨#[]⟩) 1 16 Tryz.underlying23 hi hz0 hz1 hz2 rfl (by decide) v n xs (h2.alloc _) ⟨W2.heap.size, 0, none⟩ 1 1 [.string x] rfl (cell_one_new _ _ _) (by simp [Value.oneCell']) (by unfold maxLen; omega) (by omega) (by have := hb.size; simp; omega)
  obtain ⟨g', cap', rfl⟩ := ownsRow_succ hown
  exact ⟨g', cap', w', hrun, hown, hg⟩
theorem boxed_appended {W W2 w3 : World} {B b t : Nat} {u v : Value} {xs : List Value} {n : Nat} {x : ByteArray} (h12 : Boxed W2 b t u) (hb : b < B) (hg : (W2.alloc (.cells #[.string x] 9)).grownBy w3 v.ownBlock) (h : W.ownsRow B 9 1 v n xs) : Boxed w3 b t u :=
  (h12.alloc _).kept hg (fun e => by have := own_base h _ e.symm; omega)
theorem ch_more {l : List Int} {w W W2 w3 : World} {pre : List Nat} {k g' cap' : Nat} {v : Value} {x : ByteArray} {a : Act} (hb : Below W.heap.size W W2) (i2 : W.ownsRow (w.heap.size + 3) 9 1 v pre.length (pre.map (fun k => Value.string (chunkS l k)))) (h7 : Below w.heap.size w W) (h8 : w.heap.size + 3 ≤ W.heap.size) (hv : Boxed w3 w.heap.size 23 v)
    (ho : w3.ownsRow (w.heap.size + 3) 9 1 (.slice (some ⟨g', 0, none⟩) (pre.length + 1) cap') (pre.length + 1) (pre.map (fun k => Value.string (chunkS l k)) ++ [.string x])) (hg : (W2.alloc (.cells #[.string x] 9)).grownBy w3 v.ownBlock) (hx : x = chunkS l k) :
    ownPostK (fun A B => B.heap[w.heap.size + 1]? = A.heap[w.heap.size + 1]? ∧ B.heap[w.heap.size + 1 + 1]? = A.heap[w.heap.size + 1 + 1]?) (ChI l w) (fun _ _ _ => False) (pre ++ [k]) W .normal a (w3.setCell ⟨w.heap.size, 0, none⟩ (.slice (some ⟨g', 0, none⟩) (pre.length + 1) cap')) := by
  subst hx
  have hne : ∀ k, v.ownBlock = some k → w.heap.size + 3 ≤ k := fun k e => own_base i2 k e
  have k2 : KeepsOthers W W2 := ⟨hb.size, fun k o h _ => (hb.block k (Array.getElem?_eq_some_iff.1 h).1).trans h⟩
  have i7 : Below w.heap.size w W2 := h7.trans (hb.mono h7.size)
  have i8 : w.heap.size + 3 ≤ W2.heap.size := Nat.le_trans h8 hb.size
  have j2 : W2.ownsRow (w.heap.size + 3) 9 1 v pre.length (pre.map (fun k => Value.string (chunkS l k))) := own_move i2 (fun k hk => hb.block k (own_lt i2 k hk))
  have hkeep : ∀ k, w.heap.size < k → k < w.heap.size + 3 → (w3.setCell ⟨w.heap.size, 0, none⟩ (.slice (some ⟨g', 0, none⟩) (pre.length + 1) cap')).heap[k]? = W.heap[k]? := fun k h1 h2 => by
    refine (Below.heap_setCell _ _ _ _ (by show k ≠ w.heap.size; omega)).trans ((hg.block k (by simp; omega) (fun e => ?_)).trans ((Lib.alloc_old _ _ _ (by omega)).trans (hb.block k (by omega))))
    have := hne k e.symm
    omega
  refine ⟨((k2.trans (KeepsOthers.alloc _ _)).trans (KeepsOthers.of_grownBy hg fun j o e ho' => ?_)).trans (KeepsOthers.setCell _ _ _), ⟨hkeep _ (by omega) (by omega), hkeep _ (by omega) (by omega)⟩, _, hv.set _, ?_, ?_, ?_⟩
  · obtain ⟨cells, hc⟩ := own_typed (j2.alloc _) j e
    rw [hc] at ho'
    cases ho'
    rfl
  · have e : (pre ++ [k]).map (fun k => Value.string (chunkS l k)) = pre.map (fun k => Value.string (chunkS l k)) ++ [.string (chunkS l k)] := by simp
    rw [e, List.length_append]
    exact row_other ho (by omega) _
  · exact ((i7.alloc i7.size _).grown hg (by simp; omega) (fun k e => by have := hne k e; omega)).setCell (p := ⟨w.heap.size, 0, none⟩) (by simp) _
  · have h1 := hg.size
    have h2 := (grownBy_setCell' w3 w.heap.size (.slice (some ⟨g', 0, none⟩) (pre.length + 1) cap')).size
    simp at h1
    omega
set_option maxHeartbeats 2000000 in
set_option maxRecDepth 100000 in
theorem chunks_walk (A : Option Addr) (c : Nat) (l : List Int) (w : World) (hr : Kd.C (Kd.int .u8) w A l.length l) (hn : l.length ≤ 100000) (hc : l.length ≤ c) (hcm : c ≤ 9223372036854775807) :
    Calls Tryz.prog 75 #[.slice A l.length c] w fun e w' => ∃ v : Value, e = .returned v ∧ Kd.R Kd.string 9 w' w.heap.size (fun _ => True) v (chunksF l) ∧ Below w.heap.size w w' := by
  refine (callsIn_wide (n := 10)).1 ?_
  refine callsIn_of_wp_marks Tryz.func75 rfl trivial ?_ rfl
  simp only [Tryz.ntmps75, List.size_toArray, List.length_cons, List.length_nil, Nat.reduceAdd, Nat.reduceSub, Array.replicate_succ, Array.replicate_zero, List.push_toArray, List.append_toArray, List.nil_append, List.cons_append]
  have HR := Aside0.mk hr
  have HN := Aside0.mk (And.intro hn (And.intro hc hcm))
  clear hr hn hc hcm
  gi_wp2_with fail
  refine ⟨trivial, ?_⟩
  refine (callsIn_wide.2 (Chunk_walk A l.length c _)).mono ?_
  rintro e w2 ⟨rfl, rfl⟩
  have n0 := boxed_next (W := w) rfl 23 (.slice none 0 0)
  have n1 := boxed_next n0.2 83 (.slice A l.length c)
  have n2 := boxed_next n1.2 3 (.int .i64 40)
  have g0 := (n0.1.alloc (.cells #[.slice A l.length c] 83)).alloc (.cells #[.int .i64 40] 3)
  have g1 := n1.1.alloc (.cells #[.int .i64 40] 3)
  have g2 := n2.1
  have gz := n2.2
  have gB : Below w.heap.size w _ := (((Below.refl _ w).alloc (Nat.le_refl _) (.cells #[.slice none 0 0] 23)).alloc (by rw [n0.2]; omega) (.cells #[.slice A l.length c] 83)).alloc (by rw [n1.2]; omega) (.cells #[.int .i64 40] 3)
  rw [n0.2]
  clear n0 n1 n2
  revert g0 g1 g2 gz gB
  generalize ((w.alloc (.cells #[.slice none 0 0] 23)).alloc (.cells #[.slice A l.length c] 83)).alloc (.cells #[.int .i64 40] 3) = W5
  intro g0 g1 g2 gz gB
  gi_wp2
  refine range_st (F := Fence.wide) (n := 10) rfl (by decide) (gf := 114) (lb := #[.pointer (some ⟨w.heap.size + 1, 0, none⟩), .pointer (some ⟨w.heap.size + 1 + 1, 0, none⟩)]) rfl trivial (enters_of Tryz.func114 (by kernel_rfl) rfl)
    (chunkIter 9 (w.heap.size + 1) A l.length c W5 (by omega) HN.out.1 HN.out.2.1 HN.out.2.2 g1 g2) (fun h1 h2 => ⟨h2.1.trans h1.1, h2.2.trans h1.2⟩) ?hkb (fun _ => rfl) ?hst (ChI l w) (fun _ _ _ => False) (chI_own l w gz.symm) (chI_st l w) (fun _ _ _ _ _ h => h.elim) ?h0
    ?a1 ?assign ?body ?done ?stop
  case hkb => exact fun W l o' hl _ => ⟨World.putObj_heap_other (by omega), World.putObj_heap_other (by omega)⟩
  case hst =>
    rintro A B l o ⟨q, rfl⟩ ho hl
    exact ho
  case h0 => exact ⟨.slice none 0 0, g0, World.ownsRow_nil _ _ _ _, gB, by omega⟩
  case assign =>
    intro l x W K hK
    gi_wp2
    exact hK
  case body =>
    rintro l2 pre k W ⟨v, h1, h2, h7, h8⟩ hlen hsp
    have hkp : k < piecesN l.length := mem_range_pre hsp
    have hkn : 40 * k < l.length := by unfold piecesN at hkp; omega
    have hpn : pre.length ≤ 100000 := by have := HN.out.1; unfold piecesN at hlen; omega
    have hCW : Kd.C (Kd.int .u8) W A l.length l := Kd.C_below HR.out h7
    have hP := piece_C hCW HN.out.2.1 hkn
    have hcv := Kd.C_string (P := Tryz.prog) (src := 83) (dst := 9) (c := min 40 (l.length - 40 * k)) Tryz.underlying83 Tryz.underlying5 Tryz.underlying9 hP
    have hpl := pieceL_size l k hkn
    obtain ⟨m, hm⟩ : ∃ m, m = min 40 (l.length - 40 * k) := ⟨_, rfl⟩
    have hS : chunkS l k = strOfNums (pieceL l k) ++ ⟨(Lib.repeatL [0] (40 - m)).toArray⟩ := by unfold chunkS; rw [hm]
    rw [show pieceV A l.length k = .slice (A.map (·.add (40 * k))) m m by unfold pieceV; rw [hm]]
    rw [← hm] at hcv hpl
    have hm40 : m ≤ 40 := by omega
    have hw : IntKind.i64.wrap (40 - (m : Int)) = ((40 - m : Nat) : Int) := by rw [i64_w]; unfold wrap64; omega
    have b1 := h1.cell
    have f1 := h1.frozen
    have HS := Aside0.mk hS
    have H1 := Aside0.mk h1
    have H2 := Aside0.mk h2
    have H7 := Aside0.mk h7
    have H8 := Aside0.mk h8
    have HM := Aside0.mk hm40
    have HP := Aside0.mk hpn
    obtain ⟨s, hs⟩ : ∃ s, s = strOfNums (pieceL l k) := ⟨_, rfl⟩
    have hzz : (⟨(Lib.repeatL [0] (40 - m)).toArray⟩ : ByteArray).size = 40 - m := by show (Lib.repeatL [0] (40 - m)).toArray.size = _; rw [List.size_toArray, Lib.repeatL_length]; simp
    obtain ⟨z, hz⟩ : ∃ z : ByteArray, z = ⟨(Lib.repeatL [0] (40 - m)).toArray⟩ := ⟨_, rfl⟩
    rw [← hz] at hzz hS
    have HZ := Aside0.mk hz
    clear hz
    have hadd : (9223372036854775807 < m + (40 - m)) = False := eq_false (by omega)
    have hadd2 : (9223372036854775807 < m + z.size) = False := eq_false (by omega)
    rw [← hs] at hcv hpl
    have HSS := Aside0.mk hs
    clear hkp hkn hpn hCW hP hm hS h1 h2 h7 h8 hm40 hs hlen hsp
    gi_wp2
    have hcall : ∀ W1 : World, Below W.heap.size W W1 → Calls Tryz.prog 32 #[.string ⟨#[0]⟩, .int .i64 ((40 - m : Nat) : Int)] W1 fun e w' => e = .returned (.string z) ∧ Below W.heap.size W w' := fun W1 hh => (Tryz.strings_Repeat ⟨#[0]⟩ (40 - m) W1 (by omega) (by show 1 * (40 - m) ≤ _; omega)).mono (fun e w' h => ⟨HZ.out ▸ h.1, below_step hh h.2⟩)
    have HC := Aside0.mk hcall
    clear hcall
    gi_region_with (first | (refine ⟨trivial, ?_⟩; gi_at_call 32; (with_reducible refine (CallsIn.inRound l2 (callsIn_wide.2 (HC.out _ (below_drew1 (Below.refl _ _))))).mono ?_); rintro e W2 ⟨rfl, hb⟩; have HB := Aside0.mk hb; have h12 : Boxed W2 w.heap.size 23 v := (hb.block _ H1.out.lt).trans H1.out; have b2 := h12.cell; have f2 := h12.frozen; have s2 := h12.lt; have H12 := Aside0.mk h12; obtain ⟨g', cap', w3, hrun, hown', hgrow⟩ := ch_app (x := s ++ z) (by have := HP.out; omega) H2.out HB.out H8.out; have h13 := boxed_appended h12 (show w.heap.size < w.heap.size + 3 by omega) hgrow H2.out; have b3 := h13.cell; have f3 := h13.frozen; have HO3 := Aside0.mk hown'; have HG3 := Aside0.mk hgrow; have H13 := Aside0.mk h13; clear hb h12 hown' hgrow h13) | fail)
    all_goals
      have hsz : s ++ z = chunkS l k := by rw [HS.out, ← HSS.out, ← HZ.out]
      obtain ⟨e1, e2, e3⟩ := ch_more (a := ⟨#[], []⟩) HB.out H2.out H7.out H8.out H13.out HO3.out HG3.out hsz
      exact ⟨e1, e2, e3⟩
  case done =>
    rintro D ys W hD rfl ⟨v, h1, h2, h7, h8⟩ hK
    have c1 := h1.cell
    have HK := Aside0.mk hK
    have HD := Aside0.mk hD
    have H2 := Aside0.mk h2
    have H7 := Aside0.mk h7
    have GZ := Aside0.mk gz
    clear hK hD h1 h2 h7 h8 g0 g1 g2 gz gB
    gi_wp2
    have hD := HD.out
    have hK := HK.out
    refine ⟨by simp, .inl ⟨D, _, rfl, run_takeDeferred hK, ?_⟩⟩
    unfold LeavesInM
    refine ⟨v, by simp [results, go_sem], ?_⟩
    refine ⟨v, rfl, ?_, H7.out.trans (belowK_b (w := W5) (by have := GZ.out; omega) _ D _ _ (by omega) hK rfl rfl)⟩
    have h9 := ownsRow_putObj (own_weaken H2.out (show w.heap.size ≤ w.heap.size + 3 by omega)) (o := .deferred (some [])) (.deferred none) hK rfl
    have e1 : (List.range (piecesN l.length)).length = (chunksF l).length := by unfold chunksF; simp
    have e2 : (List.range (piecesN l.length)).map (fun k => Value.string (chunkS l k)) = (chunksF l).map Value.string := by unfold chunksF; simp
    rw [e1, e2] at h9
    exact Kd.R_of_own h9 (fun _ _ => trivial)
  case stop => exact fun D c pre W hD hs h => h.elim
end Go.Proofs.YtodejilhgpejnaaGreat.Q
