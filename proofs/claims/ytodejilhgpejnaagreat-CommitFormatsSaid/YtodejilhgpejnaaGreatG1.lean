import Derived.Test.YtodejilhgpejnaaGreatP12
import Derived.Test.YtodejilhgpejnaaGreatP19
import Derived.Laws.CopyOwn
import Derived.Test.YtodejilhgpejnaaGreatShelf
import Derived.OwnWalk
import Derived.Deep.RegionLaw
import Derived.IntWalk
import Derived.Lib.SlBytesConst
import Derived.Great.BuildSlice
import Derived.LoopN
import Derived.Laws.EntriesVeiled
namespace Go.Proofs.YtodejilhgpejnaaGreat.Q
open Go.RowKit Go.Proofs.YtodejilhgpejnaaGreatW.PrintWords Go.Proofs.YtodejilhgpejnaaGreatW.PrintLast Go.Proofs.YtodejilhgpejnaaGreatW.PrintMore
attribute [local go_sem] max2_int min2_int max_two min_two max_three min_three max_four min_four
set_option linter.unusedVariables false
set_option linter.unusedSimpArgs false
structure Wr where
  f0 : Int
  f1 : ByteArray
def kW : Kd Wr := (Kd.pair (Kd.int .i64) Kd.string).iso (fun x => (x.f0, x.f1))
theorem kW_open {w : World} {x : Wr} {cs : List Value} (h : kW.K w x cs) : cs = [.int .i64 x.f0, .string x.f1] := by
  obtain ⟨c0, c1, rfl, rfl, rfl⟩ := h
  rfl
theorem kW_mk (w : World) (x : Wr) : kW.K w x [.int .i64 x.f0, .string x.f1] := ⟨[.int .i64 x.f0], [.string x.f1], rfl, rfl, rfl⟩
theorem kW_mkM (w : World) (base : Nat) (ok : Nat → Prop) (x : Wr) : kW.M w base ok x [.int .i64 x.f0, .string x.f1] := ⟨[.int .i64 x.f0], [.string x.f1], rfl, rfl, rfl⟩
def rd_W (l : List Wr) (i : Int) : Wr := rdOf ⟨0, ByteArray.empty⟩ l i
theorem rd_natW (l : List Wr) (i : Nat) (h : i < l.length) : rd_W l (i : Int) = l[i] := by
  unfold rd_W
  simp [rdOf, List.getD_eq_getElem?_getD, List.getElem?_eq_getElem h]
def encW (x : Wr) : Value := .agg #[.int .i64 x.f0, .string x.f1]
theorem at_W {w : World} {A : Option Addr} {n : Nat} {l : List Wr} (h : kW.C w A n l) (i : Int) (h0 : 0 ≤ i) (h1 : i < (n : Int)) :
    ∃ ad, A = some ad ∧ w.cell? (ad.add (i.toNat * 2)) = some (.int .i64 (rd_W l i).f0) ∧ w.cell? ⟨(ad.add (i.toNat * 2)).block, (ad.add (i.toNat * 2)).off + 1, none⟩ = some (.string (rd_W l i).f1) := by
  obtain ⟨ad, c, rfl, _, hK, hc⟩ := Kd.C_get h ⟨0, ByteArray.empty⟩ i h0 h1
  have e : l.getD i.toNat ⟨0, ByteArray.empty⟩ = rd_W l i := by simp [rd_W, rdOf]
  rw [e] at hK
  obtain rfl := kW_open hK
  exact ⟨ad, rfl, hc 0 _ rfl, by rw [← add_field _ _ 1 (by omega)]; exact hc 1 _ rfl⟩
theorem C_blkW {W W' : World} {A : Option Addr} {n : Nat} {xs : List Wr} (h : Kd.C kW W A n xs) (hb : 0 < n → ∀ ad, A = some ad → W'.heap[ad.block]? = W.heap[ad.block]?) : Kd.C kW W' A n xs := by
  refine ⟨h.1, h.2.1, fun hn => ?_⟩
  obtain ⟨ad, e, hc⟩ := h.2.2 hn
  refine ⟨ad, e, fun j p hj => ?_⟩
  obtain ⟨c, h1, h2, h3⟩ := hc j p hj
  refine ⟨c, h1, ?_, fun i u hu => (cell_blk (p := ad.add (j * kW.sz + i)) (by rw [show (ad.add (j * kW.sz + i)).block = ad.block by unfold Addr.add; split <;> rfl]; exact hb hn ad e)).trans (h3 i u hu)⟩
  obtain rfl := kW_open h2
  exact kW_mk _ _
def fitsB (n : Nat) (x : Wr) : Bool := decide (0 ≤ x.f0) && (decide (x.f0 < (n : Int)) && decide (x.f1.size = 40))
theorem fits_walk (A0 : Option Addr) (n c0 : Nat) (A1 : Option Addr) (n1 c1 : Nat) (x : Wr) (w : World) :
    Calls Tryz.prog 83 #[.agg #[.slice A0 n c0, .slice A1 n1 c1], .agg #[.int .i64 x.f0, .string x.f1]] w fun e w' => e = .returned (.bool (fitsB n x)) ∧ Below w.heap.size w w' := by
  obtain ⟨x0, x1⟩ := x
  unfold fitsB
  by_cases h0 : 0 ≤ x0
  · have q0 : decide (0 ≤ x0) = true := decide_eq_true h0
    by_cases h1 : x0 < (n : Int)
    · have q1 : decide (x0 < (n : Int)) = true := decide_eq_true h1
      by_cases h2 : x1.size = 40
      · have q2 : decide (x1.size = 40) = true := decide_eq_true h2
        clear h0 h1 h2
        go_enter Tryz.func83, Tryz.ntmps83
        go_wp2
        go_ret
        exact ⟨by first | rfl | (simp_all; done) | (simp_all; intros; omega), below_alloc (below_alloc (Below.refl _ _) _) _⟩
      · have q2 : decide (x1.size = 40) = false := decide_eq_false h2
        clear h0 h1
        go_enter Tryz.func83, Tryz.ntmps83
        go_wp2
        go_ret
        exact ⟨by first | rfl | (simp_all; done) | (simp_all; omega), below_alloc (below_alloc (Below.refl _ _) _) _⟩
    · have q1 : decide (x0 < (n : Int)) = false := decide_eq_false h1
      clear h0 h1
      go_enter Tryz.func83, Tryz.ntmps83
      go_wp2
      go_ret
      exact ⟨by first | rfl | (simp_all; done) | (simp_all; intros; omega), below_alloc (below_alloc (Below.refl _ _) _) _⟩
  · have q0 : decide (0 ≤ x0) = false := decide_eq_false h0
    clear h0
    go_enter Tryz.func83, Tryz.ntmps83
    go_wp2
    go_ret
    exact ⟨by first | rfl | (simp_all; done) | (simp_all; intros; omega), below_alloc (below_alloc (Below.refl _ _) _) _⟩
theorem clip_walk (A : Option Addr) (n c : Nat) (w : World) (hc : n ≤ c) (hm : n ≤ 9223372036854775807) :
    Calls Tryz.prog 84 #[.slice A n c] w fun e w' => e = .returned (.slice A n n) ∧ w' = w := by
  go_enter Tryz.func84, Tryz.ntmps84
  go_wp2
  go_ret
  exact ⟨rfl, rfl⟩
theorem blk2 (w : World) (o1 o2 : Obj) : ((w.alloc o1).alloc o2).heap[w.heap.size + 1]? = some o2 := by
  have := blk_new (w.alloc o1) o2
  simpa using this
theorem blk3 (w : World) (o1 o2 o3 : Obj) : (((w.alloc o1).alloc o2).alloc o3).heap[w.heap.size + 1 + 1]? = some o3 := by
  have := blk_new ((w.alloc o1).alloc o2) o3
  simpa using this
theorem below_setc {B : Nat} {w0 w : World} (h : Below B w0 w) {g : Nat} (hg : B ≤ g) (j : Nat) (u : Value) : Below B w0 (w.setCell ⟨g, j, none⟩ u) := h.setCell hg _
theorem kW_KM (w : World) (base : Nat) (ok : Nat → Prop) (x : Wr) (cs : List Value) (h : kW.K w x cs) : kW.M w base ok x cs := by
  obtain rfl := kW_open h
  exact kW_mkM w base ok x
theorem C_newW (w : World) (x : Wr) : Kd.C kW (w.alloc (.cells #[.int .i64 x.f0, .string x.f1] 58)) (some ⟨w.heap.size, 0, none⟩) 1 [x] := by
  refine ⟨rfl, by omega, fun _ => ⟨_, rfl, fun j p hj => ?_⟩⟩
  have hj0 : j = 0 := by
    have := (List.getElem?_eq_some_iff.1 hj).1
    simp at this; exact this
  subst hj0
  obtain rfl : x = p := by simpa using hj
  refine ⟨[.int .i64 x.f0, .string x.f1], rfl, kW_mk _ _, fun i u hu => ?_⟩
  have h1 := blk_cell (blk_new w (.cells #[.int .i64 x.f0, .string x.f1] 58)) i
  have e : (⟨w.heap.size, 0, none⟩ : Addr).add (0 * kW.sz + i) = ⟨w.heap.size, i, none⟩ := by simp [Addr.add]; omega
  rw [e, h1]
  simpa using hu
set_option maxHeartbeats 4000000 in
set_option maxRecDepth 100000 in
theorem put_walk (A0 : Option Addr) (c0 : Nat) (l0 : List ByteArray) (A1 : Option Addr) (c1 : Nat) (l1 : List Wr) (x : Wr) (w : World) (hr1 : Kd.C kW w A1 l1.length l1) (hc1 : l1.length ≤ c1) (hl : l1.length ≤ 1000000) (hr : fitsB l0.length x = true) :
    Calls Tryz.prog 49 #[.agg #[.slice A0 l0.length c0, .slice A1 l1.length c1], .int .i64 x.f0, .string x.f1] w fun e w' => ∃ A c, e = .returned (.tuple #[.agg #[.slice A0 l0.length c0, .slice A (l1.length + 1) c], .int .i64 0]) ∧ (l1 ++ [x]).length ≤ c ∧ Kd.C kW w' A (l1 ++ [x]).length (l1 ++ [x]) ∧ Below w.heap.size w w' := by
  obtain ⟨x0, x1⟩ := x
  have HF := Aside0.mk (show ∀ W : World, Calls Tryz.prog 83 #[.agg #[.slice A0 l0.length c0, .slice A1 l1.length c1], .agg #[.int .i64 x0, .string x1]] W fun e w' => e = .returned (.bool true) ∧ Below W.heap.size W w' from fun W => hr ▸ fits_walk A0 l0.length c0 A1 l1.length c1 ⟨x0, x1⟩ W)
  have HR1 := Aside0.mk hr1
  have HC1 := Aside0.mk hc1
  have HL := Aside0.mk hl
  clear hr hr1 hc1 hl
  go_enter Tryz.func49, Tryz.ntmps49
  go_upto_region 4 with (first | (go_at_call 83; (with_reducible refine (HF.out _).mono ?_); rintro e w' ⟨rfl, hb⟩; have BK0 := Aside0.mk (blk_below (g := w.heap.size) (o := .cells #[.slice A0 l0.length c0, .slice A1 l1.length c1] 26 (0, 0)) (blk_alloc (blk_alloc (blk_new _ _) _) _) hb); have BK1 := Aside0.mk (blk_below (g := w.heap.size + 1) (o := .cells #[.slice none 0 0, .slice none 0 0] 26 (0, 0)) (blk_alloc (blk2 _ _ _) _) hb); have BK2 := Aside0.mk (blk_below (g := w.heap.size + 1 + 1) (o := .cells #[.int .i64 x0, .string x1] 58 (0, 0)) (blk3 _ _ _ _) hb); have HB := Aside0.mk (show Below w.heap.size w w' from below_step (below_alloc (below_alloc (below_alloc (Below.refl _ _) _) _) _) hb); clear hb))
  have hx00 := (blk_cell BK0.out 0).trans (show _ = some (Value.slice A0 l0.length c0) from rfl)
  have hx01 := (blk_cell BK0.out 1).trans (show _ = some (Value.slice A1 l1.length c1) from rfl)
  have hx10 := (blk_cell BK1.out 0).trans (show _ = some (Value.slice none 0 0) from rfl)
  have hx11 := (blk_cell BK1.out 1).trans (show _ = some (Value.slice none 0 0) from rfl)
  have hf10 := blk_frozen BK1.out 0
  have hf11 := blk_frozen BK1.out 1
  have hx20 := (blk_cell BK2.out 0).trans (show _ = some (Value.int .i64 x0) from rfl)
  have hx21 := (blk_cell BK2.out 1).trans (show _ = some (Value.string x1) from rfl)
  have hnz : A1 = none → l1.length = 0 := fun e => by
    rcases Nat.eq_zero_or_pos l1.length with h | h
    · exact h
    · obtain ⟨ad, e2, _⟩ := HR1.out.2.2 h
      rw [e] at e2; cases e2
  go_region_held3 (fun w' => w'.cell? ⟨w.heap.size, 0, none⟩ = some (.slice A0 l0.length c0) ∧ w'.cell? ⟨w.heap.size, 1, none⟩ = some (.slice A1 l1.length c1) ∧ w'.cell? ⟨w.heap.size + 1 + 1, 0, none⟩ = some (.int .i64 x0) ∧ w'.cell? ⟨w.heap.size + 1 + 1, 1, none⟩ = some (.string x1)) (first | exact ⟨hx00, hx01, hx20, hx21⟩ | exact ⟨(blk_cell (blk_alloc BK0.out _) 0).trans rfl, (blk_cell (blk_alloc BK0.out _) 1).trans rfl, (blk_cell (blk_alloc BK2.out _) 0).trans rfl, (blk_cell (blk_alloc BK2.out _) 1).trans rfl⟩ | exact ⟨(blk_cell BK0a.out 0).trans rfl, (blk_cell BK0a.out 1).trans rfl, (blk_cell BK2a.out 0).trans rfl, (blk_cell BK2a.out 1).trans rfl⟩ | exact ⟨(blk_cell (blk_far (blk_far BK0a.out (by show w.heap.size ≠ w.heap.size + 1; omega) _) (by show w.heap.size ≠ w.heap.size + 1; omega) _) 0).trans rfl, (blk_cell (blk_far (blk_far BK0a.out (by show w.heap.size ≠ w.heap.size + 1; omega) _) (by show w.heap.size ≠ w.heap.size + 1; omega) _) 1).trans rfl, (blk_cell (blk_far (blk_far BK2a.out (by show w.heap.size + 1 + 1 ≠ w.heap.size + 1; omega) _) (by show w.heap.size + 1 + 1 ≠ w.heap.size + 1; omega) _) 0).trans rfl, (blk_cell (blk_far (blk_far BK2a.out (by show w.heap.size + 1 + 1 ≠ w.heap.size + 1; omega) _) (by show w.heap.size + 1 + 1 ≠ w.heap.size + 1; omega) _) 1).trans rfl⟩) (first | (go_at_call 84; (with_reducible refine (clip_walk A1 l1.length c1 _ HC1.out (by have := HL.out; omega)).mono ?_); rintro e w' ⟨rfl, rfl⟩) | (refine append_full_step kW kW_KM rfl (.tmp 21) (.tmp 23) 24 58 (.agg #[(.int .i64 0), (.string ⟨#[]⟩)]) 24 rfl Tryz.underlying24 info_w rfl (by decide) A1 l1.length l1 (some ⟨w'.heap.size, 0, none⟩) 1 1 [(⟨x0, x1⟩ : Wr)] rfl rfl (by repeat (first | (with_reducible exact Kd.C_below HR1.out HB.out) | (with_reducible refine Kd.C_alloc ?_ _) | (with_reducible refine Kd.C_drew ?_))) (by repeat (first | (with_reducible exact C_newW w' (⟨x0, x1⟩ : Wr)) | (with_reducible refine Kd.C_drew ?_))) (by decide) (by have := HL.out; simp only [maxLen]; omega) (by have := HL.out; omega) hnz ?_; intro A' c' w2 hc' hC' hb'; have BK0a := Aside0.mk (blk_below (w := (w'.alloc (.cells #[.int .i64 x0, .string x1] 58)).drew) (blk_drew (blk_alloc BK0.out _)) hb'); have BK1a := Aside0.mk (blk_below (w := (w'.alloc (.cells #[.int .i64 x0, .string x1] 58)).drew) (blk_drew (blk_alloc BK1.out _)) hb'); have BK2a := Aside0.mk (blk_below (w := (w'.alloc (.cells #[.int .i64 x0, .string x1] 58)).drew) (blk_drew (blk_alloc BK2.out _)) hb'); have hx10a := (blk_cell BK1a.out 0).trans (show _ = some (Value.slice none 0 0) from rfl); have hx11a := (blk_cell BK1a.out 1).trans (show _ = some (Value.slice none 0 0) from rfl); have hf10a := blk_frozen BK1a.out 0; have hf11a := blk_frozen BK1a.out 1; have HBa := Aside0.mk (show Below w.heap.size w w2 from below_step (below_drew1 (below_alloc HB.out _)) hb'); have HCa := Aside0.mk hC'; have HLa := Aside0.mk hc'; have HSa := Aside0.mk (show w.heap.size + 1 < (w'.alloc (.cells #[.int .i64 x0, .string x1] 58)).drew.heap.size from blk_lt (blk_drew (blk_alloc BK1.out _))); clear hb' hC' hc'))
  all_goals
    go_wp2
    refine bodyPost_ret (results_ct rfl _ _ (w.heap.size + 1) 26 #[.slice A0 l0.length c0, .slice A' (l1.length + 1) c'] (0, 0) _ rfl (by refine blk_put (cs := #[.slice A0 l0.length c0, .slice none 0 0]) ?_ 1 _ rfl; refine blk_put (cs := #[.slice none 0 0, .slice none 0 0]) ?_ 0 _ rfl; exact BK1a.out) Tryz.underlying26 rfl (by kernel_rfl)) rfl ?_
    have hb := below_setc (below_setc HBa.out (Nat.le_succ _) 0 (.slice A0 l0.length c0)) (Nat.le_succ _) 1 (.slice A' (l1.length + 1) c')
    have hR := Kd.R_far (p := ⟨w.heap.size + 1, 1, none⟩) (Kd.R_far (p := ⟨w.heap.size + 1, 0, none⟩) HCa.out (fun k hk => by have := HSa.out; show k ≠ w.heap.size + 1; omega) (.slice A0 l0.length c0)) (fun k hk => by have := HSa.out; show k ≠ w.heap.size + 1; omega) (.slice A' (l1.length + 1) c')
    exact ⟨A', c', by first | rfl | simp, HLa.out, (Kd.R_reads' hR).2.2, hb⟩
end Go.Proofs.YtodejilhgpejnaaGreat.Q
namespace Go.Proofs.YtodejilhgpejnaaGreat.Q
open Go.RowKit Go.Proofs.YtodejilhgpejnaaGreatW.PrintWords Go.Proofs.YtodejilhgpejnaaGreatW.PrintLast Go.Proofs.YtodejilhgpejnaaGreatW.PrintMore
attribute [local go_sem] max2_int min2_int max_two min_two max_three min_three max_four min_four
set_option linter.unusedVariables false
set_option linter.unusedSimpArgs false
attribute [local go_sem] Oper.semAt_some
theorem getElem_rdOf {α : Type} (d : α) (l : List α) (i : Nat) (h : i < l.length) : rdOf d l (i : Int) = l[i] := by
  simp [rdOf, List.getD_eq_getElem?_getD, List.getElem?_eq_getElem h]
/-- The writes that stay. -/
def keptL (p : Nat → Bool) : List Wr → Nat → List Wr
  | [], _ => []
  | x :: l, i => if p i then x :: keptL p l (i + 1) else keptL p l (i + 1)
theorem lt_of_same {W w : World} {j : Nat} (h : W.heap[j]? = w.heap[j]?) (hj : j < w.heap.size) : j < W.heap.size := by
  rw [Array.getElem?_eq_getElem hj] at h
  exact (Array.getElem?_eq_some_iff.1 h).1
set_option maxHeartbeats 4000000 in
set_option maxRecDepth 100000 in
theorem keptIter (n : Nat) (Bs : Nat) (A1 : Option Addr) (c1 : Nat) (l1 : List Wr) (gi : Nat) (lbi : Array Value) (p : Nat → Bool) (S : Nat → Prop) (w : World) (hS : ∀ k, S k → k < w.heap.size) (s0 : S Bs) (s1 : S (Bs + 1)) (s2 : ∀ ad, A1 = some ad → 0 < l1.length → S ad.block)
    (c0 : w.heap[Bs]? = some (.cells #[.slice A1 l1.length c1] 24 (0, 0))) (cf : w.heap[Bs + 1]? = some (.cells #[.func (.func gi) #[] lbi] 69 (0, 0))) (hr1 : Kd.C kW w A1 l1.length l1)
    (egi : ∀ args w, (callFunc gi args).run Tryz.prog w = .ok (.enter gi args) w)
    (HI : ∀ (W : World) (i : Nat), i < l1.length → (∀ k, S k → W.heap[k]? = w.heap[k]?) → Calls Tryz.prog gi (#[.int .i64 (i : Int)] ++ lbi) W fun e w' => e = .returned (.bool (p i)) ∧ w' = W) :
    SeqSt Fence.wide n Tryz.prog 115 #[.pointer (some ⟨Bs, 0, none⟩), .pointer (some ⟨Bs + 1, 0, none⟩)] (fun x : Wr => #[encW x])
      (fun A B => ∀ k, S k → B.heap[k]? = A.heap[k]?) (fun A B => B = A) (fun xs => xs = keptL p l1 0) (fun xs => xs <+: keptL p l1 0) (keptL p l1 0).length w := by
  intro l J Jx W hb hsz2 hJ hJx hJs hY h0
  have hro : Fence.wide.round = none := rfl
  have hmax := Kd.C_max hr1
  have hW : ∀ k, S k → W.heap[k]? = w.heap[k]? := fun k hk => hb.block k (hS k hk)
  refine callsIn_of_wp Tryz.func115 rfl trivial ?_ hro
  simp only [Tryz.ntmps115, List.size_toArray, List.length_cons, List.length_nil, Nat.reduceAdd, Nat.reduceSub, Array.replicate_succ, Array.replicate_zero, List.push_toArray, List.append_toArray, List.nil_append, List.cons_append]
  have d0 := (blk_cell ((hW Bs s0).trans c0) 0).trans (show _ = some (Value.slice A1 l1.length c1) from rfl)
  have HIS := Aside0.mk HI
  have HW := Aside0.mk hW
  clear HI hW
  gi_wp2
  gi_loopw [8] (fun v8 wr => ∃ (pre : List Wr) (k : Nat), v8 = .int .i64 k ∧ k ≤ l1.length ∧ keptL p l1 0 = pre ++ keptL p (l1.drop k) k ∧ J pre wr ∧ Aside0 (∀ k, S k → wr.heap[k]? = w.heap[k]?))
    (fun v8 _ => l1.length - (intOf v8).toNat)
  case atStart => exact ⟨[], 0, rfl, Nat.zero_le _, rfl, h0, HW⟩
  case round =>
    clear d0 HW
    obtain ⟨pre, k, rfl, hk, hp, hj, HW⟩ := hrel
    by_cases hlt : k < l1.length
    · have a0 := (HW.out Bs s0).trans c0
      have af := (HW.out (Bs + 1) s1).trans cf
      have d0 := (blk_cell a0 0).trans (show _ = some (Value.slice A1 l1.length c1) from rfl)
      have df := (blk_cell af 0).trans (show _ = some (Value.func (.func gi) #[] lbi) from rfl)
      have HR := C_blkW hr1 (fun hn ad e => HW.out _ (s2 ad e hn))
      have q1 : (k < l1.length) = True := eq_true hlt
      have hc2 : decide ((k : Int) < (l1.length : Int)) = true := decide_eq_true (by omega)
      obtain ⟨ad, e1, hx, hx2⟩ := at_W HR (k : Int) (by omega) (by omega)
      subst e1
      rw [Int.toNat_natCast, rd_natW _ _ hlt] at hx hx2
      rw [List.drop_eq_getElem_cons hlt, keptL] at hp
      obtain ⟨y, hy⟩ : ∃ y, y = l1[k] := ⟨_, rfl⟩
      rw [← hy] at hx hx2 hp
      have hBlt : Bs < wr.heap.size := (Array.getElem?_eq_some_iff.1 a0).1
      have hBlt2 : Bs + 1 < wr.heap.size := (Array.getElem?_eq_some_iff.1 af).1
      have e2 : wrap64 ((k : Int) + 1) = ((k + 1 : Nat) : Int) := by unfold wrap64; omega
      have HP := Aside0.mk hp
      have HT := Aside0.mk hlt
      have hWa : ∀ j, S j → (wr.alloc (.cells #[.int .i64 y.f0, .string y.f1] 58)).heap[j]? = w.heap[j]? := fun j hj' => (Below.heap_alloc _ _ _ (lt_of_same (HW.out j hj') (hS j hj'))).trans (HW.out j hj')
      have hcall := HIS.out (wr.alloc (.cells #[.int .i64 y.f0, .string y.f1] 58)) k hlt hWa
      have HWA := Aside0.mk hWa
      have hja : J pre (wr.alloc (.cells #[.int .i64 y.f0, .string y.f1] 58)) := hJ pre wr _ none hj (World.grownBy_alloc _ _ none) (fun r e => by cases e)
      have hb0 := blk_new wr (.cells #[.int .i64 y.f0, .string y.f1] 58)
      clear hWa
      clear hy hp hk hlt a0 af HR
      cases hq : p k with
      | false =>
        rw [hq] at hcall
        gi_wp2_with fail
        refine ⟨trivial, (fun h => by cases h), ?_⟩
        refine (callsIn_wide.2 hcall).mono ?_
        rintro e w' ⟨rfl, rfl⟩
        gi_wp2
        refine ⟨(fun f h => by cases h), ?_⟩
        gi_wp2
        rw [e2]
        refine ⟨⟨pre, k + 1, rfl, by have := HT.out; omega, by have := HP.out; rwa [hq, if_neg (by decide)] at this, hja, HWA⟩, ?_⟩
        have := HT.out
        simp [intOf]
        omega
      | true =>
        rw [hq] at hcall
        have hpk := HP.out
        rw [hq, if_pos rfl] at hpk
        obtain ⟨fn, tmps, assign, body, hyl, hRn⟩ := hY pre y (wr.alloc (.cells #[.int .i64 y.f0, .string y.f1] 58)) hja (by rw [hpk]; simp) ⟨keptL p (l1.drop (k + 1)) (k + 1), by rw [hpk]; simp⟩
        replace hyl : (Instr.yield l #[.agg #[.int .i64 y.f0, .string y.f1]]).run Tryz.prog (wr.alloc (.cells #[.int .i64 y.f0, .string y.f1] 58)) = _ := hyl
        have HP2 := Aside0.mk hpk
        clear hpk
        gi_wp2_with fail
        refine ⟨trivial, (fun h => by cases h), ?_⟩
        refine (callsIn_wide.2 hcall).mono ?_
        rintro e w' ⟨rfl, rfl⟩
        gi_wp2
        refine ⟨(fun h => by cases h), ?_⟩
        refine hRn.mono ?_
        rintro e W3 (⟨rfl, hJ3, hk3⟩ | ⟨rfl, hJx3⟩)
        · have HW3 := Aside0.mk (show ∀ j, S j → W3.heap[j]? = w.heap[j]? from fun j hj' => (hk3 j hj').trans (HWA.out j hj'))
          clear hk3
          gi_wp2
          rw [e2]
          refine ⟨⟨pre ++ [y], k + 1, rfl, by have := HT.out; omega, by rw [HP2.out]; simp, hJ3, HW3⟩, ?_⟩
          have := HT.out
          simp [intOf]
          omega
        · gi_wp2
          refine bodyPost_ret (results_none rfl _ _ _) rfl ?_
          exact ⟨⟨_, rfl⟩, .inr ⟨pre ++ [y], ⟨keptL p (l1.drop (k + 1)) (k + 1), by rw [HP2.out]; simp⟩, hJx3⟩⟩
    · have hc2 : decide ((k : Int) < (l1.length : Int)) = false := decide_eq_false (by omega)
      rw [List.drop_of_length_le (by omega), keptL, List.append_nil] at hp
      have HP := Aside0.mk hp
      clear hp
      gi_wp2
      refine bodyPost_end (results_none rfl _ _ _) rfl ?_
      exact ⟨⟨_, rfl⟩, .inl ⟨pre, by rw [HP.out], hj⟩⟩
theorem flush1_walk (i : Int) (w : World) : Calls Tryz.prog 82 (#[.int .i64 i] ++ #[]) w fun e w' => e = .returned (.bool true) ∧ w' = w := by
  show Calls Tryz.prog 82 #[.int .i64 i] w _
  go_enter Tryz.func82, Tryz.ntmps82
  go_wp2
  go_ret
  exact ⟨rfl, rfl⟩
theorem kept_walk (A : Option Addr) (n c : Nat) (gi : Nat) (lb : Array Value) (w : World) : Calls Tryz.prog 106 #[.slice A n c, .func (.func gi) #[] lb] w fun e w' => e = .returned (.func (.func 115) #[] #[.pointer (some ⟨w.heap.size, 0, none⟩), .pointer (some ⟨w.heap.size + 1, 0, none⟩)]) ∧ w' = (w.alloc (.cells #[.slice A n c] 24)).alloc (.cells #[.func (.func gi) #[] lb] 69) := by
  go_enter Tryz.func106, Tryz.ntmps106
  go_wp2
  go_ret
  exact ⟨rfl, rfl⟩
/-- The blocks, with writes done. -/
def layF (b : List ByteArray) (l : List Wr) : List ByteArray := l.foldl (fun b x => b.set x.f0.toNat x.f1) b
theorem layF_length (l : List Wr) : ∀ b, (layF b l).length = b.length := by
  induction l with
  | nil => intro b; rfl
  | cons x l ih => intro b; simp only [layF, List.foldl_cons] at ih ⊢; rw [ih]; simp
theorem layF_snoc (b : List ByteArray) (l : List Wr) (x : Wr) : layF b (l ++ [x]) = (layF b l).set x.f0.toNat x.f1 := by simp [layF]
/-- A row of strings that fills a block. -/
theorem C_row_str {w : World} {g : Nat} {l : List ByteArray} (h : w.heap[g]? = some (.cells (l.map Value.string).toArray 9 (0, 0))) (hm : l.length ≤ 9223372036854775807) : Kd.C Kd.string w (some ⟨g, 0, none⟩) l.length l := by
  refine Kd.C_of_reads (d := ByteArray.empty) ⟨rfl, hm, fun _ => ⟨_, rfl, fun j hj => ?_⟩⟩
  have e : (⟨g, 0, none⟩ : Addr).add j = ⟨g, j, none⟩ := by simp [Addr.add]; omega
  rw [e, blk_cell h j]
  simp [List.getElem?_eq_getElem hj]
section
variable {F : Fence} {n : Nat} {P : Program}
theorem wpListIn_copy_own {w : World} {ops : Array Oper} {rest : List Oper} {o : Oper} {a : Act} {Q : Exit → Act → World → Prop} (hgd : o.guard = none) (d s : Operand) (dT sT : TypeId)
    (ho : o.op = .call { callee := .builtin .copy, args := #[d, s], argTypes := #[dT, sT] }) (elem : TypeId) (hu : P.underlying dT = some (.slice elem)) (hsz : (P.info? elem).map (·.size) = some 1)
    (g off dLen dCap : Nat) (ad : Addr) (sLen sCap : Nat) (hd : a.eval d = .slice (some ⟨g, off, none⟩) dLen dCap) (hs : a.eval s = .slice (some ad) sLen sCap)
    (cur : Array Value) (t : TypeId) (hg : w.heap[g]? = some (.cells cur t (0, 0))) (cs : List Value) (hn : cs.length = Nat.min sLen dLen)
    (hsrc : ∀ j v, cs[j]? = some v → w.cell? (ad.add j) = some v) (hfit : off + cs.length ≤ cur.size) (h1 : ∀ v ∈ cs, v.oneCell' = true)
    (h : wpListIn F n P ops Q rest (a.put o.dst (goInt cs.length)) (w.setRow g (cur.toList.take off ++ (cs ++ cur.toList.drop (off + cs.length))).toArray)) : wpListIn F n P ops Q (o :: rest) a w := by
  refine wpListIn_plain hgd fun K hK => ?_
  have hrun := run_copy_row (P := P) w dT sT o.type elem g off dLen dCap ad sLen sCap cur t cs hu hsz hg hn hsrc hfit h1
  unfold Oper.wpIn
  refine ⟨?_, ?_⟩
  · simp [Oper.about, ho, resolve, Target.leads, Sem.run_pure]
  · rw [Oper.semAt_plain F _ _ (by rw [ho]; intro c hc'; cases hc')]
    simp [execOp, ho, resolve, invoke, builtin, hd, hs, hrun, Result.andThen]
    exact hK _ _ h
/-- A whole row is filled. -/
theorem wpListIn_copy_fill {w : World} {ops : Array Oper} {rest : List Oper} {o : Oper} {a : Act} {Q : Exit → Act → World → Prop} (hgd : o.guard = none) (d s : Operand) (dT sT : TypeId)
    (ho : o.op = .call { callee := .builtin .copy, args := #[d, s], argTypes := #[dT, sT] }) (elem : TypeId) (hu : P.underlying dT = some (.slice elem)) (hsz : (P.info? elem).map (·.size) = some 1)
    (g m : Nat) (ad : Addr) (sCap dCap : Nat) (hd : a.eval d = .slice (some ⟨g, 0, none⟩) m dCap) (hs : a.eval s = .slice (some ad) m sCap)
    (cur : Array Value) (t : TypeId) (hg : w.heap[g]? = some (.cells cur t (0, 0))) (cs : List Value) (hn : cs.length = m) (hc : cur.size = m)
    (hsrc : ∀ j v, cs[j]? = some v → w.cell? (ad.add j) = some v) (h1 : ∀ v ∈ cs, v.oneCell' = true)
    (h : ∀ w', w'.heap[g]? = some (.cells cs.toArray t (0, 0)) → (∀ k, k ≠ g → w'.heap[k]? = w.heap[k]?) → (∀ B, B ≤ g → ∀ w0, Below B w0 w → Below B w0 w') → w'.heap.size = w.heap.size → wpListIn F n P ops Q rest (a.put o.dst (goInt m)) w') : wpListIn F n P ops Q (o :: rest) a w := by
  refine wpListIn_copy_own hgd d s dT sT ho elem hu hsz g 0 m dCap ad m sCap hd hs cur t hg cs (by rw [hn]; simp) hsrc (by omega) h1 ?_
  rw [hn]
  have e : (cur.toList.take 0 ++ (cs ++ cur.toList.drop (0 + m))) = cs := by
    rw [List.drop_of_length_le (by simp [hc])]; simp
  rw [e]
  exact h _ (setRow_heap w g _ _ t _ hg) (fun k hk => setRow_other w g k _ hk) (fun B hB w0 hb => below_setRow hb hB _) (by simp [World.setRow])
end
/-- The loop of laid, behind the writes pre. -/
def LaidI (w : World) (v0 v1 : Value) (l0 : List ByteArray) (pre : List Wr) (W : World) : Prop :=
  W.heap[w.heap.size]? = some (.cells #[v0, v1] 26 (0, 0)) ∧ W.heap[w.heap.size + 1]? = some (.cells #[.slice none 0 0, .slice none 0 0] 26 (0, 0)) ∧
    W.heap[w.heap.size + 2]? = some (.cells ((layF l0 pre).map Value.string).toArray 9 (0, 0)) ∧ Boxed W (w.heap.size + 3) 23 (.slice (some ⟨w.heap.size + 2, 0, none⟩) l0.length l0.length) ∧ Below w.heap.size w W ∧ w.heap.size + 6 ≤ W.heap.size
theorem laidI_own (w : World) (v0 v1 : Value) (l0 : List ByteArray) {B : Nat} (hB : w.heap.size + 6 = B) : OwnFrom B (LaidI w v0 v1 l0) := by
  rintro pre W W' row ⟨h1, h2, h3, h4, h5, h6⟩ hg hr
  exact ⟨blk_grown h1 hg (fun e => by have := (hr _ e.symm).1; omega), blk_grown h2 hg (fun e => by have := (hr _ e.symm).1; omega), blk_grown h3 hg (fun e => by have := (hr _ e.symm).1; omega), h4.kept hg (fun e => by have := (hr _ e.symm).1; omega), h5.grown hg h5.size (fun k e => by have := (hr k e).1; omega), by have := hg.size; omega⟩
theorem keptL_mem (p : Nat → Bool) : ∀ (l : List Wr) (i : Nat) (x : Wr), x ∈ keptL p l i → x ∈ l
  | [], _, _, h => by simp [keptL] at h
  | y :: l, i, x, h => by
    rw [keptL] at h
    split at h
    · rcases List.mem_cons.1 h with rfl | h
      · simp
      · exact List.mem_cons_of_mem _ (keptL_mem p l _ x h)
    · exact List.mem_cons_of_mem _ (keptL_mem p l _ x h)
theorem laid_out {tmps : Array Value} {b D : Nat} {v0 v1 : Value} {W : World} {R : Ending → World → Prop} (h2 : tmps.getD 4 undef = .pointer (some ⟨b, 0, none⟩))
    (c2 : W.heap[b]? = some (.cells #[v0, v1] 26 (0, 0))) (hD : b < D) (hK : W.heap[D]? = some (.deferred (some []))) (hR : R (.returned (.agg #[v0, v1])) (W.putObj D (.deferred none))) :
    bodyPostM Fence.wide 10 Tryz.prog Tryz.f81 R .ret { tmps := tmps, defers := [{ target := .collected D, args := #[] }] } W := by
  have c3 : (W.putObj D (.deferred none)).heap[b]? = some (.cells #[v0, v1] 26 (0, 0)) := (World.putObj_heap_other (by omega)).trans c2
  unfold bodyPostM LeavesInM
  refine ⟨by simp, .inl ⟨D, _, rfl, run_takeDeferred hK, ?_⟩⟩
  unfold LeavesInM
  have hp' : tmps[4]?.getD undef = .pointer (some ⟨b, 0, none⟩) := by simpa using h2
  have hr := run_loadVar_row (P := Tryz.prog) _ b 26 26 #[v0, v1] (0, 0) _ c3 Tryz.underlying26 rfl (by kernel_rfl)
  refine ⟨_, ?_, hR⟩
  simp [results, hp', asAddr, hr]
set_option maxHeartbeats 4000000 in
set_option maxRecDepth 100000 in
theorem laid_walk (A0 : Option Addr) (c0 : Nat) (l0 : List ByteArray) (A1 : Option Addr) (c1 : Nat) (l1 : List Wr) (gi : Nat) (lbi : Array Value) (p : Nat → Bool) (w : World) (hr0 : Kd.C Kd.string w A0 l0.length l0) (hc0 : l0.length ≤ c0) (hr1 : Kd.C kW w A1 l1.length l1) (hc1 : l1.length ≤ c1)
    (hn : 0 < l0.length) (hbig : l0.length ≤ 1000000) (hfit : ∀ x ∈ l1, fitsB l0.length x = true)
    (egi : ∀ args w, (callFunc gi args).run Tryz.prog w = .ok (.enter gi args) w)
    (HI : ∀ (W : World) (i : Nat), i < l1.length → (∀ k, k < w.heap.size → W.heap[k]? = w.heap[k]?) → Calls Tryz.prog gi (#[.int .i64 (i : Int)] ++ lbi) W fun e w' => e = .returned (.bool (p i)) ∧ w' = W) :
    Calls Tryz.prog 81 #[.agg #[.slice A0 l0.length c0, .slice A1 l1.length c1], .func (.func gi) #[] lbi] w fun e w' => ∃ v, e = .returned (.agg #[v, .slice none 0 0]) ∧ Kd.R Kd.string 9 w' w.heap.size (fun _ => True) v (layF l0 (keptL p l1 0)) ∧ Below w.heap.size w w' := by
  refine (callsIn_wide (n := 10)).1 ?_
  refine callsIn_of_wp_marks Tryz.func81 rfl trivial ?_ rfl
  simp only [Tryz.ntmps81, List.size_toArray, List.length_cons, List.length_nil, Nat.reduceAdd, Nat.reduceSub, Array.replicate_succ, Array.replicate_zero, List.push_toArray, List.append_toArray, List.nil_append, List.cons_append]
  have hmk := fun W => run_make_row' (P := Tryz.prog) 23 9 (.string ⟨#[]⟩) 16 Tryz.underlying23 info_str rfl .i64 .i64 l0.length (by omega) (by omega) W
  have HR0 := Aside0.mk hr0
  have HR1 := Aside0.mk hr1
  have HN := Aside0.mk hn
  have HG := Aside0.mk hbig
  have HF := Aside0.mk hfit
  have HC0 := Aside0.mk hc0
  have HIS := Aside0.mk HI
  clear hr0 hr1 hc0 hc1 hn hbig hfit HI
  obtain ⟨ad, ea, _⟩ := HR0.out.2.2 HN.out
  subst ea
  have hsrc : ∀ (W : World), Kd.C Kd.string W (some ad) l0.length l0 → ∀ j v, (l0.map Value.string)[j]? = some v → W.cell? (ad.add j) = some v := by
    intro W hC j v hv
    have hj : j < l0.length := by have := (List.getElem?_eq_some_iff.1 hv).1; simpa using this
    obtain ⟨ad', e', hx⟩ := Kd.at_string hC (j : Int) (by omega) (by omega)
    cases e'
    rw [Int.toNat_natCast, getElem_rdOf _ _ _ hj] at hx
    rw [hx]
    rw [List.getElem?_map, List.getElem?_eq_getElem hj] at hv
    exact hv
  have HSRC := Aside0.mk hsrc
  clear hsrc
  gi_wp2_with (refine wpListIn_copy_fill rfl (.tmp 11) (.tmp 13) 23 23 rfl 9 Tryz.underlying23 (by kernel_rfl) (w.heap.size + 1 + 1) l0.length ad c0 l0.length rfl rfl (madeCells #[.string ⟨#[]⟩] l0.length) 9 ?hg (l0.map Value.string) (by simp) ?hc ?hs ?h1 ?_; (case hg => exact blk_alloc (blk3 _ _ _ _) _); (case hc => simp [madeCells]); (case hs => exact HSRC.out _ (by repeat (first | (with_reducible exact HR0.out) | (with_reducible refine Kd.C_alloc ?_ _)))); (case h1 => (intro v hv; obtain ⟨x, _, rfl⟩ := List.mem_map.1 hv; rfl)); intro W1 hg1 ho1 hb1 hz1; have HG1 := Aside0.mk hg1; have HO1 := Aside0.mk ho1; have HB1 := Aside0.mk hb1; have HZ1 := Aside0.mk hz1; have K0 := Aside0.mk ((ho1 w.heap.size (by omega)).trans (blk_alloc (blk_alloc (blk_alloc (blk_new w (.cells #[.slice (some ad) l0.length c0, .slice A1 l1.length c1] 26)) _) _) _)); have d0 := (blk_cell K0.out 1).trans (show _ = some (Value.slice A1 l1.length c1) from rfl); clear hg1 ho1 hb1 hz1)
  refine ⟨trivial, ?_⟩
  refine (callsIn_wide.2 (kept_walk A1 l1.length c1 gi lbi _)).mono ?_
  rintro e w2 ⟨rfl, rfl⟩
  have hz1 : W1.heap.size = w.heap.size + 4 := by rw [HZ1.out]; simp
  have n4 := boxed_next hz1 24 (.slice A1 l1.length c1)
  have n5 := boxed_next n4.2 69 (.func (.func gi) #[] lbi)
  have k4 := n4.1.alloc (.cells #[.func (.func gi) #[] lbi] 69)
  have kG := blk_alloc (blk_alloc HG1.out (.cells #[.slice A1 l1.length c1] 24)) (.cells #[.func (.func gi) #[] lbi] 69)
  have kK0 := blk_alloc (blk_alloc K0.out (.cells #[.slice A1 l1.length c1] 24)) (.cells #[.func (.func gi) #[] lbi] 69)
  have k1 : W1.heap[w.heap.size + 1]? = some (.cells #[.slice none 0 0, .slice none 0 0] 26 (0, 0)) := (HO1.out (w.heap.size + 1) (by omega)).trans (blk_alloc (blk_alloc (blk2 w _ _) _) _)
  have kK1 := blk_alloc (blk_alloc k1 (.cells #[.slice A1 l1.length c1] 24)) (.cells #[.func (.func gi) #[] lbi] 69)
  have k3 : Boxed W1 (w.heap.size + 3) 23 (.slice (some ⟨w.heap.size + 2, 0, none⟩) l0.length l0.length) := (HO1.out (w.heap.size + 3) (by omega)).trans (boxed_next (by simp) 23 _).1
  have kK3 := (k3.alloc (.cells #[.slice A1 l1.length c1] 24)).alloc (.cells #[.func (.func gi) #[] lbi] 69)
  have kB := below_alloc (below_alloc (HB1.out w.heap.size (by omega) w (below_alloc (below_alloc (below_alloc (below_alloc (Below.refl _ _) _) _) _) _)) (.cells #[.slice A1 l1.length c1] 24)) (.cells #[.func (.func gi) #[] lbi] 69)
  rw [hz1]
  clear n4 k3 k1 d0 K0 HZ1 HB1 HO1 HG1 hmk
  revert n5 k4 kG kK0 kK1 kK3 kB
  generalize (W1.alloc (Obj.cells #[Value.slice A1 l1.length c1] 24)).alloc (Obj.cells #[Value.func (Fn.func gi) #[] lbi] 69) = W5
  rintro ⟨n5, hz5⟩ k4 kG kK0 kK1 kK3 kB
  gi_wp2
  refine range_sa (F := Fence.wide) (n := 10) rfl (by decide) (gf := 115) (lb := #[.pointer (some ⟨w.heap.size + 4, 0, none⟩), .pointer (some ⟨w.heap.size + 4 + 1, 0, none⟩)]) rfl trivial (enters_of Tryz.func115 (by kernel_rfl) rfl)
    (keptIter 9 (w.heap.size + 4) A1 c1 l1 gi lbi p (fun k => k < w.heap.size ∨ k = w.heap.size + 4 ∨ k = w.heap.size + 4 + 1) W5 (fun k hk => by omega) (by omega) (by omega) ?s2 k4 n5 (Kd.C_below HR1.out kB) egi ?hi) (fun h1 h2 k hk => (h2 k hk).trans (h1 k hk)) ?hkb (fun _ => rfl) ?hst
    (LaidI w (.slice (some ad) l0.length c0) (.slice A1 l1.length c1) l0) (fun _ _ _ => False) (laidI_own w _ _ l0 (by omega)) (fun s A B h e => by subst e; exact h) (fun c s A B row h _ _ => h) ?h0
    (fun x blk => { tmps := #[.agg #[.slice (some ad) l0.length c0, .slice A1 l1.length c1], .func (.func gi) #[] lbi, .pointer (some ⟨w.heap.size, 0, none⟩), undef, .pointer (some ⟨w.heap.size + 1, 0, none⟩), .pointer (some ⟨w.heap.size + 1 + 1 + 1, 0, none⟩), .pointer (some ⟨blk, 0, none⟩), .pointer (some ⟨w.heap.size, 0, none⟩), .slice (some ad) l0.length c0, .int .i64 l0.length, .slice (some ⟨w.heap.size + 1 + 1, 0, none⟩) l0.length l0.length, .slice (some ⟨w.heap.size + 1 + 1, 0, none⟩) l0.length l0.length, .pointer (some ⟨w.heap.size, 0, none⟩), .slice (some ad) l0.length c0, .int .i64 l0.length, .pointer (some ⟨w.heap.size, 1, none⟩), .slice A1 l1.length c1, .func (.func gi) #[] lbi, .func (.func 115) #[] #[.pointer (some ⟨w.heap.size + 4, 0, none⟩), .pointer (some ⟨w.heap.size + 4 + 1, 0, none⟩)], encW x, undef, undef, undef, undef, undef, undef, undef, undef], defers := [] }) (fun x => .cells #[.int .i64 x.f0, .string x.f1] 58) ?hka ?assign ?body ?done ?stop
  case s2 =>
    intro ad' e hl
    have := HR1.out
    rw [e] at this
    exact .inl (Kd.C_lt this hl (by decide))
  case hi =>
    intro W i hi hk
    exact HIS.out W i hi (fun k hlt => (hk k (.inl hlt)).trans (kB.block k hlt))
  case hkb =>
    rintro W l o' hl k hk
    exact World.putObj_heap_other (by omega)
  case hst =>
    rintro A B l o rfl ho hl
    exact ho
  case h0 => exact ⟨kK0, kK1, kG, kK3, kB, by omega⟩
  case hka =>
    rintro x W hW k hk
    exact Below.heap_alloc _ _ _ (by omega)
  case assign =>
    intro l x W K hK
    obtain ⟨y0, y1⟩ := x
    simp only [encW] at hK ⊢
    gi_wp2
    exact hK
  case body =>
    rintro l pre x W blk ⟨h1, h2, h3, h4, h5, h6⟩ hlen ⟨rest', hsp⟩ hbl hge
    have hx : x ∈ l1 := by
      have : x ∈ keptL p l1 0 := by rw [← hsp]; simp
      exact keptL_mem p l1 0 x this
    obtain ⟨y0, y1⟩ := x
    have hf := HF.out _ hx
    unfold fitsB at hf
    simp only [Bool.and_eq_true, decide_eq_true_eq] at hf
    obtain ⟨hf0, hf1, _⟩ := hf
    obtain ⟨m, rfl⟩ : ∃ m : Nat, y0 = (m : Int) := ⟨y0.toNat, by omega⟩
    have hm : m < l0.length := by omega
    have hlen2 : (layF l0 pre).length = l0.length := layF_length pre l0
    have d3 := h4.cell
    have e0 := (blk_cell hbl 0).trans (show _ = some (Value.int .i64 (m : Int)) from rfl)
    have e1 := (blk_cell hbl 1).trans (show _ = some (Value.string y1) from rfl)
    have g0 := (blk_cell h3 m).trans (show _ = some (Value.string ((layF l0 pre)[m]'(by omega))) by simp [List.getElem?_eq_getElem (show m < (layF l0 pre).length by omega)])
    have gf := blk_frozen h3 m
    generalize (layF l0 pre)[m]'(by omega) = z at g0
    have q1 : (m < l0.length) = True := eq_true hm
    have q2 : decide ((m : Int) < (l0.length : Int)) = true := decide_eq_true (by omega)
    have P1 := Aside0.mk h1
    have P2 := Aside0.mk h2
    have P3 := Aside0.mk h3
    have P4 := Aside0.mk h4
    have P6 := Aside0.mk h6
    have P7 := Aside0.mk hm
    clear h1 h2 h3 h4 h6 hbl hf1 hf0 hlen2 hx hsp hm
    simp only [encW]
    gi_wp2
    refine ⟨KeepsOthers.setCell _ _ _, fun k hk => Below.heap_setCell _ _ _ k (by rcases hk with hk | hk | hk <;> (show k ≠ w.heap.size + 2; omega)), blk_far P1.out (by show w.heap.size ≠ w.heap.size + 2; omega) _, blk_far P2.out (by show w.heap.size + 1 ≠ w.heap.size + 2; omega) _, ?_, (Below.heap_setCell _ _ _ (w.heap.size + 3) (by show w.heap.size + 3 ≠ w.heap.size + 2; omega)).trans P4.out, h5.setCell (p := ⟨w.heap.size + 2, m, none⟩) (by show w.heap.size ≤ w.heap.size + 2; omega) _, ?_⟩
    · rw [layF_snoc]
      refine blk_put P3.out m _ ?_
      simp
    · have : (W.setCell ⟨w.heap.size + 2, m, none⟩ (.string y1)).heap.size = W.heap.size := by simp [World.setCell]
      have h6 := P6.out
      rw [← this] at h6
      exact h6
  case done =>
    rintro D ys W hD rfl ⟨h1, h2, h3, h4, h5, h6⟩ hK
    have d3 := h4.cell
    have d20 := (blk_cell h2 0).trans (show _ = some (Value.slice none 0 0) from rfl)
    have d21 := (blk_cell h2 1).trans (show _ = some (Value.slice none 0 0) from rfl)
    have f20 := blk_frozen h2 0
    have f21 := blk_frozen h2 1
    have P2 := Aside0.mk h2
    have P3 := Aside0.mk h3
    have P6 := Aside0.mk h6
    clear h1 h2 h3 h4 h6
    gi_wp2
    have hz2 : ∀ (W : World) (q : Addr) (u : Value), (W.setCell q u).heap.size = W.heap.size := fun W q u => by simp [World.setCell]
    have k1 : ((W.setCell ⟨w.heap.size + 1, 0, none⟩ (.slice (some ⟨w.heap.size + 2, 0, none⟩) l0.length l0.length)).setCell ⟨w.heap.size + 1, 1, none⟩ (.slice none 0 0)).heap[w.heap.size + 1]? = some (.cells #[.slice (some ⟨w.heap.size + 2, 0, none⟩) l0.length l0.length, .slice none 0 0] 26 (0, 0)) :=
      blk_put (blk_put P2.out 0 _ rfl) 1 _ rfl
    have k2 := blk_far (p := ⟨w.heap.size + 1, 1, none⟩) (blk_far (p := ⟨w.heap.size + 1, 0, none⟩) P3.out (by show w.heap.size + 2 ≠ w.heap.size + 1; omega) (.slice (some ⟨w.heap.size + 2, 0, none⟩) l0.length l0.length)) (by show w.heap.size + 2 ≠ w.heap.size + 1; omega) (.slice none 0 0)
    have hk2 : ((W.setCell ⟨w.heap.size + 1, 0, none⟩ (.slice (some ⟨w.heap.size + 2, 0, none⟩) l0.length l0.length)).setCell ⟨w.heap.size + 1, 1, none⟩ (.slice none 0 0)).heap[D]? = some (.deferred (some [])) := (KeepsOthers.setCell _ _ _).same D _ ((KeepsOthers.setCell _ _ _).same D _ hK rfl) rfl
    have hB2 := (h5.setCell (p := ⟨w.heap.size + 1, 0, none⟩) (by show w.heap.size ≤ w.heap.size + 1; omega) (.slice (some ⟨w.heap.size + 2, 0, none⟩) l0.length l0.length)).setCell (p := ⟨w.heap.size + 1, 1, none⟩) (by show w.heap.size ≤ w.heap.size + 1; omega) (.slice none 0 0)
    refine laid_out rfl k1 (by omega) hk2 ?_
    have hll : (layF l0 (keptL p l1 0)).length = l0.length := layF_length _ _
    have k3 := (World.putObj_heap_other (r := D) (o := .deferred none) (by omega)).trans k2
    refine ⟨_, rfl, ?_, hB2.trans (belowK_b (w := W5) (by omega) _ D _ _ (by omega) hk2 rfl rfl)⟩
    refine Kd.R_of_own (enc := Value.string) ?_ (fun _ _ => trivial)
    refine ⟨by simp [encs], .inr ⟨w.heap.size + 2, l0.length, _, by rw [hll], by omega, k3, by omega, by have := HG.out; unfold maxLen; omega, by simp [hll], ?_⟩⟩
    rw [hll]
    simp only [encs, Nat.mul_one]
    exact List.take_of_length_le (by simp [hll])
  case stop =>
    rintro D c pre W hD hsp hf hK
    exact hf.elim
end Go.Proofs.YtodejilhgpejnaaGreat.Q
namespace Go.Proofs.YtodejilhgpejnaaGreat.Q
open Go.RowKit Go.Proofs.YtodejilhgpejnaaGreatW.PrintWords Go.Proofs.YtodejilhgpejnaaGreatW.PrintLast Go.Proofs.YtodejilhgpejnaaGreatW.PrintMore
attribute [local go_sem] max2_int min2_int max_two min_two max_three min_three max_four min_four
set_option linter.unusedVariables false
set_option linter.unusedSimpArgs false
theorem results_c1 {P : Program} {fn : Func} {p : Tmp} {ty : TypeId} (h : fn.results = #[.cell p ty]) (tmps : Array Value) (w : World) (g : Nat) (t : TypeId) (cs : Array Value) (fr : Nat × Nat) (d : TypeDesc)
    (hp : tmps.getD p undef = .pointer (some ⟨g, 0, none⟩)) (hg : w.heap[g]? = some (.cells cs t fr))
    (hu : P.underlying ty = some d) (hd : (match d with | .struct _ | .array _ _ => true | _ => false) = true) (hi : (P.info? ty).map (·.size) = some cs.size) :
    (results fn tmps).run P w = .ok (.agg cs) w := by
  have hp' : tmps[p]?.getD undef = .pointer (some ⟨g, 0, none⟩) := by simpa using hp
  simp [results, h, hp', asAddr, run_loadVar_row w g t ty cs fr d hg hu hd hi]
theorem keptL_all (l : List Wr) : ∀ i, keptL (fun _ => true) l i = l := by
  induction l with
  | nil => intro i; rfl
  | cons x l ih => intro i; rw [keptL, if_pos rfl, ih]
theorem laid_tail {w W3 : World} {base : Nat} {v : Value} {l : List ByteArray} {o1 : Nat} (hR : Kd.R Kd.string 9 W3 base (fun _ => True) v l) (h1 : w.heap.size ≤ base) (h2 : o1 < base) :
    Kd.R Kd.string 9 ((W3.setCell ⟨o1, 0, none⟩ v).setCell ⟨o1, 1, none⟩ (.slice none 0 0)) w.heap.size (fun _ => True) v l := by
  have h := Kd.R_bound hR
  have h3 := Kd.R_far (p := ⟨o1, 1, none⟩) (Kd.R_far (p := ⟨o1, 0, none⟩) h (fun k hk => by have := hk.2.1; show k ≠ o1; omega) v) (fun k hk => by have := hk.2.1; show k ≠ o1; omega) (.slice none 0 0)
  exact Kd.R_mono (Kd.R_lower h3 h1) (fun _ _ => trivial)
set_option maxHeartbeats 4000000 in
set_option maxRecDepth 100000 in
/-- disk.Flush. -/
theorem flush_walk (A0 : Option Addr) (c0 : Nat) (l0 : List ByteArray) (A1 : Option Addr) (c1 : Nat) (l1 : List Wr) (w : World) (hr0 : Kd.C Kd.string w A0 l0.length l0) (hc0 : l0.length ≤ c0) (hr1 : Kd.C kW w A1 l1.length l1) (hc1 : l1.length ≤ c1) (h0 : 0 < l0.length) (h1 : l0.length ≤ 1000000) (h2 : ∀ x ∈ l1, fitsB l0.length x = true) :
    Calls Tryz.prog 48 #[.agg #[.slice A0 l0.length c0, .slice A1 l1.length c1]] w fun e w' => ∃ B cb, e = .returned (.agg #[.slice B (layF l0 l1).length cb, .slice none 0 0]) ∧ (layF l0 l1).length ≤ cb ∧ Kd.C Kd.string w' B (layF l0 l1).length (layF l0 l1) ∧ Below w.heap.size w w' := by
  have HL := Aside0.mk (fun W h3 h4 => laid_walk A0 c0 l0 A1 c1 l1 82 #[] (fun _ => true) W h3 hc0 h4 hc1 h0 h1 h2 (Go.Proofs.enters_of Tryz.func82 (by kernel_rfl) rfl) (fun W i _ _ => flush1_walk i W))
  have HR0 := Aside0.mk hr0
  have HR1 := Aside0.mk hr1
  have hk := keptL_all l1 0
  rw [hk] at HL
  clear hk hr0 hr1 hc0 hc1 h0 h1 h2
  generalize layF l0 l1 = r at HL ⊢
  go_enter Tryz.func48, Tryz.ntmps48
  go_wp2_with (first | (go_at_call 81; (with_reducible refine (HL.out _ ?s1 ?s2).mono ?_); (case s1 => exact Kd.C_alloc (Kd.C_alloc HR0.out _) _); (case s2 => exact Kd.C_alloc (Kd.C_alloc HR1.out _) _); rintro e w3 ⟨v, rfl, hR, hb⟩; obtain ⟨Av, cv, rfl⟩ := Kd.R_slice hR; have BK1 := Aside0.mk (blk_below (g := w.heap.size + 1) (o := .cells #[.slice none 0 0, .slice none 0 0] 26 (0, 0)) (blk2 _ _ _) hb); have hx10 := (blk_cell BK1.out 0).trans (show _ = some (Value.slice none 0 0) from rfl); have hx11 := (blk_cell BK1.out 1).trans (show _ = some (Value.slice none 0 0) from rfl); have hf10 := blk_frozen BK1.out 0; have hf11 := blk_frozen BK1.out 1; have HRR := Aside0.mk hR; have HB := Aside0.mk (show Below w.heap.size w w3 from below_step (below_alloc (below_alloc (Below.refl _ _) _) _) hb); clear hb hR))
  refine bodyPost_ret (results_c1 rfl _ _ (w.heap.size + 1) 26 #[.slice Av r.length cv, .slice none 0 0] (0, 0) _ rfl (blk_put (blk_put BK1.out 0 _ rfl) 1 _ rfl) Tryz.underlying26 rfl (by kernel_rfl)) rfl ?_
  have ht := Kd.R_reads' (laid_tail (w := w) (o1 := w.heap.size + 1) HRR.out (by simp; omega) (by simp))
  exact ⟨Av, cv, rfl, ht.2.1, ht.2.2, below_setc (below_setc HB.out (Nat.le_succ _) 0 (.slice Av r.length cv)) (Nat.le_succ _) 1 (.slice none 0 0)⟩
/-- A row of which the first m cells are filled. -/
def filled (s : ByteArray) (n m : Nat) : List Value := (List.replicate m s ++ List.replicate (n - m) (⟨#[]⟩ : ByteArray)).map Value.string
theorem filled_length (s : ByteArray) (n m : Nat) (h : m ≤ n) : (filled s n m).length = n := by simp [filled]; omega
theorem filled_get (s : ByteArray) (n m j : Nat) (h : j < m) : (filled s n m)[j]? = some (.string s) := by
  simp [filled, List.getElem?_append, h]
theorem filled_splice (s : ByteArray) (n m k : Nat) (h : m + k ≤ n) : splice (filled s n m) m ((List.replicate k s).map Value.string) = filled s n (m + k) := by
  unfold splice filled
  rw [← List.map_take, ← List.map_drop, ← List.map_append, ← List.map_append]
  congr 1
  simp only [List.length_map, List.length_replicate]
  rw [List.take_append_of_le_length (by simp), List.take_of_length_le (by simp)]
  rw [List.drop_append, List.drop_of_length_le (by simp)]
  simp only [List.length_replicate, List.drop_replicate, List.nil_append]
  rw [← List.append_assoc, List.replicate_append_replicate]
  congr 2
  omega
set_option maxHeartbeats 4000000 in
set_option maxRecDepth 100000 in
theorem srep_walk (A : Option Addr) (c : Nat) (s : ByteArray) (n : Nat) (w : World) (hr : Kd.C Kd.string w A 1 [s]) (hc : 1 ≤ c) (hn : 1 ≤ n) (hn2 : n ≤ 4000)
    (hMul : ∀ W : World, Calls Tryz.prog 52 #[.int .u64 1, .int .u64 (n : Int)] W fun e w' => e = .returned (.tuple #[.int .u64 0, .int .u64 (n : Int)]) ∧ W = w') :
    Calls Tryz.prog 31 #[.slice A 1 c, .int .i64 (n : Int)] w fun e w' => ∃ v, e = .returned v ∧ Kd.R Kd.string 9 w' w.heap.size (fun _ => True) v (List.replicate n s) ∧ Below w.heap.size w w' := by
  have hmk := fun W => run_make_row' (P := Tryz.prog) 23 9 (.string ⟨#[]⟩) 16 Tryz.underlying23 info_str rfl .i64 .i64 n (by omega) (by omega) W
  have HR := Aside0.mk hr
  have HM := Aside0.mk hMul
  obtain ⟨ad, ea, hx⟩ := Kd.at_string hr 0 (by omega) (by simp)
  subst ea
  have e0 : ad.add (Int.toNat 0) = ad := by simp [Addr.add]
  have hx' : w.cell? ad = some (.string s) := by rw [e0] at hx; exact hx
  have HX := Aside0.mk hx'
  clear hx hx' hr hMul e0
  go_enter Tryz.func31, Tryz.ntmps31
  have hmc : madeCells #[.string ⟨#[]⟩] n = (filled s n 0).toArray := by
    simp only [madeCells, filled]
    apply Array.ext <;> simp [Nat.mod_one]
  have HMC := Aside0.mk hmc
  clear hmc
  go_wp2_with (first | (go_at_call 52; refine (HM.out _).mono ?_; rintro e w1 ⟨rfl, rfl⟩) | (refine wpList_copy_splice rfl (.tmp 31) (.tmp 32) 23 23 rfl 9 Tryz.underlying23 (by kernel_rfl) (some ⟨w.heap.size, 0, none⟩) (some ad) n n 1 c rfl rfl w.heap.size 0 (filled s n 0) 9 ?hg [.string s] ?hn ?hpos ?hfit ?h1 w.heap.size w ?hb (Nat.le_refl _) ?_; (case hg => rw [← HMC.out]; exact blk_new _ _); (case hn => exact (Nat.min_eq_left hn).symm); (case hpos => exact fun _ => ⟨rfl, ad, rfl, fun j v hj => (by obtain ⟨rfl, rfl⟩ : j = 0 ∧ Value.string s = v := (by cases j with | zero => exact ⟨rfl, by simpa using hj⟩ | succ j => simp at hj); have e0 : ad.add 0 = ad := (by simp [Addr.add]); rw [e0]; exact ((below_alloc (Below.refl _ _) _).cell (World.block_lt_of_cell? w _ HX.out)).trans HX.out)⟩); (case hfit => rw [filled_length _ _ _ (Nat.zero_le _)]; show 0 + 1 ≤ n; omega); (case h1 => intro v hv; obtain rfl := List.mem_singleton.1 hv; rfl); (case hb => exact below_alloc (Below.refl _ _) _); intro w2 hg2 hb2))
  have hg3 : w2.heap[w.heap.size]? = some (.cells (filled s n 1).toArray 9 (0, 0)) := by
    have h := hg2.out
    have e := filled_splice s n 0 1 (by omega)
    simp only [List.replicate_one, List.map_cons, List.map_nil, Nat.zero_add] at e
    rw [e] at h
    exact h
  have HG3 := Aside0.mk hg3
  have HB2 := Aside0.mk hb2
  clear hg3 hg2 hb2 hmk
  go_loopw [8] (fun v8 wr => ∃ m : Nat, v8 = .int .i64 m ∧ 1 ≤ m ∧ m ≤ n ∧ Aside0 (wr.heap[w.heap.size]? = some (.cells (filled s n m).toArray 9 (0, 0))) ∧ Aside0 (Below w.heap.size w wr)) (fun v8 _ => n - (intOf v8).toNat)
  case atStart => exact ⟨1, rfl, Nat.le_refl _, hn, HG3, HB2⟩
  case round =>
    clear HG3 HB2
    obtain ⟨m, rfl, hm1, hm2, HG, HB⟩ := hrel
    by_cases hlt : m < n
    · have c1 : decide ((m : Int) < (n : Int)) = true := decide_eq_true (by omega)
      have q1 : (m < n) = True := eq_true hlt
      have q2 : (m ≤ n) = True := eq_true hm2
      have q3 : ((m : Int) ≤ (n : Int)) = True := eq_true (by omega)
      have q4 : (n = m) = False := eq_false (by omega)
      obtain ⟨k, hk⟩ : ∃ k, k = Nat.min m (n - m) := ⟨_, rfl⟩
      have hk1 : k ≤ m := by rw [hk]; exact Nat.min_le_left _ _
      have hk2 : m + k ≤ n := by have : k ≤ n - m := by rw [hk]; exact Nat.min_le_right _ _
                                 omega
      have hk3 : 1 ≤ k := by rw [hk]; exact Nat.le_min.2 ⟨hm1, by omega⟩
      obtain ⟨X, hX⟩ : ∃ X, X = (List.replicate k s).map Value.string := ⟨_, rfl⟩
      have hXL : X.length = k := by rw [hX]; simp
      have HXL := Aside0.mk hXL
      have HXN := Aside0.mk (hXL.trans hk)
      have HX1 : Aside0 (∀ v ∈ X, v.oneCell' = true) := ⟨fun v hv => by rw [hX] at hv; obtain ⟨_, _, rfl⟩ := List.mem_map.1 hv; rfl⟩
      have HXF : Aside0 (m + X.length ≤ (filled s n m).length) := ⟨by rw [hXL, filled_length _ _ _ hm2]; exact hk2⟩
      have HXP : Aside0 (∀ j v, X[j]? = some v → wr.drew.cell? ((⟨w.heap.size, 0, none⟩ : Addr).add j) = some v) := ⟨fun j v hj => by
        have hjk : j < k := by rw [← hXL]; exact (List.getElem?_eq_some_iff.1 hj).1
        rw [hX] at hj
        have hv : v = .string s := by simp [List.getElem?_replicate, hjk] at hj; exact hj.symm
        have e : ((⟨w.heap.size, 0, none⟩ : Addr).add j) = ⟨w.heap.size, j, none⟩ := by simp [Addr.add]; omega
        rw [e, hv]
        have h := blk_cell (blk_drew HG.out) j
        rw [h]
        simpa using filled_get s n m j (by omega)⟩
      have HS : Aside0 (splice (filled s n m) m X = filled s n (m + k)) := ⟨by rw [hX]; exact filled_splice s n m k hk2⟩
      have hw : IntKind.i64.wrap ((m : Int) + (k : Int)) = ((m + k : Nat) : Int) := by rw [show ((m + k : Nat) : Int) = (m : Int) + (k : Int) by omega]; exact IntWalk.i64_in _ (by omega)
      have HK := Aside0.mk (And.intro hk2 (And.intro hk3 hn2))
      clear hk hX hXL hk1 hk2 hk3
      go_wp2
      go_region_law (refine step_copy_splice (o := ⟨some 45, _, _, _, _, _⟩) rfl (.tmp 41) (.tmp 44) 23 23 rfl 9 Tryz.underlying23 (by kernel_rfl) (some ⟨w.heap.size, m, none⟩) (some ⟨w.heap.size, 0, none⟩) (n - m) (n - m) m n ?hd ?hs w.heap.size m (filled s n m) 9 (blk_drew HG.out) X HXN.out (fun _ => ⟨rfl, _, rfl, HXP.out⟩) HXF.out HX1.out w.heap.size w (below_drew1 HB.out) (Nat.le_refl _) ?_; (case hd => first | (go_simp; done) | (go_simp; rfl)); (case hs => first | (go_simp; done) | (go_simp; rfl)); intro w4 hg4 hb4; rw [HXL.out])
      go_simp
      go_wp2
      go_roundw
      case rel =>
        have h := hg4.out
        rw [HS.out] at h
        exact ⟨m + k, by go_num, by omega, HK.out.1, ⟨h⟩, ⟨hb4⟩⟩
      case measure =>
        have := HK.out
        simp [intOf]
        omega
    · obtain rfl : m = n := by omega
      have c1 : decide ((m : Int) < (m : Int)) = false := decide_eq_false (by omega)
      go_wp2
      go_ret
      refine ⟨_, rfl, ?_, HB.out⟩
      refine Kd.R_of_own (enc := Value.string) ?_ (fun _ _ => trivial)
      refine ⟨by simp [encs], .inr ⟨w.heap.size, m, _, by simp, Nat.le_refl _, HG.out, by simp, by unfold maxLen; omega, by simp [filled], ?_⟩⟩
      simp [encs, filled]
theorem mul_one_n (n : Nat) (hn2 : n ≤ 4000) (W : World) : Calls Tryz.prog 52 #[.int .u64 1, .int .u64 (n : Int)] W fun e w' => e = .returned (.tuple #[.int .u64 0, .int .u64 (n : Int)]) ∧ W = w' := by
  refine (Tryz.bits_Mul 1 n (by omega) (by omega) W).mono ?_
  rintro e w' ⟨rfl, h⟩
  rw [Nat.one_mul, Nat.div_eq_of_lt (by omega), Nat.mod_eq_of_lt (by omega)]
  exact ⟨rfl, h.symm⟩
end Go.Proofs.YtodejilhgpejnaaGreat.Q
namespace Go.Proofs.YtodejilhgpejnaaGreat.Q
open Go.RowKit Go.Proofs.YtodejilhgpejnaaGreatW.PrintWords Go.Proofs.YtodejilhgpejnaaGreatW.PrintLast Go.Proofs.YtodejilhgpejnaaGreatW.PrintMore
attribute [local go_sem] max2_int min2_int max_two min_two max_three min_three max_four min_four
set_option linter.unusedVariables false
set_option linter.unusedSimpArgs false
theorem one_str (w : World) (s : ByteArray) : Kd.C Kd.string (w.alloc (.cells #[.string s] 9)) (some ⟨w.heap.size, 0, none⟩) 1 [s] := C_row_str (l := [s]) (blk_new _ _) (show (1 : Nat) ≤ 9223372036854775807 by decide)
theorem rep40 : (⟨(Lib.repeatL (⟨#[0]⟩ : ByteArray).data.toList 40).toArray⟩ : ByteArray) = zero40 := by decide +kernel
theorem rep_walk (w : World) : Calls Tryz.prog 32 #[.string ⟨#[0]⟩, .int .i64 40] w fun e w' => e = .returned (.string zero40) ∧ Below w.heap.size w w' := by
  have h := Tryz.strings_Repeat ⟨#[0]⟩ 40 w (by decide) (by decide)
  rw [rep40] at h
  exact h
theorem diskNew_walk (n : Nat) (w : World) (h1 : 1 ≤ n) (h2 : n ≤ 4000) : Calls Tryz.prog 14 #[.int .i64 n] w fun e w' => ∃ A c, e = .returned (.tuple #[.agg #[.slice A n c, .slice none 0 0], .int .i64 0]) ∧ n ≤ c ∧ Kd.C Kd.string w' A n (List.replicate n zero40) ∧ Below w.heap.size w w' := by
  have q1 : decide ((n : Int) < 1) = false := decide_eq_false (by omega)
  have q2 : decide ((4000 : Int) < (n : Int)) = false := decide_eq_false (by omega)
  have q3 : decide (n < 1) = false := decide_eq_false (by omega)
  have q4 : decide (4000 < n) = false := decide_eq_false (by omega)
  have HR0 := Aside0.mk (blk_new w (.cells #[.slice none 0 0, .slice none 0 0] 26))
  have HSR := Aside0.mk (fun (A : Option Addr) (W : World) (hr : Kd.C Kd.string W A 1 [zero40]) => srep_walk A 1 zero40 n W hr (by decide) h1 h2 (mul_one_n n h2))
  clear h1 h2
  go_enter Tryz.func14, Tryz.ntmps14
  go_wp2_with (first | (go_at_call 32; (with_reducible refine (rep_walk _).mono ?_); rintro e w1 ⟨rfl, hb1⟩; have HB1 := Aside0.mk (show Below w.heap.size w w1 from below_step (below_alloc (Below.refl _ _) _) hb1); have HR1 := Aside0.mk (blk_below HR0.out hb1); clear hb1) | (go_at_call 31; (with_reducible refine (HSR.out _ _ (one_str _ _)).mono ?_); rintro e w2 ⟨v, rfl, hR, hb2⟩; obtain ⟨A, c, rfl⟩ := Kd.R_slice hR; have HRR := Aside0.mk hR; have HB2 := Aside0.mk (show Below w1.heap.size w1 w2 from below_step (below_alloc (Below.refl _ _) _) hb2); have HR2 := Aside0.mk (blk_below (blk_alloc HR1.out _) hb2); have e0 := (blk_cell HR2.out 0).trans (show _ = some (Value.slice none 0 0) from rfl); have e1 := (blk_cell HR2.out 1).trans (show _ = some (Value.slice none 0 0) from rfl); have f0 := blk_frozen HR2.out 0; have f1 := blk_frozen HR2.out 1; clear hR hb2) | fail)
  refine bodyPost_ret (results_ct rfl _ _ w.heap.size 26 #[.slice A n c, .slice none 0 0] (0, 0) _ rfl (blk_put (blk_put HR2.out 0 _ rfl) 1 _ rfl) Tryz.underlying26 rfl (by kernel_rfl)) rfl ?_
  have hz := HB1.out.size
  have h0 := blk_lt HR1.out
  have ht := Kd.R_reads' (laid_tail (w := w) (o1 := w.heap.size) HRR.out (by simp; omega) (by simp; omega))
  exact ⟨A, c, rfl, by have := ht.2.1; simpa using this, by have := ht.2.2; simpa using this, below_set (below_set (below_step HB1.out HB2.out) (Nat.le_refl _)) (Nat.le_refl _)⟩
theorem diskNo_walk (n : Int) (w : World) (h1 : n < 1) : Calls Tryz.prog 14 #[.int .i64 n] w fun e w' => e = .returned (.tuple #[.agg #[.slice none 0 0, .slice none 0 0], .int .i64 1]) ∧ Below w.heap.size w w' := by
  have q1 : decide (n < 1) = true := decide_eq_true h1
  have HR0 := Aside0.mk (blk_new w (.cells #[.slice none 0 0, .slice none 0 0] 26))
  clear h1
  go_enter Tryz.func14, Tryz.ntmps14
  go_wp2
  refine bodyPost_ret (results_ct rfl _ _ w.heap.size 26 #[.slice none 0 0, .slice none 0 0] (0, 0) _ rfl (by first | exact blk_put (blk_put HR0.out 0 _ rfl) 1 _ rfl | exact blk_new w _) Tryz.underlying26 rfl (by kernel_rfl)) rfl ?_
  exact ⟨rfl, by first | exact below_set (below_set (below_alloc (Below.refl _ _) _) (Nat.le_refl _)) (Nat.le_refl _) | exact below_alloc (Below.refl _ _) _⟩
set_option maxHeartbeats 1000000 in
theorem overN_walk (blocks : Int) (i b : Nat) (w : World) (hi : i < 2000) (hb : blocks < 0) (hc : w.cell? ⟨b, 0, none⟩ = some (.int .i64 blocks)) :
    Calls Tryz.prog 35 #[.int .i64 i, .pointer (some ⟨b, 0, none⟩)] w fun e w' => e = .returned (.bool true) ∧ Below w.heap.size w w' := by
  have hB : baseF (i + 1) ≤ 100000 := by unfold baseF areaF; omega
  have HB := Aside0.mk (show i + 1 ≤ 100000 by omega)
  have e1 : wrap64 ((i : Int) + 1) = ((i + 1 : Nat) : Int) := by unfold wrap64; omega
  obtain ⟨B, hBB⟩ : ∃ B, baseF (i + 1) = B := ⟨_, rfl⟩
  have e2 : wrap64 ((B : Int) + (i : Int)) = ((B + i : Nat) : Int) := by unfold wrap64; omega
  have e3 : wrap64 (((B + i : Nat) : Int) + 1) = ((B + i + 1 : Nat) : Int) := by unfold wrap64; omega
  have e4 : decide (blocks < ((B + i + 1 : Nat) : Int)) = true := decide_eq_true (by omega)
  have HCALL := Aside0.mk (fun (W : World) => (base_walk (i + 1) W (by omega)).mono (R' := fun e w' => e = .returned (.int .i64 (B : Int)) ∧ w' = W) (fun e w' h => ⟨by rw [h.1, hBB], h.2.symm⟩))
  clear hB hBB hi hb HB
  go_enter Tryz.func35, Tryz.ntmps35
  go_wp2_with fail
  go_quiet ((go_at_call 36; exact Calls.quiet_of_same (HCALL.out _)))
  all_goals
    go_wp2
    go_ret
    exact ⟨ret_b (by rw [← e4, show wrap64 ((B : Int) + (i : Int) + 1) = ((B + i + 1 : Nat) : Int) by rw [← e3]; rfl]), below_drewN' _ _⟩
theorem bs_true : bsF (fun _ => true) 2000 0 2000 = 0 := by decide +kernel
set_option maxHeartbeats 1000000 in
theorem cellsN_walk (blocks : Int) (w : World) (hb : blocks < 0) : Calls Tryz.prog 16 #[.int .i64 blocks] w fun e w' => e = .returned (.int .i64 0) ∧ Below w.heap.size w w' := by
  have HB := Aside0.mk hb
  have hs := (sort_Search.walk 2000 35 #[.pointer (some ⟨w.heap.size, 0, none⟩)] (enters_of Tryz.func35 (by kernel_rfl) rfl) (fun _ => true) (w.alloc (.cells #[.int .i64 blocks] 3)) (by decide)
    (fun W i hi hW => (overN_walk blocks i w.heap.size W hi hb (bcell hW ((blk_cell (blk_new _ _) 0).trans rfl))).mono (fun e w' h => ⟨h.1, below_step hW h.2⟩)))
  rw [show ((2000 : Nat) : Int) = 2000 from rfl, bs_true] at hs
  have HS := Aside0.mk hs
  clear hb hs
  go_enter Tryz.func16, Tryz.ntmps16
  go_wp2_with (go_at_call 34; (with_reducible refine HS.out.mono ?_); rintro e w1 ⟨rfl, hb⟩; have HB1 := Aside0.mk hb; clear hb)
  go_ret
  exact ⟨rfl, below_step (below_alloc (Below.refl _ _) _) HB1.out⟩
theorem C_blkZ {W W' : World} {A : Option Addr} {n : Nat} (h : ZC W A n) (hb : 0 < n → ∀ ad, A = some ad → W'.heap[ad.block]? = W.heap[ad.block]?) : ZC W' A n := by
  refine ⟨h.1, h.2.1, fun hn => ?_⟩
  obtain ⟨ad, e, hc⟩ := h.2.2 hn
  refine ⟨ad, e, fun j p hj => ?_⟩
  obtain ⟨c, h1, h2, h3⟩ := hc j p hj
  exact ⟨c, h1, h2, fun i u hu => (cell_blk (p := ad.add (j * (Kd.raw 4).sz + i)) (by rw [show (ad.add (j * (Kd.raw 4).sz + i)).block = ad.block by unfold Addr.add; split <;> rfl]; exact hb hn ad e)).trans (h3 i u hu)⟩
theorem info_cl : (Tryz.prog.info? 75).map (fun i => (i.zero, i.size, i.bytes)) = some (some (.agg #[.int .i64 0, .bool false, .bool false, .slice none 0 0]), 4, 48) := by kernel_rfl
theorem zC_len (n : Nat) : (zC n).length = n * 4 := by
  unfold zC
  rw [List.length_flatten, List.map_replicate, List.sum_replicate_nat]
  rfl
theorem made_zC (n : Nat) : madeCells #[.int .i64 0, .bool false, .bool false, .slice none 0 0] (n * 4) = (zC n).toArray := by
  apply Array.ext
  · rw [size_madeCells, List.size_toArray, zC_len]
  · intro i h1 h2
    rw [size_madeCells] at h1
    have hg := zC_get n (i / 4) (i % 4) (by omega) (by omega)
    rw [show i / 4 * 4 + i % 4 = i by omega] at hg
    have h5 : (zC n).toArray[i]'h2 = (zC n)[i]'(by rw [zC_len]; exact h1) := rfl
    rw [h5]
    have h3 : (zC n)[i]? = some ((zC n)[i]'(by rw [zC_len]; exact h1)) := List.getElem?_eq_getElem _
    rw [hg] at h3
    simp only [madeCells, Array.getElem_map, Array.getElem_range]
    have h4 : i % 4 < 4 := by omega
    have : ∀ j, j < 4 → z4c[j]? = some ((zC n)[i]'(by rw [zC_len]; exact h1)) → (#[Value.int .i64 0, .bool false, .bool false, .slice none 0 0] : Array Value)[j]! = (zC n)[i]'(by rw [zC_len]; exact h1) := by
      intro j hj he
      match j, hj with
      | 0, _ => simpa [z4c] using he
      | 1, _ => simpa [z4c] using he
      | 2, _ => simpa [z4c] using he
      | 3, _ => simpa [z4c] using he
    exact this (i % 4) h4 h3
theorem mk_cells (n : Nat) (hn : n ≤ 2000) (W : World) : (Instr.makeSlice 27 (.int .i64 n) (.int .i64 n)).run Tryz.prog W = .ok (.slice (some ⟨W.heap.size, 0, none⟩) n n) (W.alloc (.cells (zC n).toArray 75)) := by
  obtain ⟨i, hi, hzz⟩ := Option.map_eq_some_iff.1 info_cl
  simp only [Prod.mk.injEq] at hzz
  obtain ⟨hz, hs, hb⟩ := hzz
  have h := run_make (P := Tryz.prog) W 27 75 i _ Tryz.underlying27 hi hz .i64 .i64 n n (by omega) (by omega) (by rw [hb]; omega) (by omega)
  rw [hs, Int.toNat_natCast] at h
  rw [show (Value.agg #[Value.int .i64 0, .bool false, .bool false, .slice none 0 0]).cells = #[Value.int .i64 0, .bool false, .bool false, .slice none 0 0] from rfl, made_zC] at h
  exact h
theorem heapNew_walk (n keep : Nat) (w : World) (h1 : 1 ≤ n) (h2 : n ≤ 2000) (h3 : keep ≤ n) : Calls Tryz.prog 33 #[.int .i64 n, .int .i64 keep] w fun e w' => ∃ A, e = .returned (.tuple #[.agg #[.slice A n n, .int .i64 keep], .int .i64 0]) ∧ ZC w' A n ∧ Below w.heap.size w w' := by
  have q1 : decide ((n : Int) < 1) = false := decide_eq_false (by omega)
  have q2 : decide ((2000 : Int) < (n : Int)) = false := decide_eq_false (by omega)
  have q3 : decide ((keep : Int) < 0) = false := decide_eq_false (by omega)
  have q4 : decide ((n : Int) < (keep : Int)) = false := decide_eq_false (by omega)
  have q5 : decide (n < 1) = false := decide_eq_false (by omega)
  have q6 : decide (2000 < n) = false := decide_eq_false (by omega)
  have q7 : decide (n < keep) = false := decide_eq_false (by omega)
  obtain ⟨W1, hW1⟩ : ∃ W1, W1 = w.alloc (.cells #[.slice none 0 0, .int .i64 0] 29) := ⟨_, rfl⟩
  have HR1 := Aside0.mk (show W1.heap[w.heap.size]? = some (.cells #[.slice none 0 0, .int .i64 0] 29 (0, 0)) by rw [hW1]; exact blk_new w _)
  have HB1 := Aside0.mk (show Below w.heap.size w W1 by rw [hW1]; exact below_alloc (Below.refl _ _) _)
  have hmk := mk_cells n h2 W1
  have HZ := Aside0.mk (zC_C W1 n (by omega))
  have HW1 := Aside0.mk hW1
  have hr2 := blk_alloc HR1.out (.cells (zC n).toArray 75)
  have e0 := (blk_cell hr2 0).trans (show _ = some (Value.slice none 0 0) from rfl)
  have e1 := (blk_cell hr2 1).trans (show _ = some (Value.int .i64 0) from rfl)
  have f0 := blk_frozen hr2 0
  have f1 := blk_frozen hr2 1
  have HR2 := Aside0.mk hr2
  have HZS := Aside0.mk (blk_lt HR1.out)
  clear hW1 h1 h2 h3 hr2
  go_enter Tryz.func33, Tryz.ntmps33
  go_upto_region 1 with (fail)
  rw [← HW1.out]
  go_wp2
  refine bodyPost_ret (results_ct rfl _ _ w.heap.size 29 #[.slice (some ⟨W1.heap.size, 0, none⟩) n n, .int .i64 keep] (0, 0) _ rfl (blk_put (blk_put HR2.out 0 _ rfl) 1 _ rfl) Tryz.underlying29 rfl (by kernel_rfl)) rfl ?_
  refine ⟨_, rfl, ?_, below_set (below_set (below_alloc HB1.out _) (Nat.le_refl _)) (Nat.le_refl _)⟩
  have hne : w.heap.size ≠ W1.heap.size := by have := HZS.out; omega
  exact C_blkZ HZ.out (fun _ ad e => by cases e; exact (Below.heap_setCell _ _ _ _ (show W1.heap.size ≠ w.heap.size from hne.symm)).trans (Below.heap_setCell _ _ _ _ (show W1.heap.size ≠ w.heap.size from hne.symm)))
set_option maxHeartbeats 8000000 in
set_option maxRecDepth 100000 in
theorem heapNo_walk (n keep : Int) (w : World) (h : n < 1 ∨ 2000 < n ∨ keep < 0 ∨ n < keep) : Calls Tryz.prog 33 #[.int .i64 n, .int .i64 keep] w fun e w' => e = .returned (.tuple #[.agg #[.slice none 0 0, .int .i64 0], .int .i64 1]) ∧ Below w.heap.size w w' := by
  have HR0 := Aside0.mk (blk_new w (.cells #[.slice none 0 0, .int .i64 0] 29))
  have H := Aside0.mk h
  clear h
  obtain ⟨b1, h1⟩ : ∃ b, decide (n < 1) = b := ⟨_, rfl⟩
  obtain ⟨b2, h2⟩ : ∃ b, decide (2000 < n) = b := ⟨_, rfl⟩
  obtain ⟨b3, h3⟩ : ∃ b, decide (keep < 0) = b := ⟨_, rfl⟩
  obtain ⟨b4, h4⟩ : ∃ b, decide (n < keep) = b := ⟨_, rfl⟩
  have HA := Aside0.mk (show b1 = true ∨ b2 = true ∨ b3 = true ∨ b4 = true by
    rcases H.out with h | h | h | h
    · exact .inl (h1 ▸ decide_eq_true h)
    · exact .inr (.inl (h2 ▸ decide_eq_true h))
    · exact .inr (.inr (.inl (h3 ▸ decide_eq_true h)))
    · exact .inr (.inr (.inr (h4 ▸ decide_eq_true h))))
  have hcase : ∀ b1 b2 b3 b4 : Bool, decide (n < 1) = b1 → decide (2000 < n) = b2 → decide (keep < 0) = b3 → decide (n < keep) = b4 → (b1 = true ∨ b2 = true ∨ b3 = true ∨ b4 = true) → Calls Tryz.prog 33 #[.int .i64 n, .int .i64 keep] w fun e w' => e = .returned (.tuple #[.agg #[.slice none 0 0, .int .i64 0], .int .i64 1]) ∧ Below w.heap.size w w' := by
    clear h1 h2 h3 h4 HA H
    intro b1 b2 b3 b4 h1 h2 h3 h4 hor
    cases b1 <;> cases b2 <;> cases b3 <;> cases b4 <;> first
      | (exfalso; simp at hor; done)
      | (clear hor
         go_enter Tryz.func33, Tryz.ntmps33
         go_wp2
         refine bodyPost_ret (results_ct rfl _ _ w.heap.size 29 #[.slice none 0 0, .int .i64 0] (0, 0) _ rfl (by first | exact blk_put (blk_put HR0.out 0 _ rfl) 1 _ rfl | exact blk_new w _) Tryz.underlying29 rfl (by kernel_rfl)) rfl ?_
         exact ⟨rfl, by first | exact below_set (below_set (below_alloc (Below.refl _ _) _) (Nat.le_refl _)) (Nat.le_refl _) | exact below_alloc (Below.refl _ _) _⟩)
  exact hcase b1 b2 b3 b4 h1 h2 h3 h4 HA.out
end Go.Proofs.YtodejilhgpejnaaGreat.Q
namespace Go.Proofs.YtodejilhgpejnaaGreat.Q
open Go.RowKit Go.Proofs.YtodejilhgpejnaaGreatW.PrintWords Go.Proofs.YtodejilhgpejnaaGreatW.PrintLast Go.Proofs.YtodejilhgpejnaaGreatW.PrintMore
attribute [local go_sem] max2_int min2_int max_two min_two max_three min_three max_four min_four
set_option linter.unusedVariables false
set_option linter.unusedSimpArgs false
theorem run_copy_rows {P : Program} (w : World) (dT sT ty elem : TypeId) (sz g o dLen dCap : Nat) (a : Addr) (sLen sCap : Nat) (cur : Array Value) (t : TypeId) (cs : List Value)
    (hu : P.underlying dT = some (.slice elem)) (hs : (P.info? elem).map (·.size) = some sz)
    (hg : w.heap[g]? = some (.cells cur t (0, 0))) (hn : cs.length = Nat.min sLen dLen * sz)
    (hsrc : ∀ j v, cs[j]? = some v → w.cell? (a.add j) = some v) (hfit : o + cs.length ≤ cur.size) (h1 : ∀ v ∈ cs, v.oneCell' = true) :
    (Builtin.copy_ #[dT, sT] ty #[.slice (some ⟨g, o, none⟩) dLen dCap, .slice (some a) sLen sCap]).run P w =
      .ok (goInt (Nat.min sLen dLen)) (w.setRow g (cur.toList.take o ++ cs ++ cur.toList.drop (o + cs.length)).toArray) := by
  have hl := run_loadCells_list (P := P) w a cs hsrc
  have hst := run_storeCells_at P g o t cs 0 cur w hg (by simpa using hfit) h1
  cases hq : P.info? elem with
  | none => simp [hq] at hs
  | some i =>
    have hi : i.size = sz := by simpa [hq] using hs
    simp [Builtin.copy_, run_underlying hu, Builtin.lenOf, Builtin.firstCells, sizeOf, typeInfo, hq, hi, ← hn, hl, hst]
theorem copy_cells {P : Program} {ops : Array Oper} {rest : List Oper} {o : Oper} {a : Act} {W : World} {Q : Exit → Act → World → Prop} (hgd : o.guard = none) (s x : Operand) (t t' e : TypeId)
    (ho : o.op = .call { callee := .builtin .copy, args := #[s, x], argTypes := #[t, t'] }) (ht : P.underlying t = some (.slice e)) (sz : Nat) (hinfo : (P.info? e).map (·.size) = some sz)
    (g n cap : Nat) (ad : Addr) (c : Nat) (cur : Array Value) (cs : List Value) (hs : a.eval s = .slice (some ⟨g, 0, none⟩) n cap) (hx : a.eval x = .slice (some ad) n c)
    (hg : W.heap[g]? = some (.cells cur e (0, 0))) (hn : cs.length = n * sz) (hc : cur.size = n * sz) (hsrc : ∀ j v, cs[j]? = some v → W.cell? (ad.add j) = some v) (h1 : ∀ v ∈ cs, v.oneCell' = true)
    (h : ∀ w1, w1.heap[g]? = some (.cells cs.toArray e (0, 0)) → (∀ B, B ≤ g → ∀ w0, Below B w0 W → Below B w0 w1) → wpList P ops Q rest (a.put o.dst (goInt n)) w1) :
    wpList P ops Q (o :: rest) a W := by
  have hrun := run_copy_rows (P := P) W t t' o.type e sz g 0 n cap ad n c cur e cs ht hinfo hg (by rw [hn, show Nat.min n n = n from Nat.min_self _]) hsrc (by omega) h1
  rw [show Nat.min n n = n from Nat.min_self _] at hrun
  have e2 : (cur.toList.take 0 ++ cs ++ cur.toList.drop (0 + cs.length)).toArray = cs.toArray := by
    rw [List.take_zero, List.nil_append, List.drop_of_length_le (by rw [Array.length_toList, hc, hn]; omega), List.append_nil]
  rw [e2] at hrun
  refine wpList_plain hgd fun K hK => ?_
  unfold Oper.wp execOp
  simp only [ho, resolve, invoke, builtin, Sem.run_bind, Sem.run_pure, Result.andThen_ok, List.map_toArray, List.map_cons, List.map_nil, hs, hx, hrun]
  exact hK _ _ (h _ (setRow_heap _ _ cur _ e (0, 0) hg) (fun B hB w0 hb => below_setRow hb hB _))
theorem info_cl_sz : (Tryz.prog.info? 75).map (·.size) = some 4 := by kernel_rfl
theorem zC_src {W : World} {A : Option Addr} {n : Nat} (h : ZC W A n) (h0 : 0 < n) : ∃ ad, A = some ad ∧ ∀ j v, (zC n)[j]? = some v → W.cell? (ad.add j) = some v := by
  obtain ⟨ad, e, hc⟩ := h.2.2 h0
  refine ⟨ad, e, fun j v hj => ?_⟩
  have hjl : j < n * 4 := by rw [← zC_len]; exact (List.getElem?_eq_some_iff.1 hj).1
  have hg := zC_get n (j / 4) (j % 4) (by omega) (by omega)
  rw [show j / 4 * 4 + j % 4 = j by omega, hj] at hg
  obtain ⟨c, h1, h2, h3⟩ := hc (j / 4) z4c (by rw [List.getElem?_replicate, if_pos (by omega)])
  have hk : c = z4c := h2.1 ▸ rfl
  have := h3 (j % 4) v (by rw [hk]; exact hg.symm)
  rw [show (Kd.raw 4).sz = 4 from rfl, show j / 4 * 4 + j % 4 = j by omega] at this
  exact this
theorem zC_one (n : Nat) : ∀ v ∈ zC n, v.oneCell' = true := by
  intro v hv
  unfold zC at hv
  obtain ⟨r, hr, hv⟩ := List.mem_flatten.1 hv
  rw [(List.mem_replicate.1 hr).2] at hv
  simp only [z4c, List.mem_cons, List.not_mem_nil, or_false] at hv
  rcases hv with rfl | rfl | rfl | rfl <;> rfl
set_option maxHeartbeats 4000000 in
set_option maxRecDepth 100000 in
theorem own_walk (A : Option Addr) (n c keep : Nat) (w : World) (hz : ZC w A n) (h0 : 0 < n) (hl : n ≤ 2000) :
    Calls Tryz.prog 50 #[.agg #[.slice A n c, .int .i64 keep]] w fun e w' => ∃ b g, e = .returned (.pointer (some ⟨b, 0, none⟩)) ∧ w'.heap[b]? = some (.cells #[.slice (some ⟨g, 0, none⟩) n n, .int .i64 keep] 113 (0, 0)) ∧ w'.heap[g]? = some (.cells (zC n).toArray 75 (0, 0)) ∧ Below w.heap.size w w' ∧ w.heap.size ≤ b ∧ w.heap.size ≤ g ∧ b ≠ g := by
  obtain ⟨W1, hW1⟩ : ∃ W1, W1 = w.alloc (.cells #[.slice A n c, .int .i64 keep] 29) := ⟨_, rfl⟩
  have HB0 := Aside0.mk (show Below w.heap.size w W1 by rw [hW1]; exact below_alloc (Below.refl _ _) _)
  have HBH := Aside0.mk (show W1.heap[w.heap.size]? = some (.cells #[.slice A n c, .int .i64 keep] 29 (0, 0)) by rw [hW1]; exact blk_new w _)
  have hmk := mk_cells n hl W1
  obtain ⟨ad, rfl, hsrc⟩ := zC_src hz h0
  have HSRC := Aside0.mk (show ∀ j v, (zC n)[j]? = some v → (W1.alloc (.cells (zC n).toArray 75)).cell? (ad.add j) = some v from fun j v hj => by
    have hb : Below w.heap.size w (W1.alloc (.cells (zC n).toArray 75)) := below_alloc HB0.out _
    exact (hb.cell (World.block_lt_of_cell? w _ (hsrc j v hj))).trans (hsrc j v hj))
  have c0 := (blk_cell HBH.out 0).trans (show _ = some (Value.slice (some ad) n c) from rfl)
  have c1 := (blk_cell HBH.out 1).trans (show _ = some (Value.int .i64 keep) from rfl)
  have d0 := (blk_cell (blk_alloc HBH.out (.cells (zC n).toArray 75)) 0).trans (show _ = some (Value.slice (some ad) n c) from rfl)
  have hW1' := Aside0.mk hW1
  have HLT := Aside0.mk (blk_lt HBH.out)
  clear hW1 hz h0 hl hsrc
  go_enter Tryz.func50, Tryz.ntmps50
  go_upto_region 1 with (fail)
  rw [← hW1'.out]
  go_wp2_with (first | ((with_reducible refine gate_dst (N := 11) rfl ?_); refine copy_cells rfl (.tmp 8) (.tmp 10) 27 27 75 rfl Tryz.underlying27 4 info_cl_sz W1.heap.size n n ad c (zC n).toArray (zC n) rfl rfl (blk_new _ _) (zC_len n) (by rw [List.size_toArray, zC_len]) HSRC.out (zC_one n) ?_; intro w7 hg7 hb7; have HG7 := Aside0.mk hg7; have HB7 := Aside0.mk (hb7 w.heap.size HB0.out.size w (below_alloc HB0.out _)); have HBH7 := Aside0.mk ((hb7 W1.heap.size (Nat.le_refl _) W1 (below_alloc (Below.refl _ _) _))); have e1 := (bcell HBH7.out c1); clear hg7 hb7) | fail)
  go_ret
  exact ⟨w7.heap.size, W1.heap.size, rfl, blk_new _ _, blk_alloc HG7.out _, below_alloc HB7.out _, HB7.out.size, HB0.out.size, by have := HBH7.out.size; have h := (Array.getElem?_eq_some_iff.1 HG7.out).1; omega⟩
end Go.Proofs.YtodejilhgpejnaaGreat.Q
namespace Go.Proofs.YtodejilhgpejnaaGreat.Q
open Go.RowKit Go.Proofs.YtodejilhgpejnaaGreatW.PrintWords Go.Proofs.YtodejilhgpejnaaGreatW.PrintLast Go.Proofs.YtodejilhgpejnaaGreatW.PrintMore
attribute [local go_sem] max2_int min2_int max_two min_two max_three min_three max_four min_four
set_option linter.unusedVariables false
set_option linter.unusedSimpArgs false
theorem zC_at {n k : Nat} (hk : k < n) (i : Nat) (v : Value) (hi : i < 4) (hv : z4c[i]? = some v) : (zC n).toArray[k * 4 + i]? = some v := by
  have := zC_get n k i hk hi
  rw [hv] at this
  simpa using this
theorem zC_set {n k : Nat} (hk : k < n) : (zC n).toArray.setIfInBounds (k * 4 + 1) (.bool false) = (zC n).toArray := by
  apply Array.ext_getElem?
  intro i
  rw [Array.getElem?_setIfInBounds]
  split
  · rename_i h
    subst h
    have := zC_at hk 1 (.bool false) (by decide) rfl
    rw [this, if_pos (by rw [List.size_toArray, zC_len]; omega)]
  · rfl
theorem ZC_blk {W : World} {g n : Nat} (h : W.heap[g]? = some (.cells (zC n).toArray 75 (0, 0))) (hn : n ≤ 2000) : ZC W (some ⟨g, 0, none⟩) n := by
  refine ⟨by simp, by omega, fun hn0 => ⟨⟨g, 0, none⟩, rfl, fun j p hj => ?_⟩⟩
  have hjn : j < n := by have := (List.getElem?_eq_some_iff.1 hj).1; simpa using this
  have hp : p = z4c := by have := List.mem_of_getElem? hj; exact (List.mem_replicate.1 this).2
  subst hp
  refine ⟨z4c, rfl, ⟨rfl, by decide⟩, fun i u hu => ?_⟩
  have hi : i < 4 := (List.getElem?_eq_some_iff.1 hu).1
  rw [show (Addr.add ⟨g, 0, none⟩ (j * (Kd.raw 4).sz + i)) = ⟨g, j * 4 + i, none⟩ by rw [show (Kd.raw 4).sz = 4 from rfl]; simp [Addr.add]; omega, blk_cell h]
  exact zC_at hjn i u hi hu
set_option maxHeartbeats 4000000 in
set_option maxRecDepth 100000 in
theorem settle_walk (A : Option Addr) (n c keep : Nat) (w : World) (hz : ZC w A n) (h0 : 0 < n) (hl : n ≤ 2000) :
    Calls Tryz.prog 29 #[.agg #[.slice A n c, .int .i64 keep]] w fun e w' => ∃ B, e = .returned (.agg #[.slice B n n, .int .i64 keep]) ∧ ZC w' B n ∧ Below w.heap.size w w' := by
  obtain ⟨W1, hW1⟩ : ∃ W1, W1 = (w.alloc (.cells #[.slice A n c, .int .i64 keep] 29)).alloc (.cells #[.slice none 0 0, .int .i64 0] 29) := ⟨_, rfl⟩
  have HB0 := Aside0.mk (show Below w.heap.size w W1 by rw [hW1]; exact below_alloc (below_alloc (Below.refl _ _) _) _)
  have HBH := Aside0.mk (show W1.heap[w.heap.size]? = some (.cells #[.slice A n c, .int .i64 keep] 29 (0, 0)) by rw [hW1]; exact blk_alloc (blk_new w _) _)
  have HRES := Aside0.mk (show W1.heap[w.heap.size + 1]? = some (.cells #[.slice none 0 0, .int .i64 0] 29 (0, 0)) by rw [hW1]; exact blk2 w _ _)
  have HOWN := Aside0.mk (own_walk A n c keep W1 (ZC_below hz HB0.out) h0 hl)
  have HN := Aside0.mk (And.intro h0 hl)
  have c0 := (blk_cell HBH.out 0).trans (show _ = some (Value.slice A n c) from rfl)
  have c1 := (blk_cell HBH.out 1).trans (show _ = some (Value.int .i64 keep) from rfl)
  have hW1' := Aside0.mk hW1
  clear hW1 hz h0 hl
  go_enter Tryz.func29, Tryz.ntmps29
  go_upto_region 1 with (fail)
  rw [← hW1'.out]
  go_upto_region 2 with (first | (go_at_call 50; (with_reducible refine HOWN.out.mono ?_); rintro e w2 ⟨b, gg, rfl, hb, hg, hbe, hbl, hgl, hne⟩; have HBX := Aside0.mk hb; have HG := Aside0.mk hg; have HB2 := Aside0.mk hbe; have HLE := Aside0.mk (And.intro hbl (And.intro hgl hne)); clear hb hg hbe hbl hgl hne) | fail)
  have HRES2 := Aside0.mk (blk_below HRES.out HB2.out)
  have b0 := (blk_cell HBX.out 0).trans (show _ = some (Value.slice (some ⟨gg, 0, none⟩) n n) from rfl)
  clear c0 c1
  go_wp2
  have HS := Aside0.mk (blk_lt HRES.out)
  go_loopg [4, 13] n (fun g s4 s13 wr => ∃ k : Nat, s13 = .int .i64 k ∧ k + g = n ∧ Aside0 (wr.heap[b]? = some (.cells #[.slice (some ⟨gg, 0, none⟩) n n, .int .i64 keep] 113 (0, 0))) ∧ Aside0 (wr.heap[gg]? = some (.cells (zC n).toArray 75 (0, 0))) ∧ Aside0 (wr.heap[w.heap.size + 1]? = some (.cells #[.slice none 0 0, .int .i64 0] 29 (0, 0))) ∧ Aside0 (Below w.heap.size w wr))
  case atStart => exact ⟨0, rfl, by omega, HBX, HG, HRES2, ⟨below_step HB0.out HB2.out⟩⟩
  case round =>
    clear b0 HBX HG HRES2
    obtain ⟨k, rfl, hk, HBX, HG, HRES2, HB⟩ := hrel
    have b0 := (blk_cell HBX.out 0).trans (show _ = some (Value.slice (some ⟨gg, 0, none⟩) n n) from rfl)
    have b1 := (blk_cell HBX.out 1).trans (show _ = some (Value.int .i64 keep) from rfl)
    by_cases hlt : k < n
    · have r1 : decide (k < n) = true := decide_eq_true hlt
      have r2 : (k < n) = True := eq_true hlt
      have r3 : decide ((k : Int) < (n : Int)) = true := decide_eq_true (by omega)
      obtain ⟨g1, rfl⟩ : ∃ g1, gk = g1 + 1 := ⟨gk - 1, by omega⟩
      have x1 : wr.cell? ⟨gg, k * 4 + 1, none⟩ = some (.bool false) := (blk_cell HG.out (k * 4 + 1)).trans (zC_at hlt 1 _ (by decide) rfl)
      have f1 := blk_frozen HG.out (k * 4 + 1)
      have HSET := Aside0.mk (zC_set hlt)
      have HW := Aside0.mk (show wrap64 ((k : Int) + 1) = ((k + 1 : Nat) : Int) by have := HN.out; unfold wrap64; omega)
      have HK := Aside0.mk hk
      clear hk hlt
      go_wp2
      go_roundg g1
      case measure => omega
      case rel => exact ⟨k + 1, by rw [HW.out], by have := HK.out; omega, ⟨blk_far HBX.out HLE.out.2.2 _⟩, ⟨blk_put HG.out (k * 4 + 1) _ HSET.out⟩, ⟨blk_far HRES2.out (by have := HLE.out; have := HS.out; show w.heap.size + 1 ≠ gg; omega) _⟩, ⟨below_set HB.out (by have := HLE.out; have := HB0.out.size; show w.heap.size ≤ gg; omega)⟩⟩
    · have r1 : decide (k < n) = false := decide_eq_false hlt
      have r3 : decide ((k : Int) < (n : Int)) = false := decide_eq_false (by omega)
      have f0 := blk_frozen HRES2.out 0
      have f1 := blk_frozen HRES2.out 1
      have e0 := (blk_cell HRES2.out 0).trans (show _ = some (Value.slice none 0 0) from rfl)
      have e1 := (blk_cell HRES2.out 1).trans (show _ = some (Value.int .i64 0) from rfl)
      clear hk hlt
      go_wp2
      refine bodyPost_ret (results_c1 rfl _ _ (w.heap.size + 1) 29 #[.slice (some ⟨gg, 0, none⟩) n n, .int .i64 keep] (0, 0) _ rfl (blk_put (blk_put HRES2.out 0 _ rfl) 1 _ rfl) Tryz.underlying29 rfl (by kernel_rfl)) rfl ?_
      have hne : gg ≠ w.heap.size + 1 := by have := HLE.out; have := HS.out; omega
      exact ⟨some ⟨gg, 0, none⟩, rfl, ZC_blk (blk_far (blk_far HG.out hne _) hne _) HN.out.2, below_set (below_set HB.out (by omega)) (by omega)⟩
end Go.Proofs.YtodejilhgpejnaaGreat.Q
namespace Go.Proofs.YtodejilhgpejnaaGreat.Q
open Go.RowKit Go.Proofs.YtodejilhgpejnaaGreatW.PrintWords Go.Proofs.YtodejilhgpejnaaGreatW.PrintLast Go.Proofs.YtodejilhgpejnaaGreatW.PrintMore
attribute [local go_sem] max2_int min2_int max_two min_two max_three min_three max_four min_four
set_option linter.unusedVariables false
set_option linter.unusedSimpArgs false
/-- The steps. -/
def plan4 (a : Nat) (S : ByteArray) (q : Nat) (T : ByteArray) : List Value := [.int .i64 a, .string S, .int .i64 (-1), .string ⟨#[]⟩, .int .i64 q, .string T, .int .i64 (-1), .string ⟨#[]⟩]
theorem string_ne {S : ByteArray} (h : S.size = 40) : (S.toList == ([] : List UInt8)) = false := by
  rw [beq_eq_false_iff_ne]
  intro e
  rw [ByteArray.toList_eq] at e
  have : S.data.size = 0 := by rw [← Array.length_toList, e]; rfl
  have h2 : S.size = S.data.size := rfl
  omega
abbrev PutC (N : Nat) (a : Nat) (S : ByteArray) : Prop := ∀ (A : Option Addr) (c : Nat) (W : World), Calls Tryz.prog 49 #[.agg #[.slice A N c, .slice none 0 0], .int .i64 a, .string S] W fun e w' => ∃ B d, e = .returned (.tuple #[.agg #[.slice A N c, .slice B 1 d], .int .i64 0]) ∧ 1 ≤ d ∧ Kd.C kW w' B 1 [⟨a, S⟩] ∧ Below W.heap.size W w'
theorem putC {N a : Nat} {S : ByteArray} (ha : a < N) (hS : S.size = 40) : PutC N a S := by
  intro A c W
  have h := put_walk A c (List.replicate N ByteArray.empty) none 0 [] ⟨a, S⟩ W (Kd.C_nil _ _) (Nat.le_refl _) (by simp) (by
    unfold fitsB
    rw [List.length_replicate, decide_eq_true (show (0 : Int) ≤ (a : Int) by omega), decide_eq_true (show (a : Int) < (N : Int) by omega), decide_eq_true hS]
    rfl)
  rw [List.length_replicate] at h
  exact h
abbrev FlushC (N : Nat) (a : Nat) (S : ByteArray) : Prop := ∀ (A : Option Addr) (c : Nat) (l : List ByteArray) (B : Option Addr) (d : Nat) (W : World), l.length = N → Kd.C Kd.string W A N l → N ≤ c → Kd.C kW W B 1 [⟨a, S⟩] → 1 ≤ d → Calls Tryz.prog 48 #[.agg #[.slice A N c, .slice B 1 d]] W fun e w' => ∃ D m, e = .returned (.agg #[.slice D N m, .slice none 0 0]) ∧ N ≤ m ∧ Kd.C Kd.string w' D N (l.set a S) ∧ Below W.heap.size W w'
theorem flushC {N a : Nat} {S : ByteArray} (ha : a < N) (hS : S.size = 40) (hN : N ≤ 1000000) : FlushC N a S := by
  intro A c l B d W hl hr hc hw hd
  subst hl
  have h := flush_walk A c l B d [⟨a, S⟩] W hr hc hw hd (by omega) hN (by
    intro x hx
    rw [List.mem_singleton.1 hx]
    unfold fitsB
    rw [decide_eq_true (show (0 : Int) ≤ (a : Int) by omega), decide_eq_true (show (a : Int) < (l.length : Int) by omega), decide_eq_true hS]
    rfl)
  have e : layF l [⟨a, S⟩] = l.set a S := by simp [layF]
  rw [e, List.length_set] at h
  exact h
structure DoSt (w W : World) (A : Option Addr) (N c : Nat) (B : Option Addr) (m d : Nat) (g a : Nat) (S : ByteArray) (q : Nat) (T : ByteArray) : Prop where
  b0 : Below w.heap.size w W
  hd : W.heap[w.heap.size]? = some (.cells #[.slice A N c, .slice B m d] 26 (0, 0))
  hr : W.heap[w.heap.size + 1]? = some (.cells #[.slice none 0 0, .slice none 0 0] 26 (0, 0))
  row : ∀ j u, (plan4 a S q T)[j]? = some u → W.cell? ⟨g, j, none⟩ = some u
theorem DoSt.step {w W W' : World} {A : Option Addr} {N c : Nat} {B : Option Addr} {m d : Nat} {g a : Nat} {S : ByteArray} {q : Nat} {T : ByteArray} (s : DoSt w W A N c B m d g a S q T) (hb : Below W.heap.size W W') : DoSt w W' A N c B m d g a S q T :=
  ⟨below_step s.b0 hb, blk_below s.hd hb, blk_below s.hr hb, fun j u h => bcell hb (s.row j u h)⟩
theorem DoSt.put {w W : World} {A A' : Option Addr} {N c c' : Nat} {B B' : Option Addr} {m d m' d' : Nat} {g a : Nat} {S : ByteArray} {q : Nat} {T : ByteArray} (s : DoSt w W A N c B m d g a S q T) (hg : g < w.heap.size) :
    DoSt w ((W.setCell ⟨w.heap.size, 0, none⟩ (.slice A' N c')).setCell ⟨w.heap.size, 1, none⟩ (.slice B' m' d')) A' N c' B' m' d' g a S q T := by
  refine ⟨below_set (below_set s.b0 (Nat.le_refl _)) (Nat.le_refl _), blk_put (blk_put s.hd 0 _ rfl) 1 _ rfl, blk_far (blk_far s.hr (by show w.heap.size + 1 ≠ w.heap.size; omega) _) (by show w.heap.size + 1 ≠ w.heap.size; omega) _, fun j u h => ?_⟩
  have hne : g ≠ w.heap.size := by omega
  exact (cell_far (p := ⟨w.heap.size, 1, none⟩) hne _).trans ((cell_far (p := ⟨w.heap.size, 0, none⟩) hne _).trans (s.row j u h))
/-- A block of two slices. -/
def Db (w : World) (g : Nat) : Prop := ∃ X a b Y c d t, w.heap[g]? = some (.cells #[.slice X a b, .slice Y c d] t (0, 0))
theorem Db_cell {w : World} {g : Nat} (h : Db w g) (ad : Addr) (v : Value) (e : ad.block = g) (e0 : w.cell? ad = some v) (hv : ∀ X a b, v ≠ .slice X a b) : False := by
  obtain ⟨X, a, b, Y, c, d, t, hb⟩ := h
  obtain ⟨bl, off, inn⟩ := ad
  cases e
  have hb' : w.heap[bl]? = some (Obj.cells #[Value.slice X a b, Value.slice Y c d] t) := hb
  unfold World.cell? at e0
  simp only [hb'] at e0
  cases inn with
  | none =>
    match off with
    | 0 => simp at e0; exact hv _ _ _ e0.symm
    | 1 => simp at e0; exact hv _ _ _ e0.symm
    | n + 2 => simp at e0
  | some j => simp at e0
theorem str_set {w : World} {g n : Nat} {A : Option Addr} {l : List ByteArray} (h : Kd.C Kd.string w A n l) (hb : Db w g) (j : Nat) (u : Value) : Kd.C Kd.string (w.setCell ⟨g, j, none⟩ u) A n l :=
  C_blkS h (fun hn ad e => Below.heap_setCell _ _ _ _ (fun he => by
    obtain ⟨ad', e', hx⟩ := Kd.at_string h (0 : Int) (by omega) (by omega)
    cases e.symm.trans e'
    have e0 : ad.add (Int.toNat 0) = ad := by simp [Addr.add]
    rw [e0] at hx
    exact Db_cell hb ad _ he hx (fun _ _ _ h => by cases h)))
theorem wr_set {w : World} {g n : Nat} {A : Option Addr} {l : List Wr} (h : Kd.C kW w A n l) (hb : Db w g) (j : Nat) (u : Value) : Kd.C kW (w.setCell ⟨g, j, none⟩ u) A n l :=
  C_blkW h (fun hn ad e => Below.heap_setCell _ _ _ _ (fun he => by
    obtain ⟨ad', e', hx, _⟩ := at_W h (0 : Int) (by omega) (by omega)
    cases e.symm.trans e'
    have e0 : ad.add (Int.toNat 0 * 2) = ad := by simp [Addr.add]
    rw [e0] at hx
    exact Db_cell hb ad _ he hx (fun _ _ _ h => by cases h)))
theorem Db_of {w : World} {g : Nat} {X Y : Option Addr} {a b c d : Nat} {t : TypeId} (h : w.heap[g]? = some (.cells #[.slice X a b, .slice Y c d] t (0, 0))) : Db w g := ⟨X, a, b, Y, c, d, t, h⟩
theorem str_store {w : World} {g n m k m' k' : Nat} {A X Y B D : Option Addr} {a b c d : Nat} {t : TypeId} {l : List ByteArray} (hr : Kd.C Kd.string w A n l) (h : w.heap[g]? = some (.cells #[.slice X a b, .slice Y c d] t (0, 0))) :
    Kd.C Kd.string ((w.setCell ⟨g, 0, none⟩ (.slice B m k)).setCell ⟨g, 1, none⟩ (.slice D m' k')) A n l := str_set (str_set hr (Db_of h) 0 _) (Db_of (blk_put h 0 _ rfl)) 1 _
theorem wr_store {w : World} {g n m k m' k' : Nat} {A X Y B D : Option Addr} {a b c d : Nat} {t : TypeId} {l : List Wr} (hr : Kd.C kW w A n l) (h : w.heap[g]? = some (.cells #[.slice X a b, .slice Y c d] t (0, 0))) :
    Kd.C kW ((w.setCell ⟨g, 0, none⟩ (.slice B m k)).setCell ⟨g, 1, none⟩ (.slice D m' k')) A n l := wr_set (wr_set hr (Db_of h) 0 _) (Db_of (blk_put h 0 _ rfl)) 1 _
theorem DoSt.c0 {w W : World} {A : Option Addr} {N c : Nat} {B : Option Addr} {m d : Nat} {g a : Nat} {S : ByteArray} {q : Nat} {T : ByteArray} (s : DoSt w W A N c B m d g a S q T) : W.cell? ⟨w.heap.size, 0, none⟩ = some (.slice A N c) := (blk_cell s.hd 0).trans rfl
theorem DoSt.c1 {w W : World} {A : Option Addr} {N c : Nat} {B : Option Addr} {m d : Nat} {g a : Nat} {S : ByteArray} {q : Nat} {T : ByteArray} (s : DoSt w W A N c B m d g a S q T) : W.cell? ⟨w.heap.size, 1, none⟩ = some (.slice B m d) := (blk_cell s.hd 1).trans rfl
set_option maxHeartbeats 8000000 in
set_option maxRecDepth 100000 in
/-- disk.Do of four steps, all of them. -/
theorem do4_walk (A : Option Addr) (N c : Nat) (l : List ByteArray) (g cb a : Nat) (S : ByteArray) (q : Nat) (T : ByteArray) (w : World) (hN : l.length = N) (hr : Kd.C Kd.string w A N l) (hc : N ≤ c) (hbig : N ≤ 1000000) (ha : a < N) (hq : q < N) (hS : S.size = 40) (hT : T.size = 40) (hg : g < w.heap.size) (hrow : ∀ j u, (plan4 a S q T)[j]? = some u → w.cell? ⟨g, j, none⟩ = some u) :
    Calls Tryz.prog 27 #[.agg #[.slice A N c, .slice none 0 0], .slice (some ⟨g, 0, none⟩) 4 cb, .int .i64 (-1)] w fun e w' => ∃ D m, e = .returned (.tuple #[.agg #[.slice D N m, .slice none 0 0], .int .i64 4]) ∧ N ≤ m ∧ Kd.C Kd.string w' D N ((l.set a S).set q T) ∧ Below w.heap.size w w' := by
  obtain ⟨W1, hW1⟩ : ∃ W1, W1 = (w.alloc (.cells #[.slice A N c, .slice none 0 0] 26)).alloc (.cells #[.slice none 0 0, .slice none 0 0] 26) := ⟨_, rfl⟩
  have S1 := Aside0.mk (show DoSt w W1 A N c none 0 0 g a S q T by
    have hb : Below w.heap.size w W1 := by rw [hW1]; exact below_alloc (below_alloc (Below.refl _ _) _) _
    exact ⟨hb, by rw [hW1]; exact blk_alloc (blk_new w _) _, by rw [hW1]; exact blk2 w _ _, fun j u h => bcell hb (hrow j u h)⟩)
  have HR1 := Aside0.mk (And.intro hc (Kd.C_below hr S1.out.b0))
  have HP1 := Aside0.mk (putC ha hS)
  have HP2 := Aside0.mk (putC hq hT)
  have HF1 := Aside0.mk (flushC ha hS hbig)
  have HF2 := Aside0.mk (flushC hq hT hbig)
  have HL1 := Aside0.mk hN
  have HL2 := Aside0.mk (show (l.set a S).length = N by rw [List.length_set]; exact hN)
  have HG := Aside0.mk hg
  have n1 : ((a : Int) == -1) = false := beq_eq_false_iff_ne.mpr (by omega)
  have n2 : ((q : Int) == -1) = false := beq_eq_false_iff_ne.mpr (by omega)
  have n3 := string_ne hS
  have n4 := string_ne hT
  have hW1' := Aside0.mk hW1
  clear hW1 hN hr hc hbig ha hq hS hT hg hrow
  go_enter Tryz.func27, Tryz.ntmps27
  go_upto_region 1 with (fail)
  rw [← hW1'.out]
  go_wp2
  refine wp_loop_rounds 5 ?_
  rw [rounds_succ]
  have HR := HR1
  (have xi := S1.out.row 0 _ rfl; have xj := S1.out.row 1 _ rfl; go_upto_region 4 with fail; (obtain ⟨Wa, hWa⟩ : ∃ W, W = World.alloc W1 (.cells #[.int .i64 a, .string S] 58) := ⟨_, rfl⟩; have YWa := Aside0.mk (show Wa.heap[W1.heap.size]? = some (.cells #[.int .i64 a, .string S] 58 (0, 0)) by rw [hWa]; exact blk_new _ _); have HWa := Aside0.mk (show Below W1.heap.size W1 Wa by rw [hWa]; exact below_alloc (Below.refl _ _) _); rw [← hWa]; clear hWa xi xj; have y0 := (blk_cell YWa.out 0).trans (show _ = some (Value.int .i64 a) from rfl); have y1 := (blk_cell YWa.out 1).trans (show _ = some (Value.string S) from rfl)); have Sa := Aside0.mk (S1.out.step HWa.out); have d0 := Sa.out.c0; have d1 := Sa.out.c1; go_upto_region 9 with (first | (go_at_call 49; (with_reducible refine (HP1.out _ _ _).mono ?_); rintro e w2 ⟨B2, m2, rfl, hm2, hw2, hb2⟩; have HW2 := Aside0.mk (And.intro hm2 hw2); have HB2 := Aside0.mk hb2; clear hm2 hw2 hb2) | fail); clear d0 d1 y0 y1; have HRa := Aside0.mk (And.intro HR.out.1 (Kd.C_below HR.out.2 HWa.out)))
  (obtain ⟨Wb, hWb⟩ : ∃ W, W = w2.alloc (.cells #[.slice A N c, .slice B2 1 m2] 26) := ⟨_, rfl⟩; have Sb := Aside0.mk (show DoSt w Wb A N c none 0 0 g a S q T by rw [hWb]; exact (Sa.out.step HB2.out).step (below_alloc (Below.refl _ _) _)); have HWb := Aside0.mk (show Below Wa.heap.size Wa Wb by rw [hWb]; exact below_alloc HB2.out _); have z := (show Wb.heap[w2.heap.size]? = some (.cells #[.slice A N c, .slice B2 1 m2] 26 (0, 0)) by rw [hWb]; exact blk_new _ _); have HW3 := Aside0.mk (show 1 ≤ m2 ∧ Kd.C kW Wb B2 1 [⟨a, S⟩] by rw [hWb]; exact ⟨HW2.out.1, Kd.C_alloc HW2.out.2 _⟩); rw [← hWb]; clear hWb; have z0 := (blk_cell z 0).trans (show _ = some (Value.slice A N c) from rfl); have z1 := (blk_cell z 1).trans (show _ = some (Value.slice B2 1 m2) from rfl); have d0 := Sb.out.c0; have d1 := Sb.out.c1; have f0 := blk_frozen Sb.out.hd 0; have f1 := blk_frozen Sb.out.hd 1; clear z; go_upto_region 12 with (fail))
  (obtain ⟨Wc, hWc⟩ : ∃ W, W = (Wb.setCell ⟨w.heap.size, 0, none⟩ (.slice A N c)).setCell ⟨w.heap.size, 1, none⟩ (.slice B2 1 m2) := ⟨_, rfl⟩; have Sc := Aside0.mk (show DoSt w Wc A N c B2 1 m2 g a S q T by rw [hWc]; exact Sb.out.put HG.out); have HWc := Aside0.mk (show 1 ≤ m2 ∧ Kd.C kW Wc B2 1 [⟨a, S⟩] by rw [hWc]; exact ⟨HW3.out.1, wr_store HW3.out.2 Sb.out.hd⟩); have HRc := Aside0.mk (show N ≤ c ∧ Kd.C Kd.string Wc A N l by rw [hWc]; exact ⟨HRa.out.1, str_store (Kd.C_below HRa.out.2 HWb.out) Sb.out.hd⟩); rw [← hWc]; clear hWc z0 z1 d0 d1 f0 f1 HR HW2 HW3 HRa Sb HWb Sa)
  go_wp2
  rw [rounds_succ]
  (have xi := Sc.out.row 2 _ rfl; have xj := Sc.out.row 3 _ rfl; go_upto_region 4 with fail; (obtain ⟨Wd, hWd⟩ : ∃ W, W = World.alloc Wc (.cells #[.int .i64 (-1), .string ⟨#[]⟩] 58) := ⟨_, rfl⟩; have YWd := Aside0.mk (show Wd.heap[Wc.heap.size]? = some (.cells #[.int .i64 (-1), .string ⟨#[]⟩] 58 (0, 0)) by rw [hWd]; exact blk_new _ _); have HWd := Aside0.mk (show Below Wc.heap.size Wc Wd by rw [hWd]; exact below_alloc (Below.refl _ _) _); rw [← hWd]; clear hWd xi xj; have y0 := (blk_cell YWd.out 0).trans (show _ = some (Value.int .i64 (-1)) from rfl); have y1 := (blk_cell YWd.out 1).trans (show _ = some (Value.string ⟨#[]⟩) from rfl)); have Sd := Aside0.mk (Sc.out.step HWd.out); have HRd := Aside0.mk (And.intro HRc.out.1 (Kd.C_below HRc.out.2 HWd.out)); have HQd := Aside0.mk (And.intro HWc.out.1 (Kd.C_below HWc.out.2 HWd.out)); have d0 := Sd.out.c0; have d1 := Sd.out.c1; go_upto_region 12 with (first | (go_at_call 48; (with_reducible refine (HF1.out _ _ _ _ _ _ HL1.out HRd.out.2 HRd.out.1 HQd.out.2 HQd.out.1).mono ?_); rintro e w2 ⟨A3, c3, rfl, hm2, hw2, hb2⟩; have HW2 := Aside0.mk (And.intro hm2 hw2); have HB2 := Aside0.mk hb2; have S2 := Aside0.mk (Sd.out.step hb2); have d0 := S2.out.c0; have d1 := S2.out.c1; have f0 := blk_frozen S2.out.hd 0; have f1 := blk_frozen S2.out.hd 1; clear hm2 hw2 hb2) | fail); obtain ⟨W3, hWe⟩ : ∃ W, W = (w2.setCell ⟨w.heap.size, 0, none⟩ (.slice A3 N c3)).setCell ⟨w.heap.size, 1, none⟩ (.slice none 0 0) := ⟨_, rfl⟩; have S3 := Aside0.mk (show DoSt w W3 A3 N c3 none 0 0 g a S q T by rw [hWe]; exact S2.out.put HG.out); have HR := Aside0.mk (show N ≤ c3 ∧ Kd.C Kd.string W3 A3 N ((l.set a S)) by rw [hWe]; exact ⟨HW2.out.1, str_store HW2.out.2 S2.out.hd⟩); rw [← hWe]; clear hWe d0 d1 f0 f1 y0 y1 HRc HWc Sc HW2 HQd HRd Sd S2)
  go_wp2
  rw [rounds_succ]
  (have xi := S3.out.row 4 _ rfl; have xj := S3.out.row 5 _ rfl; go_upto_region 4 with fail; (obtain ⟨Wa, hWa⟩ : ∃ W, W = World.alloc W3 (.cells #[.int .i64 q, .string T] 58) := ⟨_, rfl⟩; have YWa := Aside0.mk (show Wa.heap[W3.heap.size]? = some (.cells #[.int .i64 q, .string T] 58 (0, 0)) by rw [hWa]; exact blk_new _ _); have HWa := Aside0.mk (show Below W3.heap.size W3 Wa by rw [hWa]; exact below_alloc (Below.refl _ _) _); rw [← hWa]; clear hWa xi xj; have y0 := (blk_cell YWa.out 0).trans (show _ = some (Value.int .i64 q) from rfl); have y1 := (blk_cell YWa.out 1).trans (show _ = some (Value.string T) from rfl)); have Sa := Aside0.mk (S3.out.step HWa.out); have d0 := Sa.out.c0; have d1 := Sa.out.c1; go_upto_region 9 with (first | (go_at_call 49; (with_reducible refine (HP2.out _ _ _).mono ?_); rintro e w2 ⟨B4, m4, rfl, hm2, hw2, hb2⟩; have HW2 := Aside0.mk (And.intro hm2 hw2); have HB2 := Aside0.mk hb2; clear hm2 hw2 hb2) | fail); clear d0 d1 y0 y1; have HRa := Aside0.mk (And.intro HR.out.1 (Kd.C_below HR.out.2 HWa.out)))
  (obtain ⟨Wb, hWb⟩ : ∃ W, W = w2.alloc (.cells #[.slice A3 N c3, .slice B4 1 m4] 26) := ⟨_, rfl⟩; have Sb := Aside0.mk (show DoSt w Wb A3 N c3 none 0 0 g a S q T by rw [hWb]; exact (Sa.out.step HB2.out).step (below_alloc (Below.refl _ _) _)); have HWb := Aside0.mk (show Below Wa.heap.size Wa Wb by rw [hWb]; exact below_alloc HB2.out _); have z := (show Wb.heap[w2.heap.size]? = some (.cells #[.slice A3 N c3, .slice B4 1 m4] 26 (0, 0)) by rw [hWb]; exact blk_new _ _); have HW3 := Aside0.mk (show 1 ≤ m4 ∧ Kd.C kW Wb B4 1 [⟨q, T⟩] by rw [hWb]; exact ⟨HW2.out.1, Kd.C_alloc HW2.out.2 _⟩); rw [← hWb]; clear hWb; have z0 := (blk_cell z 0).trans (show _ = some (Value.slice A3 N c3) from rfl); have z1 := (blk_cell z 1).trans (show _ = some (Value.slice B4 1 m4) from rfl); have d0 := Sb.out.c0; have d1 := Sb.out.c1; have f0 := blk_frozen Sb.out.hd 0; have f1 := blk_frozen Sb.out.hd 1; clear z; go_upto_region 12 with (fail))
  (obtain ⟨Wc, hWc⟩ : ∃ W, W = (Wb.setCell ⟨w.heap.size, 0, none⟩ (.slice A3 N c3)).setCell ⟨w.heap.size, 1, none⟩ (.slice B4 1 m4) := ⟨_, rfl⟩; have Sc := Aside0.mk (show DoSt w Wc A3 N c3 B4 1 m4 g a S q T by rw [hWc]; exact Sb.out.put HG.out); have HWc := Aside0.mk (show 1 ≤ m4 ∧ Kd.C kW Wc B4 1 [⟨q, T⟩] by rw [hWc]; exact ⟨HW3.out.1, wr_store HW3.out.2 Sb.out.hd⟩); have HRc := Aside0.mk (show N ≤ c3 ∧ Kd.C Kd.string Wc A3 N (l.set a S) by rw [hWc]; exact ⟨HRa.out.1, str_store (Kd.C_below HRa.out.2 HWb.out) Sb.out.hd⟩); rw [← hWc]; clear hWc z0 z1 d0 d1 f0 f1 HR HW2 HW3 HRa Sb HWb Sa)
  go_wp2
  rw [rounds_succ]
  (have xi := Sc.out.row 6 _ rfl; have xj := Sc.out.row 7 _ rfl; go_upto_region 4 with fail; (obtain ⟨Wd, hWd⟩ : ∃ W, W = World.alloc Wc (.cells #[.int .i64 (-1), .string ⟨#[]⟩] 58) := ⟨_, rfl⟩; have YWd := Aside0.mk (show Wd.heap[Wc.heap.size]? = some (.cells #[.int .i64 (-1), .string ⟨#[]⟩] 58 (0, 0)) by rw [hWd]; exact blk_new _ _); have HWd := Aside0.mk (show Below Wc.heap.size Wc Wd by rw [hWd]; exact below_alloc (Below.refl _ _) _); rw [← hWd]; clear hWd xi xj; have y0 := (blk_cell YWd.out 0).trans (show _ = some (Value.int .i64 (-1)) from rfl); have y1 := (blk_cell YWd.out 1).trans (show _ = some (Value.string ⟨#[]⟩) from rfl)); have Sd := Aside0.mk (Sc.out.step HWd.out); have HRd := Aside0.mk (And.intro HRc.out.1 (Kd.C_below HRc.out.2 HWd.out)); have HQd := Aside0.mk (And.intro HWc.out.1 (Kd.C_below HWc.out.2 HWd.out)); have d0 := Sd.out.c0; have d1 := Sd.out.c1; go_upto_region 12 with (first | (go_at_call 48; (with_reducible refine (HF2.out _ _ _ _ _ _ HL2.out HRd.out.2 HRd.out.1 HQd.out.2 HQd.out.1).mono ?_); rintro e w2 ⟨A5, c5, rfl, hm2, hw2, hb2⟩; have HW2 := Aside0.mk (And.intro hm2 hw2); have HB2 := Aside0.mk hb2; have S2 := Aside0.mk (Sd.out.step hb2); have d0 := S2.out.c0; have d1 := S2.out.c1; have f0 := blk_frozen S2.out.hd 0; have f1 := blk_frozen S2.out.hd 1; clear hm2 hw2 hb2) | fail); obtain ⟨W5, hWe⟩ : ∃ W, W = (w2.setCell ⟨w.heap.size, 0, none⟩ (.slice A5 N c5)).setCell ⟨w.heap.size, 1, none⟩ (.slice none 0 0) := ⟨_, rfl⟩; have S5 := Aside0.mk (show DoSt w W5 A5 N c5 none 0 0 g a S q T by rw [hWe]; exact S2.out.put HG.out); have HR := Aside0.mk (show N ≤ c5 ∧ Kd.C Kd.string W5 A5 N ((l.set a S).set q T) by rw [hWe]; exact ⟨HW2.out.1, str_store HW2.out.2 S2.out.hd⟩); rw [← hWe]; clear hWe d0 d1 f0 f1 y0 y1 HRc HWc Sc HW2 HQd HRd Sd S2)
  go_wp2
  rw [rounds_succ]
  have d0 := S5.out.c0
  have d1 := S5.out.c1
  have e0 := (blk_cell S5.out.hr 0).trans (show _ = some (Value.slice none 0 0) from rfl)
  have e1 := (blk_cell S5.out.hr 1).trans (show _ = some (Value.slice none 0 0) from rfl)
  have f0 := blk_frozen S5.out.hr 0
  have f1 := blk_frozen S5.out.hr 1
  go_wp2
  refine bodyPost_ret (results_ct rfl _ _ (w.heap.size + 1) 26 #[.slice A5 N c5, .slice none 0 0] (0, 0) _ rfl (blk_put (blk_put S5.out.hr 0 _ rfl) 1 _ rfl) Tryz.underlying26 rfl (by kernel_rfl)) rfl ?_
  exact ⟨A5, c5, rfl, HR.out.1, str_store HR.out.2 S5.out.hr, below_set (below_set S5.out.b0 (by omega)) (by omega)⟩
end Go.Proofs.YtodejilhgpejnaaGreat.Q
namespace Go.Proofs.YtodejilhgpejnaaGreat.Q
open Go.RowKit Go.Proofs.YtodejilhgpejnaaGreatW.PrintWords Go.Proofs.YtodejilhgpejnaaGreatW.PrintLast Go.Proofs.YtodejilhgpejnaaGreatW.PrintMore
attribute [local go_sem] max2_int min2_int max_two min_two max_three min_three max_four min_four
set_option linter.unusedVariables false
set_option linter.unusedSimpArgs false
def isStr : Value → Bool | .string _ => true | _ => false
def isBoo : Value → Bool | .bool _ => true | _ => false
def No (p : Value → Bool) (w : World) (g : Nat) : Prop := ∃ cs t, w.heap[g]? = some (.cells cs t (0, 0)) ∧ cs.toList.all (fun v => !p v) = true
theorem no_cell {p : Value → Bool} {w : World} {g : Nat} (h : No p w g) (ad : Addr) (v : Value) (e : ad.block = g) (e0 : w.cell? ad = some v) (hp : p v = true) : False := by
  obtain ⟨cs, t, hb, ha⟩ := h
  cases e
  unfold World.cell? at e0
  rw [hb] at e0
  simp only at e0
  split at e0
  · cases e0
  · have := List.all_eq_true.1 ha v (Array.mem_def.1 (Array.mem_of_getElem? e0))
    rw [hp] at this
    cases this
theorem add_block (ad : Addr) (k : Nat) : (ad.add k).block = ad.block := by unfold Addr.add; split <;> rfl
theorem str_no {w W : World} {g n : Nat} {A : Option Addr} {l : List ByteArray} (h : Kd.C Kd.string w A n l) (hb : No isStr w g) (hk : ∀ k, k < w.heap.size → k ≠ g → W.heap[k]? = w.heap[k]?) : Kd.C Kd.string W A n l :=
  C_blkS h (fun hn ad e => hk _ (by subst e; exact Kd.C_lt h hn (by decide)) (fun he => by
    obtain ⟨ad', e', hx⟩ := Kd.at_string h (0 : Int) (by omega) (by omega)
    cases e.symm.trans e'
    exact no_cell hb (ad.add (Int.toNat 0)) _ ((add_block _ _).trans he) hx rfl))
theorem wr_no {w W : World} {g n : Nat} {A : Option Addr} {l : List Wr} (h : Kd.C kW w A n l) (hb : No isStr w g) (hk : ∀ k, k < w.heap.size → k ≠ g → W.heap[k]? = w.heap[k]?) : Kd.C kW W A n l :=
  C_blkW h (fun hn ad e => hk _ (by subst e; exact Kd.C_lt h hn (by decide)) (fun he => by
    obtain ⟨ad', e', _, hx⟩ := at_W h (0 : Int) (by omega) (by omega)
    cases e.symm.trans e'
    exact no_cell hb ⟨(ad.add (Int.toNat 0 * 2)).block, (ad.add (Int.toNat 0 * 2)).off + 1, none⟩ _ ((add_block _ _).trans he) hx rfl))
theorem zc_no {w W : World} {g n : Nat} {A : Option Addr} (h : ZC w A n) (hb : No isBoo w g) (hk : ∀ k, k < w.heap.size → k ≠ g → W.heap[k]? = w.heap[k]?) : ZC W A n :=
  C_blkZ h (fun hn ad e => hk _ (by subst e; exact Kd.C_lt h hn (by decide)) (fun he => by
    obtain ⟨ad', e', _, hx, _⟩ := at_Z h 0 hn
    cases e.symm.trans e'
    exact no_cell hb ⟨(ad.add (0 * 4)).block, (ad.add (0 * 4)).off + 1, none⟩ _ ((add_block _ _).trans he) hx rfl))
/-- Of the old blocks one alone is turned. -/
structure Turn (w w' : World) (b : Nat) : Prop where
  low : ∀ w0 : World, w0.heap.size ≤ b → Below w0.heap.size w0 w → Below w0.heap.size w0 w'
  size : w.heap.size ≤ w'.heap.size
  other : ∀ k, k < w.heap.size → k ≠ b → w'.heap[k]? = w.heap[k]?
theorem Turn.of_below {w w' : World} {b : Nat} (h : Below w.heap.size w w') : Turn w w' b := ⟨fun _ _ h0 => below_step h0 h, h.size, fun k hk _ => h.block k hk⟩
theorem Turn.set {w w' : World} {b : Nat} (h : Turn w w' b) (j : Nat) (u : Value) : Turn w (w'.setCell ⟨b, j, none⟩ u) b :=
  ⟨fun w0 hB h0 => below_set (h.low w0 hB h0) hB, by rw [World.size_setCell]; exact h.size, fun k hk hne => (Below.heap_setCell _ _ _ _ hne).trans (h.other k hk hne)⟩
/-- What disk.Do comes to. -/
abbrev DoC (A : Option Addr) (N c : Nat) (g n cb : Nat) (stop : Int) (w : World) (l' : List ByteArray) (ws : List Wr) (k : Nat) : Prop := ∀ W : World, Below w.heap.size w W → Calls Tryz.prog 27 #[.agg #[.slice A N c, .slice none 0 0], .slice (some ⟨g, 0, none⟩) n cb, .int .i64 stop] W fun e w' => ∃ D m B d, e = .returned (.tuple #[.agg #[.slice D N m, .slice B ws.length d], .int .i64 k]) ∧ N ≤ m ∧ ws.length ≤ d ∧ Kd.C Kd.string w' D N l' ∧ Kd.C kW w' B ws.length ws ∧ Below W.heap.size W w' ∧ (ws = [] → B = none ∧ d = 0)
/-- A commit at work. -/
def jobV (A : Option Addr) (N c : Nat) (B : Option Addr) (m d : Nat) (g n cb : Nat) : Array Value := #[.slice A N c, .slice B m d, .slice (some ⟨g, 0, none⟩) n cb, .func (.func 27) #[] #[]]
set_option maxHeartbeats 8000000 in
set_option maxRecDepth 100000 in
theorem run_walk (b : Nat) (A : Option Addr) (N c g n cb : Nat) (stop : Int) (l' : List ByteArray) (ws : List Wr) (k : Nat) (w : World) (hb : w.heap[b]? = some (.cells (jobV A N c none 0 0 g n cb) 68 (0, 0))) (hdo : DoC A N c g n cb stop w l' ws k) :
    Calls Tryz.prog 28 #[.pointer (some ⟨b, 0, none⟩), .int .i64 stop] w fun e w' => e = .returned (.bool ((k : Int) == (n : Int))) ∧ ∃ D m B d, w'.heap[b]? = some (.cells (jobV D N m B ws.length d g n cb) 68 (0, 0)) ∧ N ≤ m ∧ ws.length ≤ d ∧ Kd.C Kd.string w' D N l' ∧ Kd.C kW w' B ws.length ws ∧ Turn w w' b ∧ (ws = [] → B = none ∧ d = 0) := by
  have HB := Aside0.mk hb
  have HDO := Aside0.mk hdo
  have j0 := (blk_cell hb 0).trans (show _ = some (Value.slice A N c) from rfl)
  have j1 := (blk_cell hb 1).trans (show _ = some (Value.slice none 0 0) from rfl)
  have j2 := (blk_cell hb 2).trans (show _ = some (Value.slice (some ⟨g, 0, none⟩) n cb) from rfl)
  have j3 := (blk_cell hb 3).trans (show _ = some (Value.func (.func 27) #[] #[]) from rfl)
  clear hb hdo
  go_enter Tryz.func28, Tryz.ntmps28
  go_upto_region 1 with (fail)
  go_cut [5, 6] from 7 to 24 (fun v5 v6 wx => ∃ (XN : Nat) (D : Option Addr) (m : Nat) (B : Option Addr) (d : Nat), v5 = .pointer (some ⟨XN, 0, none⟩) ∧ v6 = .int .i64 k ∧ Aside0 (wx.heap[XN]? = some (.cells #[.slice D N m, .slice B ws.length d] 26 (0, 0))) ∧ Aside0 (N ≤ m ∧ ws.length ≤ d ∧ Kd.C Kd.string wx D N l' ∧ Kd.C kW wx B ws.length ws) ∧ Aside0 (Below w.heap.size w wx) ∧ Aside0 (ws = [] → B = none ∧ d = 0))
  case first =>
    go_region_held3 (fun w' => w'.cell? ⟨b, 0, none⟩ = some (.slice A N c) ∧ w'.cell? ⟨b, 1, none⟩ = some (.slice none 0 0) ∧ w'.cell? ⟨b, 2, none⟩ = some (.slice (some ⟨g, 0, none⟩) n cb) ∧ w'.cell? ⟨b, 3, none⟩ = some (.func (.func 27) #[] #[])) (first | exact ⟨j0, j1, j2, j3⟩ | exact (fun (H : Below w.heap.size w _) => ⟨bcell H j0, bcell H j1, bcell H j2, bcell H j3⟩) (by repeat (first | (with_reducible exact Below.refl _ _) | (with_reducible refine below_alloc ?_ _) | (with_reducible refine below_drew1 ?_) | (with_reducible refine pw_below_drewN ?_ _) | (with_reducible exact HB3.out) | (with_reducible refine below_set ?_ (Nat.le_refl _))))) (first | (go_at_call 27; (with_reducible refine (HDO.out _ (by repeat (first | (with_reducible exact Below.refl _ _) | (with_reducible refine below_alloc ?_ _) | (with_reducible refine below_drew1 ?_) | (with_reducible refine pw_below_drewN ?_ _) | fail))).mono ?_); rintro e w3 ⟨D, m, B, d, rfl, hm, hd, hs, hw, hb3, hnn⟩; have HNN := Aside0.mk hnn; have HB3 := Aside0.mk (show Below w.heap.size w w3 from below_step (by repeat (first | (with_reducible exact Below.refl _ _) | (with_reducible refine below_alloc ?_ _) | (with_reducible refine below_drew1 ?_) | (with_reducible refine pw_below_drewN ?_ _) | fail)) hb3); have HR3 := Aside0.mk (And.intro hm (And.intro hd (And.intro hs hw))); (first | (have qx := blk_below (blk_drew (blk_new w (.cells #[.slice none 0 0, .slice none 0 0] 26))) hb3; have QX := Aside0.mk qx; have qx0 := (blk_cell qx 0).trans (show _ = some (Value.slice none 0 0) from rfl); have qx1 := (blk_cell qx 1).trans (show _ = some (Value.slice none 0 0) from rfl); have qf0 := blk_frozen qx 0; have qf1 := blk_frozen qx 1; clear qx) | skip); clear hb3 hm hd hs hw hnn) | fail)
    all_goals
      go_wp2
      go_meet
      case rel => first | exact ⟨w3.heap.size, D, m, B, d, rfl, rfl, ⟨blk_new _ _⟩, ⟨HR3.out.1, HR3.out.2.1, Kd.C_alloc HR3.out.2.2.1 _, Kd.C_alloc HR3.out.2.2.2 _⟩, ⟨below_alloc HB3.out _⟩, HNN⟩ | exact ⟨w.heap.size, D, m, B, d, rfl, rfl, ⟨blk_put (blk_put QX.out 0 _ rfl) 1 _ rfl⟩, ⟨HR3.out.1, HR3.out.2.1, str_store HR3.out.2.2.1 QX.out, wr_store HR3.out.2.2.2 QX.out⟩, ⟨below_set (below_set HB3.out (Nat.le_refl _)) (Nat.le_refl _)⟩, HNN⟩
  case rest =>
    obtain ⟨XN, D, m, B, d, rfl, rfl, HX, HR, HBX, HNN⟩ := hcut
    obtain ⟨W2, rfl⟩ : ∃ W2, W2 = wc := ⟨_, rfl⟩
    have HJ := Aside0.mk (blk_below HB.out HBX.out)
    clear j0 j1 j2 j3
    have x0 := (blk_cell HX.out 0).trans (show _ = some (Value.slice D N m) from rfl)
    have x1 := (blk_cell HX.out 1).trans (show _ = some (Value.slice B ws.length d) from rfl)
    have j0 := (blk_cell HJ.out 0).trans (show _ = some (Value.slice A N c) from rfl)
    have j1 := (blk_cell HJ.out 1).trans (show _ = some (Value.slice none 0 0) from rfl)
    have f0 := blk_frozen HJ.out 0
    have f1 := blk_frozen HJ.out 1
    go_upto_region 3 with (fail)
    obtain ⟨W3, hW3⟩ : ∃ W3, W3 = (W2.setCell ⟨b, 0, none⟩ (.slice D N m)).setCell ⟨b, 1, none⟩ (.slice B ws.length d) := ⟨_, rfl⟩
    have HJ3 := Aside0.mk (show W3.heap[b]? = some (.cells (jobV D N m B ws.length d g n cb) 68 (0, 0)) by rw [hW3]; exact blk_put (blk_put HJ.out 0 _ rfl) 1 _ rfl)
    have HT := Aside0.mk (show Turn W2 W3 b by rw [hW3]; exact ((Turn.of_below (Below.refl _ _)).set 0 _).set 1 _)
    have HTw := Aside0.mk (show Turn w W3 b by rw [hW3]; exact ((Turn.of_below HBX.out).set 0 _).set 1 _)
    have hno : No isStr W2 b := ⟨_, _, HJ.out, rfl⟩
    have HR3 := Aside0.mk (show Kd.C Kd.string W3 D N l' ∧ Kd.C kW W3 B ws.length ws from ⟨str_no HR.out.2.2.1 hno HT.out.other, wr_no HR.out.2.2.2 hno HT.out.other⟩)
    rw [← hW3]
    clear hW3 x0 x1 j0 j1 f0 f1 hno
    have j2 := (blk_cell HJ3.out 2).trans (show _ = some (Value.slice (some ⟨g, 0, none⟩) n cb) from rfl)
    go_wp2
    go_ret
    exact ⟨rfl, D, m, B, d, HJ3.out, HR.out.1, HR.out.2.1, HR3.out.1, HR3.out.2, HTw.out, HNN.out⟩
end Go.Proofs.YtodejilhgpejnaaGreat.Q
