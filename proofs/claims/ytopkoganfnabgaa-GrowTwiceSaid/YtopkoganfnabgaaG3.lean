import Derived.Test.YtopkoganfnabgaaG2
import Derived.Test.YtopkoganfnabgaaG1
namespace Go.Proofs.Ytopkoganfnabgaa.H
open Go.RowKit Go.Proofs.YtopkoganfnabgaaW.PrintWords Go.Proofs.YtopkoganfnabgaaW.PrintLast Go.Proofs.YtopkoganfnabgaaW.PrintMore
attribute [local go_sem] max2_int min2_int max_two min_two max_three min_three max_four min_four
set_option linter.unusedVariables false
set_option linter.unusedSimpArgs false
/-- Blocks of b that a has not. -/
def Yg (a b : World) (i : Nat) : Prop := a.heap.size ≤ i ∧ i < b.heap.size
theorem it_lv {w0 w W : World} {n : Nat} {A : Option Addr} {l : List It} {S : Nat → Prop} (h : kIt.C w0 A n l) (hb : Below w0.heap.size w0 w) (hS : ∀ k, S k → w0.heap.size ≤ k) (hk : Kept w W S) : kIt.C W A n l := by
  refine Kd.C_foot_neS (S := S) (d := kIt) (fun h => h) (Kd.C_below h hb) ?_ W hk
  intro ad e hn hs
  subst e
  have := Kd.C_lt h hn (by decide)
  have := hS _ hs
  omega
theorem rw_lv {w0 w W : World} {n : Nat} {A : Option Addr} {l : List Rw} {S : Nat → Prop} (h : kRw.C w0 A n l) (hb : Below w0.heap.size w0 w) (hS : ∀ k, S k → w0.heap.size ≤ k) (hk : Kept w W S) : kRw.C W A n l := by
  refine Kd.C_foot_neS (S := S) (d := kRw) (fun h => h) (Kd.C_below h hb) ?_ W hk
  intro ad e hn hs
  subst e
  have := Kd.C_lt h hn (by decide)
  have := hS _ hs
  omega
theorem cl_lv {w0 w W : World} {n : Nat} {A : Option Addr} {l : List Cl} {S : Nat → Prop} (h : kCl.C w0 A n l) (hb : Below w0.heap.size w0 w) (hS : ∀ k, S k → w0.heap.size ≤ k) (hk : Kept w W S) : kCl.C W A n l := by
  obtain ⟨rc, h1, h2⟩ := rw_of_cl h
  refine cl_of_rw (rw_lv h1 hb hS hk) ⟨h2.1, fun i hi => ?_⟩
  obtain ⟨e1, e2, e3, e4, e5, e6⟩ := h2.2 i hi
  exact ⟨e1, e2, e3, e4, e5, it_lv e6 hb hS hk⟩
/-- A heap's cells that live through whatever is written to the blocks of w that w0 has not. -/
def Lv (w0 w w' : World) (B : Option Addr) (l : List Cl) : Prop := ∀ W', Kept w' W' (Yg w0 w) → kCl.C W' B l.length l
theorem Lv.now {w0 w w' : World} {B : Option Addr} {l : List Cl} (h : Lv w0 w w' B l) : kCl.C w' B l.length l := h w' (Kept.refl _ _)
theorem Lv_old {w0 w w' : World} {B : Option Addr} {l : List Cl} (h : kCl.C w0 B l.length l) (hb : Below w0.heap.size w0 w') : Lv w0 w w' B l := fun _ hk => cl_lv h hb (fun _ hs => hs.1) hk
theorem Lv_mono {w0 W W1 w' : World} {B : Option Addr} {l : List Cl} (h : Lv w0 W w' B l) (hs : W1.heap.size ≤ W.heap.size) : Lv w0 W1 w' B l := fun W' hk => h W' (Kept.mono hk fun _ hy => ⟨hy.1, by have := hy.2; omega⟩)
theorem Lv_below {w0 W w2 w3 : World} {B : Option Addr} {l : List Cl} (h : Lv w0 W w2 B l) (hb : Below w2.heap.size w2 w3) : Lv w0 W w3 B l := fun W' hk => h W' ((Kept.of_below hb _).then_ hk (fun _ hy => Or.inl hy))
/-- A write to a block that may be written. -/
theorem Lv_set {w0 W w2 : World} {B : Option Addr} {l : List Cl} (h : Lv w0 W w2 B l) {p : Addr} (h1 : w0.heap.size ≤ p.block) (h2 : p.block < W.heap.size) (u : Value) : Lv w0 W (w2.setCell p u) B l := fun W' hk => h W' (((Kept.refl w2 (Yg w0 W)).setCell (Or.inl ⟨h1, h2⟩) u).then_ hk (fun _ hy => Or.inl hy))
/-- A write to a block that holds a heap alone. -/
theorem Lv_hb {w0 W w2 w3 : World} {B : Option Addr} {l : List Cl} {g : Nat} (h : Lv w0 W w2 B l) (hH : Hb w2 g) (hk : KeepBut w2 w3 g none) : Lv w0 W w3 B l := by
  intro W' hk'
  by_cases hy : Yg w0 W g
  · refine h W' ⟨Nat.le_trans hk.1 hk'.1, fun i hi hn => ?_⟩
    exact (hk'.2 i (Nat.lt_of_lt_of_le hi hk.1) hn).trans (hk.2 i hi (fun e => hn (e ▸ hy)) (by simp))
  · obtain ⟨X, a, b, k, t, ho⟩ := hH
    have hg2 := blk_lt ho
    have hgW : g < W'.heap.size := Nat.lt_of_lt_of_le hg2 (Nat.le_trans hk.1 hk'.1)
    have hV : ({ W' with heap := W'.heap.setIfInBounds g (.cells #[.slice X a b, .int .i64 k] t (0, 0)) } : World).heap[g]? = some (.cells #[.slice X a b, .int .i64 k] t (0, 0)) := by
      simp [hgW]
    have hO : ∀ i, i ≠ g → ({ W' with heap := W'.heap.setIfInBounds g (.cells #[.slice X a b, .int .i64 k] t (0, 0)) } : World).heap[i]? = W'.heap[i]? := by
      intro i hi
      simp [Array.getElem?_setIfInBounds, Ne.symm hi]
    have hsz : ({ W' with heap := W'.heap.setIfInBounds g (.cells #[.slice X a b, .int .i64 k] t (0, 0)) } : World).heap.size = W'.heap.size := by simp
    generalize ({ W' with heap := W'.heap.setIfInBounds g (.cells #[.slice X a b, .int .i64 k] t (0, 0)) } : World) = V at hV hO hsz
    have hC := h V ⟨by rw [hsz]; exact Nat.le_trans hk.1 hk'.1, fun i hi hn => by
      by_cases e : i = g
      · rw [e, hV, ho]
      · rw [hO i e, hk'.2 i (Nat.lt_of_lt_of_le hi hk.1) hn, hk.2 i hi e (by simp)]⟩
    exact cl_keep hC ⟨X, a, b, k, t, hV⟩ ⟨by rw [hsz]; exact Nat.le_refl _, fun i hi hn _ => (hO i hn).symm⟩
theorem blk3 (w : World) (o1 o2 o3 : Obj) : (((w.alloc o1).alloc o2).alloc o3).heap[w.heap.size + 1 + 1]? = some o3 := by
  have h := blk2 (w.alloc o1) o2 o3
  rwa [show (w.alloc o1).heap.size = w.heap.size + 1 by simp] at h
theorem blk4 (w : World) (o1 o2 o3 o4 : Obj) : ((((w.alloc o1).alloc o2).alloc o3).alloc o4).heap[w.heap.size + 1 + 1 + 1]? = some o4 := by
  have h := blk3 (w.alloc o1) o2 o3 o4
  rwa [show (w.alloc o1).heap.size = w.heap.size + 1 by simp] at h
/-- What Alloc finds when it begins. -/
structure AlSt (w W1 : World) (A B D : Option Addr) (c cb d : Nat) (h : Hp) (lf : Bool) (n : Nat) (m : Nat) : Prop where
  b0 : Below w.heap.size w W1
  bh : W1.heap[w.heap.size]? = some (.cells #[.slice A h.c.length c, .int .i64 h.keep] 24 (0, 0))
  bn : W1.heap[w.heap.size + 1]? = some (.cells #[.bool lf, .slice B n cb] 77 (0, 0))
  bd : W1.heap[w.heap.size + 1 + 1]? = some (.cells #[.slice D m d] 41 (0, 0))
  br : W1.heap[w.heap.size + 1 + 1 + 1]? = some (.cells #[.slice none 0 0, .int .i64 0] 24 (0, 0))
theorem alst (w : World) (A B D : Option Addr) (c cb d : Nat) (h : Hp) (lf : Bool) (n m : Nat) :
    AlSt w ((((w.alloc (.cells #[.slice A h.c.length c, .int .i64 h.keep] 24)).alloc (.cells #[.bool lf, .slice B n cb] 77)).alloc (.cells #[.slice D m d] 41)).alloc (.cells #[.slice none 0 0, .int .i64 0] 24)) A B D c cb d h lf n m :=
  ⟨below_alloc (below_alloc (below_alloc (below_alloc (Below.refl _ _) _) _) _) _, blk_alloc (blk_alloc (blk_alloc (blk_new w _) _) _) _, blk_alloc (blk_alloc (blk2 w _ _) _) _, blk_alloc (blk3 w _ _ _) _, blk4 w _ _ _ _⟩
theorem AlSt.step {w W1 W2 : World} {A B D : Option Addr} {c cb d : Nat} {h : Hp} {lf : Bool} {n m : Nat} (s : AlSt w W1 A B D c cb d h lf n m) (hb : Below W1.heap.size W1 W2) : AlSt w W2 A B D c cb d h lf n m :=
  ⟨below_step s.b0 hb, blk_below s.bh hb, blk_below s.bn hb, blk_below s.bd hb, blk_below s.br hb⟩
--@ CELLS(S) := (have c0 := (blk_cell (%S%).out.bh 0).trans (show _ = some (Value.slice A h.c.length c) from rfl)⏎  have c1 := (blk_cell (%S%).out.bh 1).trans (show _ = some (Value.int .i64 h.keep) from rfl))
set_option maxHeartbeats 2000000 in
set_option maxRecDepth 100000 in
theorem allocArg_walk (A B D : Option Addr) (c cb d : Nat) (h : Hp) (n : Nd) (held : List Int) (w0 w : World) (hr0 : kCl.C w0 A h.c.length h.c) (hb0 : Below w0.heap.size w0 w) (hcc : h.c.length ≤ c) (hn : kIt.C w B n.it.length n.it) (hbad : (nodeRight n && leadsB h n) = false) :
    Calls Try.prog 50 #[.agg #[.slice A h.c.length c, .int .i64 h.keep], .agg #[.bool n.leaf, .slice B n.it.length cb], .slice D held.length d] w fun e w' => ∃ B' cb', e = .returned (.tuple #[.agg #[.slice B' h.c.length cb', .int .i64 h.keep], .int .i64 0, .int .i64 1]) ∧ h.c.length ≤ cb' ∧ Lv w0 w w' B' h.c ∧ Below w.heap.size w w' := by
  have hr := Kd.C_below hr0 hb0
  have HR0 := Aside0.mk (And.intro hr0 hb0)
  clear hr0 hb0
  obtain ⟨lf, l⟩ := n
  show Calls Try.prog 50 #[.agg #[.slice A h.c.length c, .int .i64 h.keep], .agg #[.bool lf, .slice B l.length cb], .slice D held.length d] w _
  replace hn : kIt.C w B l.length l := hn
  obtain ⟨W1, hW1⟩ : ∃ W1, W1 = ((((w.alloc (.cells #[.slice A h.c.length c, .int .i64 h.keep] 24)).alloc (.cells #[.bool lf, .slice B l.length cb] 77)).alloc (.cells #[.slice D held.length d] 41)).alloc (.cells #[.slice none 0 0, .int .i64 0] 24)) := ⟨_, rfl⟩
  have S1 := Aside0.mk (show AlSt w W1 A B D c cb d h lf l.length held.length by rw [hW1]; exact alst _ _ _ _ _ _ _ _ _ _ _)
  have HNR := Aside0.mk (fun (W : World) (hb : Below w.heap.size w W) => nodeRight_walk B cb ⟨lf, l⟩ W (Kd.C_below hn hb))
  have HLD := Aside0.mk (fun (W : World) (hb : Below w.heap.size w W) => leads_walk A B c cb h ⟨lf, l⟩ W (Kd.C_below hr hb) (Kd.C_below hn hb))
  have HRC := Aside0.mk (And.intro hcc hr)
  have hW1' := Aside0.mk hW1
  have n0 := (blk_cell S1.out.bn 0).trans (show _ = some (Value.bool lf) from rfl)
  have n1 := (blk_cell S1.out.bn 1).trans (show _ = some (Value.slice B l.length cb) from rfl)
  have c0 := (blk_cell S1.out.bh 0).trans (show _ = some (Value.slice A h.c.length c) from rfl)
  have c1 := (blk_cell S1.out.bh 1).trans (show _ = some (Value.int .i64 h.keep) from rfl)
  obtain ⟨u, hu⟩ : ∃ u, u = nodeRight ⟨lf, l⟩ := ⟨_, rfl⟩
  obtain ⟨v, hv⟩ : ∃ v, v = leadsB h ⟨lf, l⟩ := ⟨_, rfl⟩
  rw [← hu, ← hv] at hbad
  rw [← hu] at HNR
  rw [← hv] at HLD
  clear hr hn hcc hW1 hu hv
  cases u with
  | false =>
    clear hbad
    go_enter Try.func50, Try.ntmps50
    go_upto_region 1 with (fail)
    rw [← hW1'.out]
    go_upto_region 2 with (first | (go_at_call 80; (with_reducible refine (HNR.out _ S1.out.b0).mono ?_); rintro e w2 ⟨rfl, hb2⟩; have S2 := Aside0.mk (S1.out.step (below_step (Below.refl _ _) hb2)); clear hb2) | fail)
    have d0 := (blk_cell S2.out.bh 0).trans (show _ = some (Value.slice A h.c.length c) from rfl)
    have d1 := (blk_cell S2.out.bh 1).trans (show _ = some (Value.int .i64 h.keep) from rfl)
    have e0 := (blk_cell S2.out.br 0).trans (show _ = some (Value.slice none 0 0) from rfl)
    have e1 := (blk_cell S2.out.br 1).trans (show _ = some (Value.int .i64 0) from rfl)
    have f0 := blk_frozen S2.out.br 0
    have f1 := blk_frozen S2.out.br 1
    go_wp2
    refine bodyPost_ret (results_ctt rfl _ _ (w.heap.size + 1 + 1 + 1) 24 #[.slice A h.c.length c, .int .i64 h.keep] (0, 0) _ rfl (hb_store S2.out.br) Try.underlying24 rfl (by kernel_rfl)) rfl ?_
    have hbf : Below w.heap.size w ((w2.setCell ⟨w.heap.size + 1 + 1 + 1, 0, none⟩ (.slice A h.c.length c)).setCell ⟨w.heap.size + 1 + 1 + 1, 1, none⟩ (.int .i64 h.keep)) := below_set (below_set S2.out.b0 (by omega)) (by omega)
    exact ⟨A, c, rfl, HRC.out.1, Lv_old HR0.out.1 (below_step HR0.out.2 hbf), hbf⟩
  | true =>
    obtain rfl : v = false := by simpa using hbad
    clear hbad
    go_enter Try.func50, Try.ntmps50
    go_upto_region 1 with (fail)
    rw [← hW1'.out]
    go_upto_region 2 with (first | (go_at_call 80; (with_reducible refine (HNR.out _ S1.out.b0).mono ?_); rintro e w2 ⟨rfl, hb2⟩; have S2 := Aside0.mk (S1.out.step hb2); have d0 := bcell hb2 c0; have d1 := bcell hb2 c1; have m0 := bcell hb2 n0; have m1 := bcell hb2 n1; clear hb2) | (go_at_call 81; (with_reducible refine (HLD.out _ S2.out.b0).mono ?_); rintro e w3 ⟨rfl, hb3⟩; have S3 := Aside0.mk (S2.out.step hb3); clear hb3) | fail)
    have g0 := (blk_cell S3.out.bh 0).trans (show _ = some (Value.slice A h.c.length c) from rfl)
    have g1 := (blk_cell S3.out.bh 1).trans (show _ = some (Value.int .i64 h.keep) from rfl)
    have e0 := (blk_cell S3.out.br 0).trans (show _ = some (Value.slice none 0 0) from rfl)
    have e1 := (blk_cell S3.out.br 1).trans (show _ = some (Value.int .i64 0) from rfl)
    have f0 := blk_frozen S3.out.br 0
    have f1 := blk_frozen S3.out.br 1
    go_wp2
    refine bodyPost_ret (results_ctt rfl _ _ (w.heap.size + 1 + 1 + 1) 24 #[.slice A h.c.length c, .int .i64 h.keep] (0, 0) _ rfl (hb_store S3.out.br) Try.underlying24 rfl (by kernel_rfl)) rfl ?_
    have hbf : Below w.heap.size w ((w3.setCell ⟨w.heap.size + 1 + 1 + 1, 0, none⟩ (.slice A h.c.length c)).setCell ⟨w.heap.size + 1 + 1 + 1, 1, none⟩ (.int .i64 h.keep)) := below_set (below_set S3.out.b0 (by omega)) (by omega)
    exact ⟨A, c, rfl, HRC.out.1, Lv_old HR0.out.1 (below_step HR0.out.2 hbf), hbf⟩
end Go.Proofs.Ytopkoganfnabgaa.H
namespace Go.Proofs.Ytopkoganfnabgaa.H
open Go.RowKit Go.Proofs.YtopkoganfnabgaaW.PrintWords Go.Proofs.YtopkoganfnabgaaW.PrintLast Go.Proofs.YtopkoganfnabgaaW.PrintMore
attribute [local go_sem] max2_int min2_int max_two min_two max_three min_three max_four min_four
set_option linter.unusedVariables false
set_option linter.unusedSimpArgs false
theorem isFree_cl (x : Cl) (B : Option Addr) (cb : Nat) (W : World) : Calls Try.prog 83 #[.agg #[.int .i64 x.ref, .bool x.pin, .bool x.n.leaf, .slice B x.n.it.length cb]] W fun e W' => e = .returned (.bool (freeB x)) ∧ Below W.heap.size W W' :=
  isFree_walk B cb x.n.it.length x.ref x.pin x.n.leaf W
set_option maxHeartbeats 2000000 in
set_option maxRecDepth 100000 in
theorem allocFull_walk (A B D : Option Addr) (c cb d : Nat) (h : Hp) (n : Nd) (held : List Int) (w0 w : World) (hr0 : kCl.C w0 A h.c.length h.c) (hb0 : Below w0.heap.size w0 w) (hcc : h.c.length ≤ c) (hn : kIt.C w B n.it.length n.it) (hnr : nodeRight n = true) (hld : leadsB h n = true) (hix : idxI freeB h.c = -1) :
    Calls Try.prog 50 #[.agg #[.slice A h.c.length c, .int .i64 h.keep], .agg #[.bool n.leaf, .slice B n.it.length cb], .slice D held.length d] w fun e w' => ∃ B' cb', e = .returned (.tuple #[.agg #[.slice B' h.c.length cb', .int .i64 h.keep], .int .i64 0, .int .i64 3]) ∧ h.c.length ≤ cb' ∧ Lv w0 w w' B' h.c ∧ Below w.heap.size w w' := by
  have hr := Kd.C_below hr0 hb0
  have HR0 := Aside0.mk (And.intro hr0 hb0)
  clear hr0 hb0
  obtain ⟨lf, l⟩ := n
  show Calls Try.prog 50 #[.agg #[.slice A h.c.length c, .int .i64 h.keep], .agg #[.bool lf, .slice B l.length cb], .slice D held.length d] w _
  replace hn : kIt.C w B l.length l := hn
  obtain ⟨W1, hW1⟩ : ∃ W1, W1 = ((((w.alloc (.cells #[.slice A h.c.length c, .int .i64 h.keep] 24)).alloc (.cells #[.bool lf, .slice B l.length cb] 77)).alloc (.cells #[.slice D held.length d] 41)).alloc (.cells #[.slice none 0 0, .int .i64 0] 24)) := ⟨_, rfl⟩
  have S1 := Aside0.mk (show AlSt w W1 A B D c cb d h lf l.length held.length by rw [hW1]; exact alst _ _ _ _ _ _ _ _ _ _ _)
  have HNR := Aside0.mk (fun (W : World) (hb : Below w.heap.size w W) => by have := nodeRight_walk B cb ⟨lf, l⟩ W (Kd.C_below hn hb); rw [hnr] at this; exact this)
  have HLD := Aside0.mk (fun (W : World) (hb : Below w.heap.size w W) => by have := leads_walk A B c cb h ⟨lf, l⟩ W (Kd.C_below hr hb) (Kd.C_below hn hb); rw [hld] at this; exact this)
  have HRC := Aside0.mk (And.intro hcc hr)
  have hW1' := Aside0.mk hW1
  have n0 := (blk_cell S1.out.bn 0).trans (show _ = some (Value.bool lf) from rfl)
  have n1 := (blk_cell S1.out.bn 1).trans (show _ = some (Value.slice B l.length cb) from rfl)
  have c0 := (blk_cell S1.out.bh 0).trans (show _ = some (Value.slice A h.c.length c) from rfl)
  have c1 := (blk_cell S1.out.bh 1).trans (show _ = some (Value.int .i64 h.keep) from rfl)
  have HIX := Aside0.mk (fun (W : World) (hb : Below w.heap.size w W) => show Calls Try.prog 82 #[.slice A h.c.length c, .func (.func 83) #[] #[]] W fun e w' => e = .returned (.int .i64 (-1)) ∧ Below W.heap.size W w' by have := idxCl_walk 83 (enters_of Try.func83 (by kernel_rfl) rfl) freeB A c h.c W (Kd.C_below hr hb) isFree_cl; rw [hix] at this; exact this)
  clear hr hn hcc hW1 hnr hld hix
  go_enter Try.func50, Try.ntmps50
  go_upto_region 1 with (fail)
  rw [← hW1'.out]
  go_upto_region 5 with (first | (go_at_call 80; (with_reducible refine (HNR.out _ S1.out.b0).mono ?_); rintro e w2 ⟨rfl, hb2⟩; have S2 := Aside0.mk (S1.out.step hb2); have d0 := bcell hb2 c0; have d1 := bcell hb2 c1; have m0 := bcell hb2 n0; have m1 := bcell hb2 n1; clear hb2) | (go_at_call 81; (with_reducible refine (HLD.out _ S2.out.b0).mono ?_); rintro e w3 ⟨rfl, hb3⟩; have S3 := Aside0.mk (S2.out.step hb3); have g0 := bcell hb3 d0; have g1 := bcell hb3 d1; have p0 := bcell hb3 m0; have p1 := bcell hb3 m1; clear hb3) | (go_at_call 82; (with_reducible refine (HIX.out _ S3.out.b0).mono ?_); rintro e w4 ⟨rfl, hb4⟩; have S4 := Aside0.mk (S3.out.step hb4); have j0 := bcell hb4 g0; have j1 := bcell hb4 g1; have k0 := bcell hb4 p0; have k1 := bcell hb4 p1; clear hb4) | fail)
  have e0 := (blk_cell S4.out.br 0).trans (show _ = some (Value.slice none 0 0) from rfl)
  have e1 := (blk_cell S4.out.br 1).trans (show _ = some (Value.int .i64 0) from rfl)
  have f0 := blk_frozen S4.out.br 0
  have f1 := blk_frozen S4.out.br 1
  go_wp2
  refine bodyPost_ret (results_ctt rfl _ _ (w.heap.size + 1 + 1 + 1) 24 #[.slice A h.c.length c, .int .i64 h.keep] (0, 0) _ rfl (hb_store S4.out.br) Try.underlying24 rfl (by kernel_rfl)) rfl ?_
  have hbf : Below w.heap.size w ((w4.setCell ⟨w.heap.size + 1 + 1 + 1, 0, none⟩ (.slice A h.c.length c)).setCell ⟨w.heap.size + 1 + 1 + 1, 1, none⟩ (.int .i64 h.keep)) := below_set (below_set S4.out.b0 (by omega)) (by omega)
  exact ⟨A, c, rfl, HRC.out.1, Lv_old HR0.out.1 (below_step HR0.out.2 hbf), hbf⟩
/-- What the held cells come to. -/
theorem holdL_len (held : List Int) : ∀ (l : List It) (h : Hp), (holdL h held l).c.length = h.c.length
  | [], _ => rfl
  | x :: l, h => by
    unfold holdL
    rw [holdL_len held l]
    split
    · rfl
    · unfold moreH setH; simp
theorem own_lv {w0 w W : World} {b g cap : Nat} {h : Hp} {S : Nat → Prop} (ho : OwnS w0 w b g cap h) (hne : ¬ S g) (hS : ∀ k, S k → w0.heap.size ≤ k) (hk : Kept w W S) : kCl.C W (some ⟨g, 0, none⟩) h.c.length h.c := by
  obtain ⟨rc, h1, h2, h3, h4, h5, h6⟩ := ho
  have h7 := (Kd.R_reads' h2).2.2
  rw [show rc.length = h.c.length from h3.1] at h7
  refine cl_of_rw (rc := rc) ?_ ⟨h3.1, fun i hi => ?_⟩
  · refine Kd.C_foot_neS (S := S) (d := kRw) (fun h => h) h7 ?_ W hk
    intro ad e hn he
    cases e
    exact hne he
  · obtain ⟨e1, e2, e3, e4, e5, e6⟩ := h3.2 i hi
    exact ⟨e1, e2, e3, e4, e5, it_lv e6 h4 hS hk⟩
theorem AlSt.keep {w W1 W2 : World} {A B D : Option Addr} {c cb d g : Nat} {h : Hp} {lf : Bool} {n m : Nat} (s : AlSt w W1 A B D c cb d h lf n m) (hg : w.heap.size + 4 ≤ g) (hk : KeepBut W1 W2 g none) (hb : Below w.heap.size w W2) : AlSt w W2 A B D c cb d h lf n m := by
  have key : ∀ i o, i < w.heap.size + 4 → W1.heap[i]? = some o → W2.heap[i]? = some o := fun i o hi ho => (hk.2 i (blk_lt ho) (by omega) (by simp)).trans ho
  exact ⟨hb, key _ _ (by omega) s.bh, key _ _ (by omega) s.bn, key _ _ (by omega) s.bd, key _ _ (by omega) s.br⟩
theorem drop_succ {α : Type} (z : α) (l : List α) (k : Nat) (hk : k < l.length) : l.drop k = l.getD k z :: l.drop (k + 1) := by
  rw [List.drop_eq_getElem_cons hk, List.getD_eq_getElem?_getD, List.getElem?_eq_getElem hk]
  rfl
theorem own_put4 {w0 W : World} {b g cap i : Nat} {h : Hp} (ho : OwnS w0 W b g cap h) (hi : i < h.c.length) (r : Int) (pn lf : Bool) (B : Option Addr) (cb : Nat) (l : List It) (hl : l.length ≤ cb) (hB : kIt.C w0 B l.length l) :
    OwnS w0 ((((W.setCell ⟨g, i * 4, none⟩ (.int .i64 r)).setCell ⟨g, i * 4 + 1, none⟩ (.bool pn)).setCell ⟨g, i * 4 + 2, none⟩ (.bool lf)).setCell ⟨g, i * 4 + 2 + 1, none⟩ (.slice B l.length cb)) b g cap (setH h (i : Int) ⟨r, pn, ⟨lf, l⟩⟩) ∧
    KeepBut W ((((W.setCell ⟨g, i * 4, none⟩ (.int .i64 r)).setCell ⟨g, i * 4 + 1, none⟩ (.bool pn)).setCell ⟨g, i * 4 + 2, none⟩ (.bool lf)).setCell ⟨g, i * 4 + 2 + 1, none⟩ (.slice B l.length cb)) g none := by
  have hlen : ∀ (x : Cl), i < (setH h (i : Int) x).c.length := fun x => by unfold setH; simpa using hi
  obtain ⟨o1, k1⟩ := own_ref ho hi r
  obtain ⟨o2, k2⟩ := own_pin o1 (hlen _) pn
  rw [getD_setH h i _ hi, setH_setH] at o2
  obtain ⟨o3, k3⟩ := own_leaf o2 (hlen _) lf
  rw [getD_setH h i _ hi, setH_setH] at o3
  obtain ⟨o4, k4⟩ := own_row o3 (hlen _) B cb l hl hB
  rw [getD_setH h i _ hi, setH_setH] at o4
  exact ⟨o4, keep_trans (keep_trans (keep_trans k1 k2) k3) k4⟩
set_option maxHeartbeats 4000000 in
set_option maxRecDepth 100000 in
theorem allocOk_walk (A B D : Option Addr) (c cb d : Nat) (h : Hp) (n : Nd) (held : List Int) (w0 w : World) (hr0 : kCl.C w0 A h.c.length h.c) (hb0 : Below w0.heap.size w0 w) (hcc : h.c.length ≤ c) (hl : h.c.length ≤ 2000) (hn0 : kIt.C w0 B n.it.length n.it) (hnb : n.it.length ≤ cb) (hd : (Kd.int .i64).C w D held.length held) (hnr : nodeRight n = true) (hld : leadsB h n = true) (p : Nat) (hp : p < h.c.length) (hix : idxI freeB h.c = (p : Int)) :
    Calls Try.prog 50 #[.agg #[.slice A h.c.length c, .int .i64 h.keep], .agg #[.bool n.leaf, .slice B n.it.length cb], .slice D held.length d] w fun e w' => ∃ B' cb', e = .returned (.tuple #[.agg #[.slice B' (setH (if n.leaf then h else holdL h held n.it) (p : Int) ⟨1, false, n⟩).c.length cb', .int .i64 (setH (if n.leaf then h else holdL h held n.it) (p : Int) ⟨1, false, n⟩).keep], .int .i64 p, .int .i64 0]) ∧ (setH (if n.leaf then h else holdL h held n.it) (p : Int) ⟨1, false, n⟩).c.length ≤ cb' ∧ Lv w0 w w' B' (setH (if n.leaf then h else holdL h held n.it) (p : Int) ⟨1, false, n⟩).c ∧ Below w.heap.size w w' := by
  have hr := Kd.C_below hr0 hb0
  have hn := Kd.C_below hn0 hb0
  have HR0 := Aside0.mk (And.intro hr0 (And.intro hb0 hn0))
  clear hr0 hb0 hn0
  obtain ⟨lf, l⟩ := n
  show Calls Try.prog 50 #[.agg #[.slice A h.c.length c, .int .i64 h.keep], .agg #[.bool lf, .slice B l.length cb], .slice D held.length d] w fun e w' => ∃ B' cb', e = .returned (.tuple #[.agg #[.slice B' (setH (if lf then h else holdL h held l) (p : Int) ⟨1, false, ⟨lf, l⟩⟩).c.length cb', .int .i64 (setH (if lf then h else holdL h held l) (p : Int) ⟨1, false, ⟨lf, l⟩⟩).keep], .int .i64 p, .int .i64 0]) ∧ (setH (if lf then h else holdL h held l) (p : Int) ⟨1, false, ⟨lf, l⟩⟩).c.length ≤ cb' ∧ Lv w0 w w' B' (setH (if lf then h else holdL h held l) (p : Int) ⟨1, false, ⟨lf, l⟩⟩).c ∧ Below w.heap.size w w'
  replace hn : kIt.C w B l.length l := hn
  obtain ⟨W1, hW1⟩ : ∃ W1, W1 = ((((w.alloc (.cells #[.slice A h.c.length c, .int .i64 h.keep] 24)).alloc (.cells #[.bool lf, .slice B l.length cb] 77)).alloc (.cells #[.slice D held.length d] 41)).alloc (.cells #[.slice none 0 0, .int .i64 0] 24)) := ⟨_, rfl⟩
  have S1 := Aside0.mk (show AlSt w W1 A B D c cb d h lf l.length held.length by rw [hW1]; exact alst _ _ _ _ _ _ _ _ _ _ _)
  have HNR := Aside0.mk (fun (W : World) (hb : Below w.heap.size w W) => by have := nodeRight_walk B cb ⟨lf, l⟩ W (Kd.C_below hn hb); rw [hnr] at this; exact this)
  have HLD := Aside0.mk (fun (W : World) (hb : Below w.heap.size w W) => by have := leads_walk A B c cb h ⟨lf, l⟩ W (Kd.C_below hr hb) (Kd.C_below hn hb); rw [hld] at this; exact this)
  have HRC := Aside0.mk (And.intro hcc hr)
  have hW1' := Aside0.mk hW1
  have n0 := (blk_cell S1.out.bn 0).trans (show _ = some (Value.bool lf) from rfl)
  have n1 := (blk_cell S1.out.bn 1).trans (show _ = some (Value.slice B l.length cb) from rfl)
  have c0 := (blk_cell S1.out.bh 0).trans (show _ = some (Value.slice A h.c.length c) from rfl)
  have c1 := (blk_cell S1.out.bh 1).trans (show _ = some (Value.int .i64 h.keep) from rfl)
  have HIX := Aside0.mk (fun (W : World) (hb : Below w.heap.size w W) => show Calls Try.prog 82 #[.slice A h.c.length c, .func (.func 83) #[] #[]] W fun e w' => e = .returned (.int .i64 p) ∧ Below W.heap.size W w' by have := idxCl_walk 83 (enters_of Try.func83 (by kernel_rfl) rfl) freeB A c h.c W (Kd.C_below hr hb) isFree_cl; rw [hix] at this; exact this)
  have HN := Aside0.mk hn
  have HD := Aside0.mk hd
  have HLD2 := Aside0.mk hld
  obtain ⟨hF, hhF⟩ : ∃ hF, hF = setH (if lf = true then h else holdL h held l) (p : Int) ⟨1, false, ⟨lf, l⟩⟩ := ⟨_, rfl⟩
  rw [← hhF]
  have HHF := Aside0.mk hhF
  clear hhF
  have HL := Aside0.mk (And.intro hl (And.intro hnb hp))
  have dd0 := S1.out.bd
  have HDD := Aside0.mk dd0
  clear hr hn hcc hW1 hnr hld hix hd hnb hl dd0
  have q1 : ((p : Int) < 0) = False := eq_false (by omega)
  have q2 : decide ((p : Int) < 0) = false := decide_eq_false (by omega)
  clear hp
  go_enter Try.func50, Try.ntmps50
  go_upto_region 1 with (fail)
  rw [← hW1'.out]
  go_upto_region 7 with (first | (go_at_call 80; (with_reducible refine (HNR.out _ S1.out.b0).mono ?_); rintro e w2 ⟨rfl, hb2⟩; have S2 := Aside0.mk (S1.out.step hb2); have d0 := bcell hb2 c0; have d1 := bcell hb2 c1; have m0 := bcell hb2 n0; have m1 := bcell hb2 n1; clear hb2) | (go_at_call 81; (with_reducible refine (HLD.out _ S2.out.b0).mono ?_); rintro e w3 ⟨rfl, hb3⟩; have S3 := Aside0.mk (S2.out.step hb3); have g0 := bcell hb3 d0; have g1 := bcell hb3 d1; have p0 := bcell hb3 m0; have p1 := bcell hb3 m1; clear hb3) | (go_at_call 82; (with_reducible refine (HIX.out _ S3.out.b0).mono ?_); rintro e w4 ⟨rfl, hb4⟩; have S4 := Aside0.mk (S3.out.step hb4); have j0 := bcell hb4 g0; have j1 := bcell hb4 g1; have k0 := bcell hb4 p0; have k1 := bcell hb4 p1; clear hb4) | (go_at_call 84; (with_reducible refine (own_walk A c h w0 _ HR0.out.1 (below_step HR0.out.2.1 S4.out.b0) (by have := HL.out.2.2; omega) HL.out.1).mono ?_); rintro e w5 ⟨b, g, cap, rfl, hos, hb5, hbb, hbg⟩; have HOS := Aside0.mk hos; have S5 := Aside0.mk (S4.out.step hb5); have HGG := Aside0.mk (And.intro hbb hbg); have r0 := bcell hb5 k0; have r1 := bcell hb5 k1; clear hos hb5 hbb hbg) | fail)
  obtain ⟨W6, hW6⟩ : ∃ W6, W6 = w5.alloc (.cells #[.pointer (some ⟨b, 0, none⟩)] 122) := ⟨_, rfl⟩
  have hb6 : Below w5.heap.size w5 W6 := by rw [hW6]; exact below_alloc (Below.refl _ _) _
  have HBW := Aside0.mk (show W6.heap[w5.heap.size]? = some (.cells #[.pointer (some ⟨b, 0, none⟩)] 122) by rw [hW6]; exact blk_new _ _)
  have S6 := Aside0.mk (S5.out.step hb6)
  have HO6 := Aside0.mk (OwnS_below HOS.out hb6)
  have t0 := (blk_cell HBW.out 0).trans (show _ = some (Value.pointer (some ⟨b, 0, none⟩)) from rfl)
  have t1 := bcell hb6 r0
  have t2 := bcell hb6 r1
  have hgs : w.heap.size + 4 ≤ g ∧ g < w5.heap.size := ⟨by have := blk_lt S4.out.br; have := HGG.out.2; omega, by obtain ⟨rc, k1, k2, k3, k4, k5, k6⟩ := HOS.out; exact Kd.R_lt k2 g rfl⟩
  have HGS := Aside0.mk hgs
  have hW6' := Aside0.mk hW6
  clear hb6 hgs hW6
  rw [← hW6'.out]
  have HEA := Aside0.mk (each_walk (fun k W => ∃ hk, (lf = true → hk = h) ∧ hk.c.length = h.c.length ∧ (lf = false → holdL hk held (l.drop k) = holdL h held l) ∧ OwnS w0 W b g cap hk ∧ KeepBut W6 W g none) 86 #[] #[.pointer (some ⟨w.heap.size + 1 + 1, 0, none⟩), .pointer (some ⟨w5.heap.size, 0, none⟩)] (enters_of Try.func86 (by kernel_rfl) rfl) (.pointer (some ⟨b, 0, none⟩)) B cb lf l W6
    (by
      rintro hlf k W hk ⟨hi, z1, z2, z3, z4, z5⟩
      have hin : inB hi (itAt l k).v = true := by
        have hu := HLD2.out
        rw [hlf] at hu
        unfold leadsB at hu
        rw [Bool.false_or] at hu
        have hx := List.all_eq_true.1 hu (itAt l k) (by unfold itAt; rw [List.getD_eq_getElem?_getD, List.getElem?_eq_getElem hk]; exact List.getElem_mem hk)
        unfold usedB at hx
        rw [Bool.and_eq_true] at hx
        have hx := hx.1
        unfold inB at hx ⊢
        rw [z2]
        exact hx
      obtain ⟨rc, _, _, _, hbl0, _⟩ := id z4
      have hbl : Below w.heap.size w W := below_mix HR0.out.2.1 hbl0 S6.out.b0 z5 (by have := HGS.out.1; omega)
      refine (alloc1_walk (itAt l k).v D d held (w.heap.size + 1 + 1) w5.heap.size z4 hin (Kd.C_below HD.out hbl) ((z5.2 _ (blk_lt S6.out.bd) (by have := HGS.out.1; omega) (by simp)).trans S6.out.bd) ((z5.2 _ (blk_lt HBW.out) (by have := HGS.out.2; omega) (by simp)).trans HBW.out)).mono ?_
      rintro e W' ⟨hv, ho', hk'⟩
      refine ⟨hv, _, (fun h => by rw [hlf] at h; cases h), ?_, fun _ => ?_, ho', keep_trans z5 hk'⟩
      · split
        · exact z2
        · rw [show (moreH hi (itAt l k).v).c.length = hi.c.length by unfold moreH setH; simp]; exact z2
      · rw [← z3 hlf, drop_succ zIt l k hk]
        rfl)
    (by rintro k W ⟨hi, _, _, _, hos, _⟩; obtain ⟨rc, _, _, _, h4, _⟩ := hos; exact Kd.C_below HR0.out.2.2 h4)
    (by rintro k W o ⟨hi, h1, h2, h3, hos, hkb⟩; exact ⟨hi, h1, h2, h3, OwnS_alloc hos o, keep_al hkb o⟩)
    ⟨h, fun _ => rfl, rfl, fun _ => rfl, HO6.out, KeepBut.refl _ _ _⟩)
  go_upto_region 8 with (first | (go_at_call 85; (with_reducible refine HEA.out.mono ?_); rintro e w7 ⟨⟨v, rfl⟩, hs⟩; have HS := Aside0.mk hs; clear hs) | fail)
  obtain ⟨h2, z1, z2, z3, z4, z5⟩ := HS.out
  have hh2 : (if lf = true then h else holdL h held l) = h2 := by
    cases lf with
    | true => rw [if_pos rfl]; exact (z1 rfl).symm
    | false =>
      rw [if_neg (by decide), ← z3 rfl, if_neg (by decide), List.drop_eq_nil_of_le (Nat.le_refl _)]
      rfl
  have HH2 := Aside0.mk hh2
  have hbl : Below w.heap.size w w7 := by obtain ⟨rc, _, _, _, hb, _⟩ := z4; exact below_mix HR0.out.2.1 hb S6.out.b0 z5 (by have := HGS.out.1; omega)
  have S7 := Aside0.mk (S6.out.keep HGS.out.1 z5 hbl)
  have HO7 := Aside0.mk z4
  have hbw := (z5.2 _ (blk_lt HBW.out) (by have := HGS.out.2; omega) (by simp)).trans HBW.out
  have HBW7 := Aside0.mk hbw
  have hp2 : p < h2.c.length := by rw [z2]; exact HL.out.2.2
  have HP2 := Aside0.mk hp2
  have HZ2 := Aside0.mk z2
  have s0 := (blk_cell hbw 0).trans (show _ = some (Value.pointer (some ⟨b, 0, none⟩)) from rfl)
  have s1 := (blk_cell S7.out.bn 0).trans (show _ = some (Value.bool lf) from rfl)
  have s2 := (blk_cell S7.out.bn 1).trans (show _ = some (Value.slice B l.length cb) from rfl)
  obtain ⟨B2, cb2, y0, y1, y2, y3, _, y4, y5, y6, y7, y8, y9, _⟩ := own_cells z4 hp2
  have q3 : (p < h2.c.length) = True := eq_true hp2
  clear z1 z2 z3 z4 z5 hh2 hbl hbw hp2 c0 c1 d0 d1 g0 g1 j0 j1 k0 k1 m0 m1 n0 n1 p0 p1 r0 r1 t0 t1 t2
  go_still_tail 9, (by kernel_rfl)
  obtain ⟨W8, hW8⟩ : ∃ W8, W8 = ({ heap := w7.heap, tape := w7.tape, drawn := w7.drawn + 1, os := w7.os, output := w7.output } : World) := ⟨_, rfl⟩
  have hd8 : W8 = w7.drewN 1 := by rw [hW8]; rfl
  rw [← hW8]
  have x0 : W8.frozen? ⟨g, p * 4, none⟩ = false := by rw [hW8]; exact y4
  have x1 : W8.frozen? ⟨g, p * 4 + 1, none⟩ = false := by rw [hW8]; exact y5
  have x2 : W8.frozen? ⟨g, p * 4 + 2, none⟩ = false := by rw [hW8]; exact y6
  have x3 : W8.frozen? ⟨g, p * 4 + 2 + 1, none⟩ = false := by rw [hW8]; exact y7
  have v0 : W8.cell? ⟨g, p * 4, none⟩ = some (.int .i64 (h2.c.getD p zCl).ref) := by rw [hW8]; exact y0
  have v1 : W8.cell? ⟨g, p * 4 + 1, none⟩ = some (.bool (h2.c.getD p zCl).pin) := by rw [hW8]; exact y1
  have v2 : W8.cell? ⟨g, p * 4 + 2, none⟩ = some (.bool (h2.c.getD p zCl).n.leaf) := by rw [hW8]; exact y2
  have v3 : W8.cell? ⟨g, p * 4 + 2 + 1, none⟩ = some (.slice B2 (h2.c.getD p zCl).n.it.length cb2) := by rw [hW8]; exact y3
  have ho8 : OwnS w0 W8 b g cap h2 := by rw [hd8]; exact OwnS_drew HO7.out 1
  have hp4 := own_put4 ho8 HP2.out 1 false lf B cb l HL.out.2.1 HR0.out.2.2
  have hb78 : Below w7.heap.size w7 W8 := by rw [hd8]; exact pw_below_drewN (Below.refl _ _) 1
  have S8 := Aside0.mk (S7.out.step hb78)
  have HBW8 := Aside0.mk (blk_below HBW7.out hb78)
  obtain ⟨W9, hW9⟩ : ∃ W9, W9 = ((((W8.setCell ⟨g, p * 4, none⟩ (.int .i64 1)).setCell ⟨g, p * 4 + 1, none⟩ (.bool false)).setCell ⟨g, p * 4 + 2, none⟩ (.bool lf)).setCell ⟨g, p * 4 + 2 + 1, none⟩ (.slice B l.length cb)) := ⟨_, rfl⟩
  rw [← hW9] at hp4
  have HP4 := Aside0.mk hp4
  have hW9' := Aside0.mk hW9
  have hlen9 : (setH h2 (p : Int) ⟨1, false, ⟨lf, l⟩⟩).c.length = h2.c.length := by unfold setH; simp
  have HLEN := Aside0.mk hlen9
  clear hW8 hd8 y0 y1 y2 y3 y4 y5 y6 y7 y8 y9 s0 s1 s2 ho8 hp4 hb78 hW9 hlen9
  go_upto_region 9 with (fail)
  rw [← hW9'.out]
  have hbl9 : Below w.heap.size w W9 := by obtain ⟨rc, _, _, _, hb, _⟩ := HP4.out.1; exact below_mix HR0.out.2.1 hb S8.out.b0 HP4.out.2 (by have := HGS.out.1; omega)
  have S9 := Aside0.mk (S8.out.keep HGS.out.1 HP4.out.2 hbl9)
  have hbw9 := (HP4.out.2.2 _ (blk_lt HBW8.out) (by have := HGS.out.2; omega) (by simp)).trans HBW8.out
  have s0 := (blk_cell hbw9 0).trans (show _ = some (Value.pointer (some ⟨b, 0, none⟩)) from rfl)
  obtain ⟨k1, k2, k3⟩ := own_reads HP4.out.1
  have KK := Aside0.mk (And.intro k1 k2)
  have s1 := (blk_cell k3 0).trans (show _ = some (Value.slice (some ⟨g, 0, none⟩) (setH h2 (p : Int) ⟨1, false, ⟨lf, l⟩⟩).c.length cap) from rfl)
  have s2 := (blk_cell k3 1).trans (show _ = some (Value.int .i64 (setH h2 (p : Int) ⟨1, false, ⟨lf, l⟩⟩).keep) from rfl)
  have e0 := (blk_cell S9.out.br 0).trans (show _ = some (Value.slice none 0 0) from rfl)
  have e1 := (blk_cell S9.out.br 1).trans (show _ = some (Value.int .i64 0) from rfl)
  have f0 := blk_frozen S9.out.br 0
  have f1 := blk_frozen S9.out.br 1
  have HBL9 := Aside0.mk hbl9
  clear hbw9 k1 k2 k3 x0 x1 x2 x3 v0 v1 v2 v3 hbl9
  have hh3 : hF = setH h2 (p : Int) ⟨1, false, ⟨lf, l⟩⟩ := by rw [HHF.out, HH2.out]
  rw [← hh3] at s1 s2 KK
  have hoo := HP4.out.1
  rw [← hh3] at hoo
  have OO := Aside0.mk hoo
  clear hh3 hoo
  go_wp2
  refine bodyPost_ret (results_ctt rfl _ _ (w.heap.size + 1 + 1 + 1) 24 #[.slice (some ⟨g, 0, none⟩) hF.c.length cap, .int .i64 hF.keep] (0, 0) _ rfl (hb_store S9.out.br) Try.underlying24 rfl (by kernel_rfl)) rfl ?_
  exact ⟨some ⟨g, 0, none⟩, cap, rfl, KK.out.2, (fun W' hk => own_lv (own_set (own_set OO.out S9.out.br (by have := HR0.out.2.1.size; omega) 0 _) (blk_put S9.out.br 0 _ rfl) (by have := HR0.out.2.1.size; omega) 1 _) (fun hy => by have h1 := HGS.out.1; have h2 := hy.2; omega) (fun _ hy => hy.1) hk), below_set (below_set HBL9.out (by omega)) (by omega)⟩
end Go.Proofs.Ytopkoganfnabgaa.H
namespace Go.Proofs.Ytopkoganfnabgaa.H
open Go.RowKit Go.Proofs.YtopkoganfnabgaaW.PrintWords Go.Proofs.YtopkoganfnabgaaW.PrintLast Go.Proofs.YtopkoganfnabgaaW.PrintMore
attribute [local go_sem] max2_int min2_int max_two min_two max_three min_three max_four min_four
set_option linter.unusedVariables false
set_option linter.unusedSimpArgs false
theorem tw_any {α : Type} (p : α → Bool) : ∀ (l : List α), (l.any p = true ∧ (l.takeWhile fun x => !p x).length < l.length) ∨ (l.any p = false ∧ (l.takeWhile fun x => !p x).length = l.length)
  | [] => Or.inr ⟨rfl, rfl⟩
  | a :: l => by
    cases h : p a with
    | true => left; simp [h, List.takeWhile_cons]
    | false =>
      rcases tw_any p l with ⟨h1, h2⟩ | ⟨h1, h2⟩
      · left; refine ⟨by simp [h1], ?_⟩; rw [List.takeWhile_cons, h]; simp only [Bool.not_false, if_true, List.length_cons]; omega
      · right; refine ⟨?_, ?_⟩
        · rw [List.any_cons, h, h1]; rfl
        · rw [List.takeWhile_cons, h]; simp only [Bool.not_false, if_true, List.length_cons]; omega
/-- heap.Alloc. -/
theorem heapAlloc_walk (A B D : Option Addr) (c cb d : Nat) (h h' : Hp) (n : Nd) (held : List Int) (p er : Int) (w0 w : World) (hr0 : kCl.C w0 A h.c.length h.c) (hb0 : Below w0.heap.size w0 w) (hcc : h.c.length ≤ c) (hn0 : kIt.C w0 B n.it.length n.it) (hnb : n.it.length ≤ cb) (hd : (Kd.int .i64).C w D held.length held) (e : allocO h n held = some (h', p, er)) :
    Calls Try.prog 50 #[.agg #[.slice A h.c.length c, .int .i64 h.keep], .agg #[.bool n.leaf, .slice B n.it.length cb], .slice D held.length d] w fun e w' => ∃ B' cb', e = .returned (.tuple #[.agg #[.slice B' h'.c.length cb', .int .i64 h'.keep], .int .i64 p, .int .i64 er]) ∧ h'.c.length ≤ cb' ∧ Lv w0 w w' B' h'.c ∧ Below w.heap.size w w' := by
  unfold allocO at e
  split at e
  · rename_i hl
    split at e
    · rename_i hg
      rw [Bool.and_eq_true] at hg
      split at e
      · rcases tw_any freeB h.c with ⟨h1, h2⟩ | ⟨h1, h2⟩
        · have hf : firstH h < h.c.length := h2
          rw [if_pos hf] at e
          simp only [Option.some.injEq, Prod.mk.injEq] at e
          obtain ⟨e1, e2, e3⟩ := e
          subst e1 e2 e3
          exact allocOk_walk A B D c cb d h n held w0 w hr0 hb0 hcc hl hn0 hnb hd hg.1 hg.2 (firstH h) hf (by unfold idxI; rw [if_pos h1]; rfl)
        · have hf : ¬ firstH h < h.c.length := by have : firstH h = h.c.length := h2; omega
          rw [if_neg hf] at e
          simp only [Option.some.injEq, Prod.mk.injEq] at e
          obtain ⟨e1, e2, e3⟩ := e
          subst e1 e2 e3
          exact allocFull_walk A B D c cb d h n held w0 w hr0 hb0 hcc (Kd.C_below hn0 hb0) hg.1 hg.2 (by unfold idxI; rw [h1]; rfl)
      · cases e
    · rename_i hg
      simp only [Option.some.injEq, Prod.mk.injEq] at e
      obtain ⟨e1, e2, e3⟩ := e
      subst e1 e2 e3
      exact allocArg_walk A B D c cb d h n held w0 w hr0 hb0 hcc (Kd.C_below hn0 hb0) (by simpa using hg)
  · cases e
end Go.Proofs.Ytopkoganfnabgaa.H
namespace Go.Proofs.Ytopkoganfnabgaa.H
open Go.RowKit Go.Proofs.YtopkoganfnabgaaW.PrintWords Go.Proofs.YtopkoganfnabgaaW.PrintLast Go.Proofs.YtopkoganfnabgaaW.PrintMore
attribute [local go_sem] max2_int min2_int max_two min_two max_three min_three max_four min_four
set_option linter.unusedVariables false
set_option linter.unusedSimpArgs false
/-- A heap's cells whose nodes lie in w0 and whose row lives through what is written to the blocks of a that w0 has not. -/
def Ls (w0 a w : World) (A : Option Addr) (l : List Cl) : Prop := ∃ rc, (∀ W', Kept w W' (Yg w0 a) → kRw.C W' A l.length rc) ∧ CellsC w0 rc l ∧ Below w0.heap.size w0 w
theorem Ls.lv {w0 a w : World} {A : Option Addr} {l : List Cl} (h : Ls w0 a w A l) : Lv w0 a w A l := by
  obtain ⟨rc, h1, h2, h3⟩ := h
  intro W' hk
  refine cl_of_rw (h1 W' hk) ⟨h2.1, fun i hi => ?_⟩
  obtain ⟨e1, e2, e3, e4, e5, e6⟩ := h2.2 i hi
  exact ⟨e1, e2, e3, e4, e5, it_lv e6 h3 (fun _ hs => hs.1) hk⟩
theorem Ls.now {w0 a w : World} {A : Option Addr} {l : List Cl} (h : Ls w0 a w A l) : kCl.C w A l.length l := h.lv.now
theorem Ls.below {w0 a w W : World} {A : Option Addr} {l : List Cl} (h : Ls w0 a w A l) (hb : Below w.heap.size w W) : Ls w0 a W A l := by
  obtain ⟨rc, h1, h2, h3⟩ := h
  exact ⟨rc, fun W' hk => h1 W' ((Kept.of_below hb _).then_ hk (fun _ hy => Or.inl hy)), h2, below_step h3 hb⟩
theorem rw_keep {w W : World} {g n : Nat} {A : Option Addr} {l : List Rw} (h1 : kRw.C w A n l) (hb : Hb w g) (hk : KeepBut w W g none) : kRw.C W A n l := by
  refine Kd.C_foot_ne (g := g) (d := kRw) (fun h => h) h1 ?_ W hk
  intro ad e hn he
  obtain ⟨ad', e1, c0, c1, _⟩ := at_rw h1 0 hn
  cases e.symm.trans e1
  exact Hb_cell hb (ad.add (0 * 4)) _ _ he c0 c1
theorem Ls.hb {w0 a w W : World} {A : Option Addr} {l : List Cl} {g : Nat} (h : Ls w0 a w A l) (hH : Hb w g) (hk : KeepBut w W g none) (hbl : Below w0.heap.size w0 W) : Ls w0 a W A l := by
  obtain ⟨rc, h1, h2, h3⟩ := h
  refine ⟨rc, fun W' hk' => ?_, h2, hbl⟩
  by_cases hy : Yg w0 a g
  · refine h1 W' ⟨Nat.le_trans hk.1 hk'.1, fun i hi hn => ?_⟩
    exact (hk'.2 i (Nat.lt_of_lt_of_le hi hk.1) hn).trans (hk.2 i hi (fun e => hn (e ▸ hy)) (by simp))
  · obtain ⟨X, p, q, k, t, ho⟩ := hH
    have hg2 := blk_lt ho
    have hgW : g < W'.heap.size := Nat.lt_of_lt_of_le hg2 (Nat.le_trans hk.1 hk'.1)
    have hV : ({ W' with heap := W'.heap.setIfInBounds g (.cells #[.slice X p q, .int .i64 k] t (0, 0)) } : World).heap[g]? = some (.cells #[.slice X p q, .int .i64 k] t (0, 0)) := by
      simp [hgW]
    have hO : ∀ i, i ≠ g → ({ W' with heap := W'.heap.setIfInBounds g (.cells #[.slice X p q, .int .i64 k] t (0, 0)) } : World).heap[i]? = W'.heap[i]? := by
      intro i hi
      simp [Array.getElem?_setIfInBounds, Ne.symm hi]
    have hsz : ({ W' with heap := W'.heap.setIfInBounds g (.cells #[.slice X p q, .int .i64 k] t (0, 0)) } : World).heap.size = W'.heap.size := by simp
    generalize ({ W' with heap := W'.heap.setIfInBounds g (.cells #[.slice X p q, .int .i64 k] t (0, 0)) } : World) = V at hV hO hsz
    have hC := h1 V ⟨by rw [hsz]; exact Nat.le_trans hk.1 hk'.1, fun i hi hn => by
      by_cases e : i = g
      · rw [e, hV, ho]
      · rw [hO i e, hk'.2 i (Nat.lt_of_lt_of_le hi hk.1) hn, hk.2 i hi e (by simp)]⟩
    exact rw_keep hC ⟨X, p, q, k, t, hV⟩ ⟨by rw [hsz]; exact Nat.le_refl _, fun i hi hn _ => (hO i hn).symm⟩
end Go.Proofs.Ytopkoganfnabgaa.H
namespace Go.Proofs.Ytopkoganfnabgaa.H
open Go.RowKit Go.Proofs.YtopkoganfnabgaaW.PrintWords Go.Proofs.YtopkoganfnabgaaW.PrintLast Go.Proofs.YtopkoganfnabgaaW.PrintMore
attribute [local go_sem] max2_int min2_int max_two min_two max_three min_three max_four min_four
set_option linter.unusedVariables false
set_option linter.unusedSimpArgs false
end Go.Proofs.Ytopkoganfnabgaa.H
namespace Go.Proofs.Ytopkoganfnabgaa.H
open Go.RowKit Go.Proofs.YtopkoganfnabgaaW.PrintWords Go.Proofs.YtopkoganfnabgaaW.PrintLast Go.Proofs.YtopkoganfnabgaaW.PrintMore
attribute [local go_sem] max2_int min2_int max_two min_two max_three min_three max_four min_four
set_option linter.unusedVariables false
set_option linter.unusedSimpArgs false
end Go.Proofs.Ytopkoganfnabgaa.H
namespace Go.Proofs.Ytopkoganfnabgaa.H
open Go.RowKit Go.Proofs.YtopkoganfnabgaaW.PrintWords Go.Proofs.YtopkoganfnabgaaW.PrintLast Go.Proofs.YtopkoganfnabgaaW.PrintMore
attribute [local go_sem] max2_int min2_int max_two min_two max_three min_three max_four min_four
set_option linter.unusedVariables false
set_option linter.unusedSimpArgs false
/-- What the reference's Alloc finds. -/
structure RaSt (w W1 : World) (A B : Option Addr) (c cb : Nat) (h : Hp) (lf : Bool) (n : Nat) : Prop where
  b0 : Below w.heap.size w W1
  bh : W1.heap[w.heap.size]? = some (.cells #[.slice A h.c.length c, .int .i64 h.keep] 24 (0, 0))
  bn : W1.heap[w.heap.size + 1]? = some (.cells #[.bool lf, .slice B n cb] 77 (0, 0))
  br : W1.heap[w.heap.size + 1 + 1]? = some (.cells #[.slice none 0 0, .int .i64 0] 24 (0, 0))
theorem RaSt.step {w W1 W2 : World} {A B : Option Addr} {c cb : Nat} {h : Hp} {lf : Bool} {n : Nat} (s : RaSt w W1 A B c cb h lf n) (hb : Below W1.heap.size W1 W2) : RaSt w W2 A B c cb h lf n := ⟨below_step s.b0 hb, blk_below s.bh hb, blk_below s.bn hb, blk_below s.br hb⟩
end Go.Proofs.Ytopkoganfnabgaa.H
namespace Go.Proofs.Ytopkoganfnabgaa.H
open Go.RowKit Go.Proofs.YtopkoganfnabgaaW.PrintWords Go.Proofs.YtopkoganfnabgaaW.PrintLast Go.Proofs.YtopkoganfnabgaaW.PrintMore
attribute [local go_sem] max2_int min2_int max_two min_two max_three min_three max_four min_four
set_option linter.unusedVariables false
set_option linter.unusedSimpArgs false
end Go.Proofs.Ytopkoganfnabgaa.H
namespace Go.Proofs.Ytopkoganfnabgaa.H
open Go.RowKit Go.Proofs.YtopkoganfnabgaaW.PrintWords Go.Proofs.YtopkoganfnabgaaW.PrintLast Go.Proofs.YtopkoganfnabgaaW.PrintMore
attribute [local go_sem] max2_int min2_int max_two min_two max_three min_three max_four min_four
set_option linter.unusedVariables false
set_option linter.unusedSimpArgs false
end Go.Proofs.Ytopkoganfnabgaa.H
namespace Go.Proofs.Ytopkoganfnabgaa.H
open Go.RowKit Go.Proofs.YtopkoganfnabgaaW.PrintWords Go.Proofs.YtopkoganfnabgaaW.PrintLast Go.Proofs.YtopkoganfnabgaaW.PrintMore
attribute [local go_sem] max2_int min2_int max_two min_two max_three min_three max_four min_four
set_option linter.unusedVariables false
set_option linter.unusedSimpArgs false
theorem zint_M (w : World) (base : Nat) (ok : Nat → Prop) : (Kd.int .i64).M w base ok 0 (Value.int .i64 0).cells.toList := rfl
theorem vL_len (l : List It) : (vL l).length = l.length := by unfold vL; simp
theorem vL_get (l : List It) (i : Nat) (hi : i < l.length) : (vL l)[i]? = some (itAt l i).v := by
  unfold vL itAt
  rw [List.getElem?_map, List.getD_eq_getElem?_getD, List.getElem?_eq_getElem hi]
  rfl
set_option maxHeartbeats 4000000 in
set_option maxRecDepth 100000 in
/-- grow.places: what items tell. -/
theorem growPlaces_walk (B : Option Addr) (cb : Nat) (l : List It) (w : World) (hn : kIt.C w B l.length l) (hl : l.length ≤ 1000) :
    Calls Try.prog 51 #[.slice B l.length cb] w fun e w' => ∃ D d, e = .returned (.slice D (vL l).length d) ∧ (∀ W', Kept w' W' (fun k => k < w.heap.size) → (Kd.int .i64).C W' D (vL l).length (vL l)) ∧ Below w.heap.size w w' := by
  have HN := Aside0.mk hn
  have HL := Aside0.mk hl
  clear hn hl
  go_enter Try.func51, Try.ntmps51
  go_upto_region 2 with (first | ((with_reducible refine gate_dst (N := 8) rfl ?_); refine Kd.R_make (Kd.int .i64) w.heap.size 3 rfl (N := 8) rfl 41 _ _ rfl (l.length : Int) rfl rfl Try.underlying41 (.int .i64 0) 8 info_int rfl (by decide) (by decide) 0 (ok := fun k => w.heap.size ≤ k) (okp := fun _ => False) (zint_M _ _ _) (fun _ h => h.elim) (Nat.le_refl _) (by omega) (by have := HL.out; rw [Int.toNat_natCast]; omega) (Below.refl _ _) (Nat.le_refl _) ?_; intro v1 w5 ho hb hg hat; have HO5 := Aside0.mk ho; have HB5 := Aside0.mk hb; clear ho hb hg hat) | fail)
  have ho := HO5.out
  rw [Int.toNat_natCast] at ho
  obtain ⟨D, d, rfl⟩ := Kd.R_slice ho
  rw [List.length_replicate] at ho ⊢
  have HO6 := Aside0.mk ho
  clear ho HO5
  go_wp2
  go_loopg [11] l.length (fun g s11 wr => ∃ (k : Nat) (xs : List Int), s11 = .int .i64 k ∧ k + g = l.length ∧ xs.length = l.length ∧ Aside0 (∀ i, i < k → xs[i]? = some (itAt l i).v) ∧ Aside0 (Kd.R (Kd.int .i64) 3 wr w.heap.size (fun k => w.heap.size ≤ k) (.slice D l.length d) xs) ∧ Aside0 (Below w.heap.size w wr))
  case atStart => exact ⟨0, _, rfl, by omega, List.length_replicate, ⟨fun i h => by omega⟩, HO6, HB5⟩
  case round =>
    obtain ⟨k, xs, rfl, hk, hxl, HO, HR, HB⟩ := hrel
    by_cases hlt : k < l.length
    · have r1 : decide (k < l.length) = true := decide_eq_true hlt
      have r2 : (k < l.length) = True := eq_true hlt
      obtain ⟨g1, rfl⟩ : ∃ g1, gk = g1 + 1 := ⟨gk - 1, by omega⟩
      have hr := HR.out
      obtain ⟨g, cap, he, hg, hglt, cells, hcells⟩ := Kd.R_form hr (by omega)
      have he' := Value.slice.inj he
      obtain ⟨rfl, hll, rfl⟩ := he'
      clear hll
      obtain ⟨ad, rfl, x0, x1⟩ := at_it (Kd.C_below HN.out HB.out) k hlt
      obtain ⟨x, hx⟩ : ∃ x, x = itAt l k := ⟨_, rfl⟩
      obtain ⟨c, _, hM, hc, hf⟩ := Kd.R_elem (Kd.R_alloc hr (.cells #[.int .i64 x.k, .int .i64 x.v] 26)) 0 (k : Int) (by omega) (by omega)
      rw [Int.toNat_natCast] at hM hc hf
      have hM' : c = [Value.int .i64 (xs.getD k 0)] := hM
      subst hM'
      have y0 : (wr.alloc (.cells #[.int .i64 x.k, .int .i64 x.v] 26)).cell? ⟨g, k, none⟩ = some (.int .i64 (xs.getD k 0)) := by have := hc 0 _ rfl; rw [show (Kd.int IntKind.i64).sz = 1 from rfl, Nat.mul_one, Nat.add_zero] at this; exact this
      have f0 : (wr.alloc (.cells #[.int .i64 x.k, .int .i64 x.v] 26)).frozen? ⟨g, k, none⟩ = false := by have := hf 0; rw [show (Kd.int IntKind.i64).sz = 1 from rfl, Nat.mul_one, Nat.add_zero] at this; exact this
      obtain ⟨q, hq⟩ : ∃ q, q = xs.getD k 0 := ⟨_, rfl⟩
      rw [← hq] at y0
      rw [← hx] at x0 x1
      obtain ⟨W1, hW1⟩ : ∃ W1, W1 = wr.alloc (.cells #[.int .i64 x.k, .int .i64 x.v] 26) := ⟨_, rfl⟩
      have hb1 : Below w.heap.size w W1 := by rw [hW1]; exact below_alloc HB.out _
      have hr1 : Kd.R (Kd.int .i64) 3 W1 w.heap.size (fun k => w.heap.size ≤ k) (.slice (some ⟨g, 0, none⟩) xs.length d) xs := by rw [hxl, hW1]; exact Kd.R_alloc hr _
      have hput := Kd.R_put (enc := fun n => Value.int .i64 n) hr1 (k : Int) x.v
      rw [Int.toNat_natCast, hxl] at hput
      have HP := Aside0.mk hput
      have HG := Aside0.mk hg
      have HB1 := Aside0.mk hb1
      have hW1' := Aside0.mk hW1
      have HX := Aside0.mk hx
      have HK := Aside0.mk (And.intro hlt (And.intro hk hxl))
      have HW := Aside0.mk (show wrap64 ((k : Int) + 1) = ((k + 1 : Nat) : Int) by have := HL.out; unfold wrap64; omega)
      clear hx hlt hk hxl hq hr he hcells hglt hg hM hc hf hW1 hb1 hr1 hput
      go_wp2
      rw [← hW1'.out]
      go_roundg g1
      case measure => omega
      case rel => exact ⟨k + 1, xs.set k x.v, by rw [HW.out], by have := HK.out.2.1; omega, by rw [List.length_set]; exact HK.out.2.2, ⟨fun i hi => by
        rcases Nat.lt_or_ge i k with h | h
        · rw [List.getElem?_set_ne (by omega)]; exact HO.out i h
        · obtain rfl : i = k := (by omega)
          rw [List.getElem?_set_self (by have := HK.out; omega), ← HX.out]⟩, ⟨HP.out.1⟩, ⟨below_set HB1.out HG.out⟩⟩
    · have r1 : decide (k < l.length) = false := decide_eq_false hlt
      have r2 : (k < l.length) = False := eq_false hlt
      have hxs : xs = vL l := by
        apply List.ext_getElem?
        intro i
        by_cases hi : i < l.length
        · rw [HO.out i (by omega), vL_get l i hi]
        · rw [List.getElem?_eq_none (by omega), List.getElem?_eq_none (by rw [vL_len]; omega)]
      have hr := HR.out
      rw [hxs] at hr
      have HF := Aside0.mk (Kd.C_kept_own (S := fun k => k < w.heap.size) hr (fun k hk h => by omega))
      clear hlt hk hxs hr
      go_wp2
      go_ret
      exact ⟨D, d, by rw [vL_len]; rfl, (by rw [vL_len]; exact HF.out), HB.out⟩
end Go.Proofs.Ytopkoganfnabgaa.H
namespace Go.Proofs.Ytopkoganfnabgaa.H
open Go.RowKit Go.Proofs.YtopkoganfnabgaaW.PrintWords Go.Proofs.YtopkoganfnabgaaW.PrintLast Go.Proofs.YtopkoganfnabgaaW.PrintMore
attribute [local go_sem] max2_int min2_int max_two min_two max_three min_three max_four min_four
set_option linter.unusedVariables false
set_option linter.unusedSimpArgs false
end Go.Proofs.Ytopkoganfnabgaa.H
namespace Go.Proofs.Ytopkoganfnabgaa.H
open Go.RowKit Go.Proofs.YtopkoganfnabgaaW.PrintWords Go.Proofs.YtopkoganfnabgaaW.PrintLast Go.Proofs.YtopkoganfnabgaaW.PrintMore
attribute [local go_sem] max2_int min2_int max_two min_two max_three min_three max_four min_four
set_option linter.unusedVariables false
set_option linter.unusedSimpArgs false
/-- What the reference's Loose finds. -/
structure RlSt (w W1 : World) (A : Option Addr) (c : Nat) (h : Hp) : Prop where
  b0 : Below w.heap.size w W1
  bh : W1.heap[w.heap.size]? = some (.cells #[.slice A h.c.length c, .int .i64 h.keep] 24 (0, 0))
  br : W1.heap[w.heap.size + 1]? = some (.cells #[.slice none 0 0, .int .i64 0] 24 (0, 0))
  cl : kCl.C W1 A h.c.length h.c ∧ h.c.length ≤ c
theorem RlSt.step {w W1 W2 : World} {A : Option Addr} {c : Nat} {h : Hp} (s : RlSt w W1 A c h) (hb : Below W1.heap.size W1 W2) : RlSt w W2 A c h := ⟨below_step s.b0 hb, blk_below s.bh hb, blk_below s.br hb, Kd.C_below s.cl.1 hb, s.cl.2⟩
end Go.Proofs.Ytopkoganfnabgaa.H
namespace Go.Proofs.Ytopkoganfnabgaa.H
open Go.RowKit Go.Proofs.YtopkoganfnabgaaW.PrintWords Go.Proofs.YtopkoganfnabgaaW.PrintLast Go.Proofs.YtopkoganfnabgaaW.PrintMore
attribute [local go_sem] max2_int min2_int max_two min_two max_three min_three max_four min_four
set_option linter.unusedVariables false
set_option linter.unusedSimpArgs false
/-- Nothing but the heap differs. -/
def S3 (w W : World) : Prop := W.os = w.os ∧ W.tape = w.tape ∧ W.output = w.output
theorem S3.refl (w : World) : S3 w w := ⟨rfl, rfl, rfl⟩
theorem S3.below {B : Nat} {w W : World} (h : Below B w W) : S3 w W := ⟨h.os, h.tape, h.output⟩
theorem S3.trans {a b c : World} (h : S3 a b) (k : S3 b c) : S3 a c := ⟨k.1.trans h.1, k.2.1.trans h.2.1, k.2.2.trans h.2.2⟩
theorem S3.set {w W : World} (h : S3 w W) (p : Addr) (u : Value) : S3 w (W.setCell p u) := h
theorem S3.grown {w W : World} {row : Option Nat} (h : w.grownBy W row) : S3 w W := S3.below ((Below.refl 0 w).grown h (Nat.zero_le _) (fun k _ => Nat.zero_le _))
theorem keep_below {w W W2 : World} {b : Nat} (h : Below w.heap.size w W) (hk : KeepBut W W2 b none) (hs : S3 W W2) (hb : w.heap.size ≤ b) : Below w.heap.size w W2 :=
  ⟨hs.1.trans h.os, hs.2.1.trans h.tape, hs.2.2.trans h.output, Nat.le_trans h.size hk.1, fun i hi => (hk.2 i (Nat.lt_of_lt_of_le hi h.size) (by omega) (by simp)).trans (h.block i hi)⟩
set_option maxHeartbeats 4000000 in
set_option maxRecDepth 100000 in
/-- (*builder).lay: b is the builder's block. -/
theorem growLay_walk (A B D : Option Addr) (c cb d b : Nat) (h h' : Hp) (lf : Bool) (x : It) (l : List It) (held : List Int) (p er : Int) (w0 w : World) (hbb : w.heap[b]? = some (.cells #[.slice A h.c.length c, .int .i64 h.keep] 86 (0, 0))) (hr0 : kCl.C w0 A h.c.length h.c) (hb0 : Below w0.heap.size w0 w) (hcc : h.c.length ≤ c) (hn0 : kIt.C w0 B (x :: l).length (x :: l)) (hnb : (x :: l).length ≤ cb) (hd : (Kd.int .i64).C w D held.length held) (e : allocO h ⟨lf, x :: l⟩ held = some (h', p, er)) :
    Calls Try.prog 43 #[.pointer (some ⟨b, 0, none⟩), .agg #[.bool lf, .slice B (x :: l).length cb], .slice D held.length d] w fun e w' => e = .returned (.agg #[.int .i64 x.k, .int .i64 p]) ∧ (∃ A' c', w'.heap[b]? = some (.cells #[.slice A' h'.c.length c', .int .i64 h'.keep] 86 (0, 0)) ∧ h'.c.length ≤ c' ∧ Lv w0 w w' A' h'.c) ∧ KeepBut w w' b none ∧ S3 w w' := by
  obtain ⟨ll, hll⟩ : ∃ ll, ll = x :: l := ⟨_, rfl⟩
  have hx0 : itAt ll 0 = x := by rw [hll]; rfl
  have hl0 : 0 < ll.length := by rw [hll]; simp
  rw [← hll] at hn0 hnb e ⊢
  have hn := Kd.C_below hn0 hb0
  obtain ⟨W1, hW1⟩ : ∃ W1, W1 = (w.alloc (.cells #[.bool lf, .slice B ll.length cb] 77)).alloc (.cells #[.int .i64 0, .int .i64 0] 26) := ⟨_, rfl⟩
  have HB0 := Aside0.mk (show Below w.heap.size w W1 by rw [hW1]; exact below_alloc (below_alloc (Below.refl _ _) _) _)
  have HN1 := Aside0.mk (show W1.heap[w.heap.size]? = some (.cells #[.bool lf, .slice B ll.length cb] 77) by rw [hW1]; exact blk_alloc (blk_new w _) _)
  have HI1 := Aside0.mk (show W1.heap[w.heap.size + 1]? = some (.cells #[.int .i64 0, .int .i64 0] 26) by rw [hW1]; exact blk2 w _ _)
  have HBB := Aside0.mk (blk_below hbb HB0.out)
  have HAL := Aside0.mk (fun (W : World) (hb : Below w.heap.size w W) => show Calls Try.prog 50 #[.agg #[.slice A h.c.length c, .int .i64 h.keep], .agg #[.bool lf, .slice B ll.length cb], .slice D held.length d] W (fun e w' => ∃ B' cb', e = .returned (.tuple #[.agg #[.slice B' h'.c.length cb', .int .i64 h'.keep], .int .i64 p, .int .i64 er]) ∧ h'.c.length ≤ cb' ∧ Lv w0 W w' B' h'.c ∧ Below W.heap.size W w') from heapAlloc_walk A B D c cb d h h' ⟨lf, ll⟩ held p er w0 W hr0 (below_step hb0 hb) hcc hn0 hnb (Kd.C_below hd hb) e)
  obtain ⟨ad, hade, z0, _⟩ := at_it0 hn hl0
  subst hade
  rw [hx0] at z0
  have HNR := Aside0.mk hn
  have HX0 := Aside0.mk hx0
  have HL0 := Aside0.mk hl0
  have c0 := (blk_cell HBB.out 0).trans (show _ = some (Value.slice A h.c.length c) from rfl)
  have c1 := (blk_cell HBB.out 1).trans (show _ = some (Value.int .i64 h.keep) from rfl)
  have n0 := (blk_cell HN1.out 0).trans (show _ = some (Value.bool lf) from rfl)
  have n1 := (blk_cell HN1.out 1).trans (show _ = some (Value.slice (some ad) ll.length cb) from rfl)
  have hblt := blk_lt hbb
  have HBLT := Aside0.mk hblt
  have r1 : (0 < ll.length) = True := eq_true hl0
  have r2 : ((0 : Int) < (ll.length : Int)) = True := eq_true (by omega)
  have hW1' := Aside0.mk hW1
  have HB00 := Aside0.mk hb0
  clear hW1 hbb hr0 hb0 hn0 hn hd e hx0 hl0 z0 hll hblt hcc hnb
  go_enter Try.func43, Try.ntmps43
  go_upto_region 1 with (fail)
  rw [← hW1'.out]
  go_cut [7, 8] from 9 to 20 (fun v7 v8 wc => ∃ (XN : Nat) (A' : Option Addr) (c' : Nat), v7 = .pointer (some ⟨XN, 0, none⟩) ∧ v8 = .int .i64 p ∧ Aside0 (wc.heap[XN]? = some (.cells #[.slice A' h'.c.length c', .int .i64 h'.keep] 24)) ∧ Aside0 (h'.c.length ≤ c' ∧ XN ≠ b) ∧ Aside0 (Lv w0 W1 wc A' h'.c) ∧ Aside0 (Below W1.heap.size W1 wc))
  case first =>
    go_region_held3 (fun w' => w'.cell? ⟨b, 0, none⟩ = some (.slice A h.c.length c) ∧ w'.cell? ⟨b, 1, none⟩ = some (.int .i64 h.keep) ∧ w'.cell? ⟨w.heap.size, 0, none⟩ = some (.bool lf) ∧ w'.cell? ⟨w.heap.size, 1, none⟩ = some (.slice (some ad) ll.length cb)) (first | exact ⟨c0, c1, n0, n1⟩ | exact (fun (hb : Below W1.heap.size W1 _) => ⟨bcell hb c0, bcell hb c1, bcell hb n0, bcell hb n1⟩) (by repeat (first | (with_reducible exact Below.refl _ _) | (with_reducible refine below_alloc ?_ _) | (with_reducible refine below_drew1 ?_) | (with_reducible refine pw_below_drewN ?_ _) | (with_reducible exact HB2.out) | (with_reducible refine below_set ?_ (Nat.le_refl _))))) (first | (go_at_call 50; (with_reducible refine (HAL.out _ (below_step HB0.out (by repeat (first | (with_reducible exact Below.refl _ _) | (with_reducible refine below_alloc ?_ _) | (with_reducible refine below_drew1 ?_) | (with_reducible refine pw_below_drewN ?_ _) | fail)))).mono ?_); rintro e w2 ⟨A', c', rfl, hc', hs', hb2⟩; have HB2 := Aside0.mk (show Below W1.heap.size W1 w2 from below_step (by repeat (first | (with_reducible exact Below.refl _ _) | (with_reducible refine below_alloc ?_ _) | (with_reducible refine below_drew1 ?_) | (with_reducible refine pw_below_drewN ?_ _) | fail)) hb2); have HS2 := Aside0.mk hs'; have HC2 := Aside0.mk hc'; (first | (have qx := blk_below (blk_drew (blk_new W1 (.cells #[.slice none 0 0, .int .i64 0] 24))) hb2; have QX := Aside0.mk qx; have qx0 := (blk_cell qx 0).trans (show _ = some (Value.slice none 0 0) from rfl); have qx1 := (blk_cell qx 1).trans (show _ = some (Value.int .i64 0) from rfl); have qf0 := blk_frozen qx 0; have qf1 := blk_frozen qx 1; clear qx) | skip); clear hb2 hs' hc') | fail)
    · go_wp2
      go_meet
      case rel => exact ⟨w2.heap.size, A', c', rfl, rfl, ⟨blk_new _ _⟩, ⟨HC2.out, by have := blk_lt HBB.out; have := HB2.out.size; omega⟩, ⟨Lv_below (Lv_mono HS2.out (by simp)) (below_alloc (Below.refl _ _) _)⟩, ⟨below_alloc HB2.out _⟩⟩
    · go_wp2
      go_meet
      case rel => exact ⟨W1.heap.size, A', c', rfl, rfl, ⟨hb_store QX.out⟩, ⟨HC2.out, by have := blk_lt HBB.out; omega⟩, ⟨Lv_mono (Lv_set (Lv_set HS2.out (by have := HB00.out.size; have := HB0.out.size; show w0.heap.size ≤ W1.heap.size; omega) (by simp) _) (by have := HB00.out.size; have := HB0.out.size; show w0.heap.size ≤ W1.heap.size; omega) (by simp) _) (by simp)⟩, ⟨below_set (below_set HB2.out (Nat.le_refl _)) (Nat.le_refl _)⟩⟩
  case rest =>
    obtain ⟨XN, A', c', rfl, rfl, HXN, HC2, HS2, HB2⟩ := hcut
    have HBBc := Aside0.mk (blk_below HBB.out HB2.out)
    have HNc := Aside0.mk (blk_below HN1.out HB2.out)
    have HIc := Aside0.mk (blk_below HI1.out HB2.out)
    have d0 := (blk_cell HBBc.out 0).trans (show _ = some (Value.slice A h.c.length c) from rfl)
    have d1 := (blk_cell HBBc.out 1).trans (show _ = some (Value.int .i64 h.keep) from rfl)
    have x0 := (blk_cell HXN.out 0).trans (show _ = some (Value.slice A' h'.c.length c') from rfl)
    have x1 := (blk_cell HXN.out 1).trans (show _ = some (Value.int .i64 h'.keep) from rfl)
    have f0 := blk_frozen HBBc.out 0
    have f1 := blk_frozen HBBc.out 1
    obtain ⟨W3, hW3⟩ : ∃ W3, W3 = ((wc.setCell ⟨b, 0, none⟩ (.slice A' h'.c.length c')).setCell ⟨b, 1, none⟩ (.int .i64 h'.keep)) := ⟨_, rfl⟩
    have HBB3 := Aside0.mk (show W3.heap[b]? = some (.cells #[.slice A' h'.c.length c', .int .i64 h'.keep] 86) by rw [hW3]; exact hb_store HBBc.out)
    have HN3 := Aside0.mk (show W3.heap[w.heap.size]? = some (.cells #[.bool lf, .slice (some ad) ll.length cb] 77) by rw [hW3]; exact blk_far (blk_far HNc.out (by have := HBLT.out; show w.heap.size ≠ b; omega) _) (by have := HBLT.out; show w.heap.size ≠ b; omega) _)
    have HI3 := Aside0.mk (show W3.heap[w.heap.size + 1]? = some (.cells #[.int .i64 0, .int .i64 0] 26) by rw [hW3]; exact blk_far (blk_far HIc.out (by have := HBLT.out; show w.heap.size + 1 ≠ b; omega) _) (by have := HBLT.out; show w.heap.size + 1 ≠ b; omega) _)
    have hk3 : KeepBut wc W3 b none := by rw [hW3]; exact ((KeepBut.refl wc b none).set_ 0 _).set_ 1 _
    have HK3 := Aside0.mk hk3
    have HS3 := Aside0.mk (show S3 wc W3 by rw [hW3]; exact S3.set (S3.set (S3.refl _) _ _) _ _)
    have hrow := it_keep (Kd.C_below HNR.out (below_step HB0.out HB2.out)) (Hb_of HBBc.out) hk3
    obtain ⟨ad2, hade, z1, _⟩ := at_it0 hrow HL0.out
    cases hade
    rw [HX0.out] at z1
    have n3 := (blk_cell HN3.out 0).trans (show _ = some (Value.bool lf) from rfl)
    have n4 := (blk_cell HN3.out 1).trans (show _ = some (Value.slice (some ad) ll.length cb) from rfl)
    have i0 := (blk_cell HI3.out 0).trans (show _ = some (Value.int .i64 0) from rfl)
    have i1 := (blk_cell HI3.out 1).trans (show _ = some (Value.int .i64 0) from rfl)
    have f2 := blk_frozen HI3.out 0
    have f3 := blk_frozen HI3.out 1
    have hW3' := Aside0.mk hW3
    clear hk3 hrow hW3 c0 c1 n0 n1
    go_upto_region 3 with (fail)
    rw [← hW3'.out]
    clear d0 d1 x0 x1 f0 f1
    go_wp2
    refine bodyPost_ret (results_single rfl (.cell (w.heap.size + 1) 26 #[.int .i64 x.k, .int .i64 p] (0, 0) _ rfl (blk_put (blk_put HI3.out 0 _ rfl) 1 _ rfl) Try.underlying26 rfl (by kernel_rfl) .nil)) rfl ?_
    have hq : w.heap.size + 1 < W1.heap.size := blk_lt HI1.out
    refine ⟨rfl, ⟨A', c', blk_far (blk_far HBB3.out (by have := HBLT.out; show b ≠ w.heap.size + 1; omega) _) (by have := HBLT.out; show b ≠ w.heap.size + 1; omega) _, HC2.out.1, ?_⟩, ?_, ?_⟩
    · exact Lv_mono (Lv_set (Lv_set (Lv_hb HS2.out (Hb_of HBBc.out) HK3.out) (by have := HB00.out.size; show w0.heap.size ≤ w.heap.size + 1; omega) hq _) (by have := HB00.out.size; show w0.heap.size ≤ w.heap.size + 1; omega) hq _) HB0.out.size
    · exact keep_far (keep_far (keep_trans (KeepBut.of_below (below_step HB0.out HB2.out) b none) HK3.out) (by show w.heap.size ≤ w.heap.size + 1; omega) _) (by show w.heap.size ≤ w.heap.size + 1; omega) _
    · exact S3.set (S3.set (S3.trans (S3.below (below_step HB0.out HB2.out)) HS3.out) _ _) _ _
end Go.Proofs.Ytopkoganfnabgaa.H
namespace Go.Proofs.Ytopkoganfnabgaa.H
open Go.RowKit Go.Proofs.YtopkoganfnabgaaW.PrintWords Go.Proofs.YtopkoganfnabgaaW.PrintLast Go.Proofs.YtopkoganfnabgaaW.PrintMore
attribute [local go_sem] max2_int min2_int max_two min_two max_three min_three max_four min_four
set_option linter.unusedVariables false
set_option linter.unusedSimpArgs false
section
variable {P : Program} {α : Type}
/-- append to a row that is full (cap = len), whoever owns it: a new row. -/
theorem run_append_full (d : Kd α) (hKM : ∀ (w : World) (base : Nat) (ok : Nat → Prop) (x : α) (cs : List Value), d.K w x cs → d.M w base ok x cs) (t ty e : TypeId) (z : Value) (bytes : Nat) (ht : P.underlying t = some (.slice e))
    (hinfo : (P.info? e).map (fun i => (i.zero, i.size, i.bytes)) = some (some z, d.sz, bytes)) (hz : z.cells.size = d.sz) (hs0 : 0 < d.sz)
    (W : World) (A : Option Addr) (n : Nat) (xs : List α) (HA : d.C W A n xs) (B : Option Addr) (m c : Nat) (ys : List α) (HY : d.C W B m ys) (hm : 0 < m) (hb : n + m ≤ maxLen) (hl : (n + m) * bytes ≤ 140737488355328) (hnz : A = none → n = 0) :
    ∃ A' c' w', (Builtin.append_ #[t, t] ty #[.slice A n n, .slice B m c]).run P W = .ok (.slice A' (xs ++ ys).length c') w' ∧ (xs ++ ys).length ≤ c' ∧ d.R e w' W.heap.size (fun k => W.heap.size ≤ k) (.slice A' (xs ++ ys).length c') (xs ++ ys) ∧ Below W.heap.size W w' := by
  cases hi : P.info? e with
  | none => rw [hi] at hinfo; simp at hinfo
  | some i =>
    rw [hi] at hinfo
    simp only [Option.map_some, Option.some.injEq, Prod.mk.injEq] at hinfo
    obtain ⟨hz0, hz1, hz2⟩ := hinfo
    obtain ⟨bd, rfl, _⟩ := HY.2.2 hm
    obtain ⟨news, hn1, hn2⟩ := ReadsRow.inner_ HY
    have hxl : xs.length = n := HA.1
    have hyl : ys.length = m := HY.1
    have hone : ∀ {zs : List α} {cs : List Value}, Reps (d.K W) d.sz zs cs → ∀ u ∈ cs, u.oneCell' = true := by
      intro zs cs h u hu
      obtain ⟨q, hq, rfl⟩ := List.mem_iff_getElem.1 hu
      have hql : q / d.sz < zs.length := by
        rw [Nat.div_lt_iff_lt_mul hs0, ← h.1]; exact hq
      have hc := h.2 (q / d.sz) _ (List.getElem?_eq_getElem hql)
      refine d.K_one hc _ ?_
      rw [List.mem_iff_getElem?]
      refine ⟨q % d.sz, ?_⟩
      rw [List.getElem?_take, if_pos (Nat.mod_lt _ hs0), List.getElem?_drop, Nat.mul_comm, Nat.div_add_mod, List.getElem?_eq_getElem hq]
    have fin : ∀ v' w' (olds : List Value), Reps (d.K W) d.sz xs olds → w'.ownsRow W.heap.size e d.sz v' (n + m) (olds ++ news) → W.grownBy w' none → ∃ A' c', v' = .slice A' (xs ++ ys).length c' ∧ (xs ++ ys).length ≤ c' ∧ d.R e w' W.heap.size (fun k => W.heap.size ≤ k) (.slice A' (xs ++ ys).length c') (xs ++ ys) ∧ Below W.heap.size W w' := by
      intro v' w' olds ho h1 h2
      have hbl : Below W.heap.size W w' := (Below.refl _ W).grown h2 (Nat.le_refl _) (fun k hk => by cases hk)
      have hrow : OwnRow (d.M w' W.heap.size (fun k => W.heap.size ≤ k ∧ some k ≠ v'.ownBlock)) e d.sz w' W.heap.size v' (xs ++ ys) := ⟨olds ++ news, by rw [List.length_append, hxl, hyl]; exact h1, (Kd.reps_append ho hn1).imp_ (fun p c hp => hKM _ _ _ _ _ (d.K_below hbl hp))⟩
      have hR : d.R e w' W.heap.size (fun k => W.heap.size ≤ k) v' (xs ++ ys) := ⟨fun k hk => own_base h1 k hk, hrow⟩
      obtain ⟨A', c', e1, e2, e3⟩ := OwnRow.reads hrow
      subst e1
      exact ⟨A', c', rfl, e2, hR, hbl⟩
    cases A with
    | some b =>
      obtain ⟨olds, ho1, ho2⟩ := ReadsRow.inner_ HA
      obtain ⟨v', w', hrun, r1, r2⟩ := run_append_arg_grows (P := P) W t ty e i z d.sz bytes ht hi hz0 hz1 hz2 hz hs0 b n n olds (by rw [ho1.1, hxl]) ho2 bd m c news (by rw [hn1.1, hyl]) hn2 (by omega) hb hl
      obtain ⟨A', c', rfl, h3, h4, h5⟩ := fin v' w' olds ho1 r1 r2
      exact ⟨A', c', w', hrun, h3, h4, h5⟩
    | none =>
      obtain rfl := hnz rfl
      obtain rfl : xs = [] := List.eq_nil_of_length_eq_zero hxl
      obtain ⟨v', w', hrun, r1, r2, _⟩ := run_append_own (P := P) W W.heap.size t ty e i z d.sz bytes ht hi hz0 hz1 hz2 hz hs0 (.slice none 0 0) 0 [] (World.ownsRow_nil W _ e d.sz) bd m c news (by rw [hn1.1, hyl]) hn2 (hone hn1) hb hl (Nat.le_refl _)
      obtain ⟨A', c', rfl, h3, h4, h5⟩ := fin v' w' [] (Reps.none _ _) r1 r2
      exact ⟨A', c', w', hrun, h3, h4, h5⟩
theorem append_full_step (d : Kd α) (hKM : ∀ (w : World) (base : Nat) (ok : Nat → Prop) (x : α) (cs : List Value), d.K w x cs → d.M w base ok x cs) {ops : Array Oper} {o : Oper} {a : Act} {W : World} {Kc : Act → World → Prop} {Q : Exit → Act → World → Prop} {E : Prop} (hgd : o.guard = none) (s x : Operand) (t e : TypeId) (z : Value) (bytes : Nat)
    (ho : o.op = .call { callee := .builtin .append, args := #[s, x], argTypes := #[t, t] }) (ht : P.underlying t = some (.slice e))
    (hinfo : (P.info? e).map (fun i => (i.zero, i.size, i.bytes)) = some (some z, d.sz, bytes)) (hz : z.cells.size = d.sz) (hs0 : 0 < d.sz)
    (A : Option Addr) (n : Nat) (xs : List α) (B : Option Addr) (m c : Nat) (ys : List α) (hs : a.eval s = .slice A n n) (hx : a.eval x = .slice B m c) (HA : d.C W A n xs) (HY : d.C W B m ys) (hm : 0 < m) (hb : n + m ≤ maxLen) (hl : (n + m) * bytes ≤ 140737488355328) (hnz : A = none → n = 0)
    (h : ∀ A' c' w', (xs ++ ys).length ≤ c' → d.R e w' W.heap.size (fun k => W.heap.size ≤ k) (.slice A' (xs ++ ys).length c') (xs ++ ys) → Below W.heap.size W w' → Kc (a.put o.dst (.slice A' (xs ++ ys).length c')) w') :
    if Region.wanted o (yielded ops a.tmps) = true then Oper.wp P o a W Kc Q else E := by
  have hw : Region.wanted o (yielded ops a.tmps) = true := by simp [Region.wanted, hgd]
  rw [if_pos hw]
  obtain ⟨A', c', w', hrun, h1, h2, h3⟩ := run_append_full d hKM t o.type e z bytes ht hinfo hz hs0 W A n xs HA B m c ys HY hm hb hl hnz
  unfold Oper.wp
  simp [execOp, ho, resolve, invoke, builtin, hs, hx, hrun, Result.andThen]
  have := h A' c' w' h1 h2 h3
  rw [List.length_append] at this
  exact this
end
end Go.Proofs.Ytopkoganfnabgaa.H
namespace Go.Proofs.Ytopkoganfnabgaa.H
open Go.RowKit Go.Proofs.YtopkoganfnabgaaW.PrintWords Go.Proofs.YtopkoganfnabgaaW.PrintLast Go.Proofs.YtopkoganfnabgaaW.PrintMore
attribute [local go_sem] max2_int min2_int max_two min_two max_three min_three max_four min_four
set_option linter.unusedVariables false
set_option linter.unusedSimpArgs false
theorem cap_cut {A : Option Addr} {c n : Nat} {l : List It} {w : World} (hr : kIt.C w A l.length l) (hc : l.length ≤ c) (h5 : 5 ≤ l.length) : kIt.C w (A.map (·.add (3 * 2))) (l.length - 3) (l.drop 3) := by
  have h := Kd.C_drop (m := 3) (c := c) hr (by omega) hc
  rw [if_neg (by omega), List.length_drop] at h
  exact h
theorem take3 {A : Option Addr} {l : List It} {w : World} (hr : kIt.C w A l.length l) (h5 : 5 ≤ l.length) : kIt.C w A 3 (l.take 3) := by
  have h := Kd.C_take (m := 3) hr (by omega)
  rw [List.length_take, show min 3 l.length = 3 by omega] at h
  exact h
theorem rows_two {A B : Option Addr} {c k : Nat} {l : List It} {w w1 : World} (h1 : kIt.C w A 3 (l.take 3)) (h2 : kIt.C w B (l.length - 3) (l.drop 3)) (h5 : 5 ≤ l.length) (hc : l.length ≤ c) (hk : 3 ≤ k) (hb : Below w.heap.size w w1) :
    RowsC w1 [(A, 3, k), (B, l.length - 3, c - 3)] [l.take 3, l.drop 3] := by
  have e1 : (l.take 3).length = 3 := by rw [List.length_take]; omega
  have e2 : (l.drop 3).length = l.length - 3 := List.length_drop
  exact ⟨⟨e1.symm, by rw [e1]; exact hk, by rw [e1]; exact Kd.C_below h1 hb⟩, ⟨e2.symm, by rw [e2]; show l.length - 3 ≤ c - 3; omega, by rw [e2]; exact Kd.C_below h2 hb⟩, trivial⟩
set_option maxHeartbeats 4000000 in
set_option maxRecDepth 100000 in
theorem split_big (A : Option Addr) (c : Nat) (l : List It) (w : World) (hr : kIt.C w A l.length l) (hc : l.length ≤ c) (h5 : 5 ≤ l.length) (h7 : l.length ≤ 7) :
    Calls Try.prog 70 #[.slice A l.length c] w fun e w' => ∃ B cb ts, e = .returned (.slice B 2 cb) ∧ 2 ≤ cb ∧ kSl.C w' B 2 ts ∧ RowsC w' ts [l.take 3, l.drop 3] ∧ Below w.heap.size w w' := by
  have ht := take3 hr h5
  have hd := cap_cut (n := 0) hr hc h5
  obtain ⟨ad, rfl, _⟩ := at_it0 hr (by omega)
  have q1 : ((l.length : Int) == 0) = false := beq_eq_false_iff_ne.mpr (by omega)
  have q2 : (l.length == 0) = false := beq_eq_false_iff_ne.mpr (by omega)
  have q3 : decide ((l.length : Int) ≤ 4) = false := decide_eq_false (by omega)
  have q4 : decide (l.length ≤ 4) = false := decide_eq_false (by omega)
  have f1 : (3 : Int) ≤ (l.length : Int) := by omega
  have f2 : (3 : Int) ≤ (c : Int) := by omega
  have f3 : (l.length : Int) ≤ (c : Int) := by omega
  have f4 : 3 ≤ l.length := by omega
  have f5 : 3 ≤ c := by omega
  have f6 : (c = 3) = False := eq_false (by omega)
  have hln : (l.drop 3).length = l.length - 3 := by simp
  have e6 : ad.add (3 * 2) = (⟨ad.block, ad.off + 6, none⟩ : Addr) := by simp [Addr.add]
  replace hd : kIt.C w (some (ad.add (3 * 2))) (l.length - 3) (l.drop 3) := hd
  rw [e6] at hd
  have HS := Aside0.mk (fun (W : World) (hb : Below w.heap.size w W) => split_small (some ⟨ad.block, ad.off + 6, none⟩) (c - 3) (l.drop 3) W (by rw [hln]; exact Kd.C_below hd hb) (by rw [hln]; omega) (by rw [hln]; omega) (by rw [hln]; omega))
  rw [hln] at HS
  have HT := Aside0.mk ht
  have HD := Aside0.mk hd
  have HL := Aside0.mk (And.intro hc (And.intro h5 h7))
  clear ht hd hln e6 hr hc h5 h7
  go_enter Try.func70, Try.ntmps70
  go_wp2
  go_region_held3 (fun w' => True) (exact trivial) (first | (go_at_call 70; (with_reducible refine (HS.out _ (by repeat (first | (with_reducible exact Below.refl _ _) | (with_reducible refine below_alloc ?_ _) | (with_reducible refine below_drew1 ?_) | (with_reducible refine pw_below_drewN ?_ _) | fail))).mono ?_); rintro e w2 ⟨B2, rfl, hB2, hb2⟩; have HS2 := Aside0.mk hB2; have HB2 := Aside0.mk (show Below w.heap.size w w2 from below_step (by repeat (first | (with_reducible exact Below.refl _ _) | (with_reducible refine below_alloc ?_ _) | (with_reducible refine below_drew1 ?_) | (with_reducible refine pw_below_drewN ?_ _) | fail)) hb2); (first | (have HK1 := Aside0.mk (Kd.C_below (Kd.C_drew (sl_one w (some ad, 3, 3))) hb2)) | skip); clear hb2 hB2) | (refine append_full_step kSl (fun _ _ _ _ _ h => h) rfl (.tmp 15) (.tmp 18) 112 27 (.slice none 0 0) 24 rfl Try.underlying112 info_sl rfl (by decide) _ 1 [(some ad, 3, 3)] _ 1 1 [(some ⟨ad.block, ad.off + 6, none⟩, l.length - 3, c - 3)] rfl rfl ?ha ?hy (by decide) (by unfold maxLen; decide) (by decide) (fun h => by cases h) ?_; (case ha => first | (with_reducible exact HK1.out) | exact sl_one _ _); (case hy => first | (with_reducible exact HS2.out) | (with_reducible exact Kd.C_alloc HS2.out _)); intro A' c' w5 h1 h2 h3; have HO5 := Aside0.mk h2; have HC5 := Aside0.mk h1; have HB5 := Aside0.mk (show Below w.heap.size w w5 from below_step (by repeat (first | (with_reducible exact Below.refl _ _) | (with_reducible refine below_alloc ?_ _) | (with_reducible refine below_drew1 ?_) | (with_reducible refine pw_below_drewN ?_ _) | (with_reducible exact HB2.out))) h3); clear h1 h2 h3) | fail)
  all_goals
    go_wp2
    go_ret
    exact ⟨A', c', _, rfl, HC5.out, (Kd.R_reads' HO5.out).2.2, rows_two HT.out HD.out HL.out.2.1 HL.out.1 (Nat.le_refl 3) HB5.out, HB5.out⟩
/-- Items in rows that nodes can have. -/
theorem split_walk (A : Option Addr) (c : Nat) (l : List It) (rows : List (List It)) (w : World) (hr : kIt.C w A l.length l) (hc : l.length ≤ c) (e : splitO l = some rows) :
    Calls Try.prog 70 #[.slice A l.length c] w fun e w' => ∃ B cb ts, e = .returned (.slice B rows.length cb) ∧ kSl.C w' B rows.length ts ∧ RowsC w' ts rows ∧ Below w.heap.size w w' := by
  unfold splitO at e
  by_cases h0 : l.length = 0
  · rw [if_pos h0] at e
    obtain rfl : [] = rows := by simpa using e
    have q1 : ((l.length : Int) == 0) = true := beq_iff_eq.mpr (by omega)
    have q2 : (l.length == 0) = true := beq_iff_eq.mpr h0
    clear h0 e hr hc
    go_enter Try.func70, Try.ntmps70
    go_wp2
    go_ret
    exact ⟨none, 0, [], rfl, ⟨rfl, by decide, fun h => absurd h (by decide)⟩, trivial, Below.refl _ _⟩
  · rw [if_neg h0] at e
    by_cases h4 : l.length ≤ 4
    · rw [if_pos h4] at e
      obtain rfl : [l] = rows := by simpa using e
      refine (split_small A c l w hr hc (by omega) h4).mono fun e w' ⟨B, he, hB, hb⟩ => ⟨B, 1, _, he, hB, ⟨⟨rfl, hc, Kd.C_below hr hb⟩, trivial⟩, hb⟩
    · rw [if_neg h4] at e
      by_cases h7 : l.length ≤ 7
      · rw [if_pos h7] at e
        obtain rfl : [l.take 3, l.drop 3] = rows := by simpa using e
        exact (split_big A c l w hr hc (by omega) h7).mono fun e w' ⟨B, cb, ts, he, _, hB, hR, hb⟩ => ⟨B, cb, ts, he, hB, hR, hb⟩
      · rw [if_neg h7] at e; cases e
end Go.Proofs.Ytopkoganfnabgaa.H
namespace Go.Proofs.Ytopkoganfnabgaa.H
open Go.RowKit Go.Proofs.YtopkoganfnabgaaW.PrintWords Go.Proofs.YtopkoganfnabgaaW.PrintLast Go.Proofs.YtopkoganfnabgaaW.PrintMore
attribute [local go_sem] max2_int min2_int max_two min_two max_three min_three max_four min_four
set_option linter.unusedVariables false
set_option linter.unusedSimpArgs false
/-- Items with others instead of some. -/
theorem nodeWith_walk (A0 A3 : Option Addr) (c0 c3 a g : Nat) (l0 l3 r : List It) (w : World) (hr0 : kIt.C w A0 l0.length l0) (hc0 : l0.length ≤ c0) (hr3 : kIt.C w A3 l3.length l3) (e : withO l0 a g l3 = some r) :
    Calls Try.prog 59 #[.slice A0 l0.length c0, .int .i64 (a : Int), .int .i64 (g : Int), .slice A3 l3.length c3] w fun e w' => ∃ B cb, e = .returned (.slice B r.length cb) ∧ r.length ≤ cb ∧ kIt.C w' B r.length r ∧ Below w.heap.size w w' := by
  unfold withO at e
  by_cases h : a + g ≤ l0.length ∧ l0.length ≤ 1000 ∧ l3.length ≤ 1000
  · rw [if_pos h] at e
    obtain rfl : l0.take a ++ l3 ++ l0.drop (a + g) = r := by simpa using e
    refine (with_walk A0 A3 c0 c3 a g l0 l3 w hr0 hc0 hr3 h.2.1 h.2.2 h.1).mono ?_
    rintro e w' ⟨v, rfl, hv, hb⟩
    obtain ⟨B, cb, rfl⟩ := Kd.R_slice hv
    exact ⟨B, cb, rfl, (Kd.R_reads' hv).2.1, (Kd.R_reads' hv).2.2, hb⟩
  · rw [if_neg h] at e; cases e
end Go.Proofs.Ytopkoganfnabgaa.H
namespace Go.Proofs.Ytopkoganfnabgaa.H
open Go.RowKit Go.Proofs.YtopkoganfnabgaaW.PrintWords Go.Proofs.YtopkoganfnabgaaW.PrintLast Go.Proofs.YtopkoganfnabgaaW.PrintMore
attribute [local go_sem] max2_int min2_int max_two min_two max_three min_three max_four min_four
set_option linter.unusedVariables false
set_option linter.unusedSimpArgs false
theorem one_it (W : World) (x : It) : kIt.C (W.alloc (.cells #[.int .i64 x.k, .int .i64 x.v] 26)) (some ⟨W.heap.size, 0, none⟩) 1 [x] := by
  refine ⟨rfl, by decide, fun _ => ⟨_, rfl, fun j p hj => ?_⟩⟩
  have hj0 : j = 0 := by
    have := (List.getElem?_eq_some_iff.1 hj).1
    simp at this
    exact this
  subst hj0
  cases hj
  refine ⟨[.int .i64 x.k, .int .i64 x.v], rfl, ⟨[.int .i64 x.k], [.int .i64 x.v], rfl, rfl, rfl⟩, fun i u hu => ?_⟩
  have hadd : (({ block := W.heap.size, off := 0 } : Addr).add (0 * kIt.sz + i)) = ⟨W.heap.size, i, none⟩ := by simp [Addr.add]; intro h; exact h.symm
  rw [hadd, blk_cell (blk_new W _) i, ← hu]
  simp
theorem withO_len {l more r : List It} {a g : Nat} (e : withO l a g more = some r) : more.length ≤ 1000 := by
  unfold withO at e
  split at e
  · rename_i h; exact h.2.2
  · cases e
theorem anewO_inv {f : Nat} {h h' : Hp} {p : Int} {x : It} {made : List It} (e : anewO (f + 1) h p x = some (h', made)) :
    inB h p = true ∧ ∃ (i : Nat) (is : Bool) (h1 : Hp) (more : List It) (gone : Nat) (held : List Int) (l1 : List It) (rows : List (List It)), atO (clAt h p).n.leaf (clAt h p).n.it x.k = some (i, is) ∧
      ((clAt h p).n.leaf = true → h1 = h ∧ more = [x] ∧ gone = (if is then 1 else 0) ∧ held = []) ∧
      ((clAt h p).n.leaf = false → i < (clAt h p).n.it.length ∧ anewO f h (itAt (clAt h p).n.it i).v x = some (h1, more) ∧ gone = 1 ∧ held = vL more) ∧
      withO (clAt h p).n.it i gone more = some l1 ∧ splitO l1 = some rows ∧ layO h1 (clAt h p).n.leaf held rows = some (h', made) := by
  unfold anewO at e
  by_cases hin : inB h p = true
  · rw [if_pos hin] at e
    simp only [Option.bind_eq_bind, Option.bind_eq_some_iff] at e
    obtain ⟨⟨i, is⟩, hat, e⟩ := e
    simp only at e
    refine ⟨hin, i, is, ?_⟩
    cases hlf : (clAt h p).n.leaf with
    | true =>
      rw [hlf] at e
      simp only [if_true, Option.bind_eq_some_iff] at e
      obtain ⟨l1, h1, rows, h2, h3⟩ := e
      exact ⟨h, [x], _, [], l1, rows, hlf ▸ hat, fun _ => ⟨rfl, rfl, rfl, rfl⟩, (fun h => by cases h), h1, h2, h3⟩
    | false =>
      rw [hlf] at e
      simp only [Bool.false_eq_true, if_false] at e
      by_cases hi : i < (clAt h p).n.it.length
      · rw [if_pos hi] at e
        simp only [Option.bind_eq_some_iff] at e
        obtain ⟨⟨g, more⟩, h0, l1, h1, rows, h2, h3⟩ := e
        exact ⟨g, more, 1, vL more, l1, rows, hlf ▸ hat, (fun h => by cases h), fun _ => ⟨hi, h0, rfl, rfl⟩, h1, h2, h3⟩
      · rw [if_neg hi] at e; cases e
  · rw [if_neg hin] at e; cases e
theorem layO_inv {h h' : Hp} {lf : Bool} {held : List Int} {x : It} {s : List It} {rows : List (List It)} {made : List It} (e : layO h lf held ((x :: s) :: rows) = some (h', made)) :
    ∃ g p er l, allocO h ⟨lf, x :: s⟩ held = some (g, p, er) ∧ layO g lf held rows = some (h', l) ∧ made = ⟨x.k, p⟩ :: l := by
  unfold layO at e
  simp only [Option.bind_eq_bind, Option.bind_eq_some_iff] at e
  obtain ⟨⟨g, p, er⟩, h1, ⟨g2, l⟩, h2, h3⟩ := e
  simp only [Option.some.injEq, Prod.mk.injEq] at h3
  obtain ⟨rfl, rfl⟩ := h3
  exact ⟨g, p, er, l, h1, h2, rfl⟩
theorem splitO_len {l : List It} {rows : List (List It)} (e : splitO l = some rows) : rows.length ≤ 2 := by
  unfold splitO at e
  split at e
  · cases e; simp
  · split at e
    · cases e; simp
    · split at e
      · cases e; simp
      · cases e
/-- Two slices do not lie where a heap alone lies. -/
theorem Hb_sl {w : World} {g : Nat} (h : Hb w g) (ad : Addr) (t1 t2 : Tr) (e : ad.block = g) (e0 : w.cell? ad = some (trV t1)) (e1 : w.cell? (ad.add 1) = some (trV t2)) : False := by
  obtain ⟨X, a, b, k, t, hb⟩ := h
  obtain ⟨bl, off, inn⟩ := ad
  cases e
  have hb' : w.heap[bl]? = some (Obj.cells #[Value.slice X a b, Value.int IntKind.i64 k] t) := hb
  unfold World.cell? at e0 e1
  unfold Addr.add at e1
  unfold trV at e0 e1
  simp only [hb'] at e0 e1
  cases inn with
  | none =>
    match off with
    | 0 => simp [hb'] at e1
    | 1 => simp at e0
    | n + 2 => simp at e0
  | some j => simp at e0
theorem itM (w : World) (base : Nat) (ok : Nat → Prop) (x : It) : kIt.M w base ok x [.int .i64 x.k, .int .i64 x.v] := ⟨[.int .i64 x.k], [.int .i64 x.v], rfl, rfl, rfl⟩
set_option maxHeartbeats 8000000 in
set_option maxRecDepth 100000 in
/-- (*builder).anew. -/
theorem growAnew_walk : ∀ (f : Nat) (A : Option Addr) (c b : Nat) (h h' : Hp) (p : Int) (x : It) (made : List It) (w : World), w.heap[b]? = some (.cells #[.slice A h.c.length c, .int .i64 h.keep] 86 (0, 0)) → kCl.C w A h.c.length h.c → h.c.length ≤ c → anewO f h p x = some (h', made) →
    Calls Try.prog 44 #[.pointer (some ⟨b, 0, none⟩), .int .i64 p, .agg #[.int .i64 x.k, .int .i64 x.v]] w fun e w' => (∃ M cm, e = .returned (.slice M made.length cm) ∧ made.length ≤ cm ∧ kIt.C w' M made.length made) ∧ (∃ A' c', w'.heap[b]? = some (.cells #[.slice A' h'.c.length c', .int .i64 h'.keep] 86 (0, 0)) ∧ h'.c.length ≤ c' ∧ kCl.C w' A' h'.c.length h'.c) ∧ KeepBut w w' b none ∧ S3 w w' := by
  intro f
  induction f with
  | zero => intro A c b h h' p x made w _ _ _ e; simp [anewO] at e
  | succ f ih =>
    intro A c b h h' p x made w hbb hr hcc e
    obtain ⟨hin, i, is, h1, more, gone, held, l1, rows, hat, hT, hF, hwith, hsplit, hlay⟩ := anewO_inv e
    obtain ⟨q, rfl, hq⟩ := inB_nat hin
    have hcl : clAt h (q : Int) = h.c.getD q zCl := by unfold clAt; rw [Int.toNat_natCast]
    rw [hcl] at hat hT hF hwith hlay
    obtain ⟨ad, B, cb, rfl, _, _, x2, x3, hcb, hB⟩ := at_cl hr q hq
    obtain ⟨n, hn⟩ : ∃ n, n = (h.c.getD q zCl).n := ⟨_, rfl⟩
    rw [← hn] at hat hT hF hwith hlay x2 x3 hcb hB
    obtain ⟨lf, hlf⟩ : ∃ lf, lf = n.leaf := ⟨_, rfl⟩
    rw [← hlf] at hat hT hF hlay x2
    obtain ⟨W1, hW1⟩ : ∃ W1, W1 = (w.alloc (.cells #[.int .i64 x.k, .int .i64 x.v] 26)).alloc (.cells #[.bool lf, .slice B n.it.length cb] 77) := ⟨_, rfl⟩
    have HB0 := Aside0.mk (show Below w.heap.size w W1 by rw [hW1]; exact below_alloc (below_alloc (Below.refl _ _) _) _)
    have HX1 := Aside0.mk (show W1.heap[w.heap.size]? = some (.cells #[.int .i64 x.k, .int .i64 x.v] 26) by rw [hW1]; exact blk_alloc (blk_new w _) _)
    have HN1 := Aside0.mk (show W1.heap[w.heap.size + 1]? = some (.cells #[.bool lf, .slice B n.it.length cb] 77) by rw [hW1]; exact blk2 w _ _)
    have HBB := Aside0.mk (blk_below hbb HB0.out)
    have HROW := Aside0.mk (Kd.C_below hB HB0.out)
    have HBL := Aside0.mk (blk_lt hbb)
    have HAT := Aside0.mk (fun (W : World) (hb : Below W1.heap.size W1 W) => nodeAt_walk lf B cb n.it x.k i is W (Kd.C_below HROW.out hb) hat)
    have HR := Aside0.mk (Kd.C_below hr HB0.out)
    have HCC := Aside0.mk (And.intro hcc hcb)
    have HT := Aside0.mk hT
    have HF := Aside0.mk hF
    have HWL := Aside0.mk (And.intro hwith (And.intro hsplit hlay))
    have HIH := Aside0.mk ih
    have c0 := (blk_cell hbb 0).trans (show _ = some (Value.slice (some ad) h.c.length c) from rfl)
    have c1 := (blk_cell HN1.out 0).trans (show _ = some (Value.bool lf) from rfl)
    have c2 := (blk_cell HN1.out 1).trans (show _ = some (Value.slice B n.it.length cb) from rfl)
    have c3 := (blk_cell HX1.out 0).trans (show _ = some (Value.int .i64 x.k) from rfl)
    have c4 := (blk_cell HX1.out 1).trans (show _ = some (Value.int .i64 x.v) from rfl)
    have r1 : (q < h.c.length) = True := eq_true hq
    have hW1' := Aside0.mk hW1
    have y2 := al1 (o := .cells #[.int .i64 x.k, .int .i64 x.v] 26) x2
    have y3 := al1 (o := .cells #[.int .i64 x.k, .int .i64 x.v] 26) x3
    have y0 := al1 (o := .cells #[.int .i64 x.k, .int .i64 x.v] 26) c0
    clear hin hcl hB hn hlf hat hT hF hwith hsplit hlay hW1 hbb hr hcc e ih hcb hq x2 x3 c0
    go_enter Try.func44, Try.ntmps44
    go_upto_region 2 with (fail)
    rw [← hW1'.out]
    clear y0 y2 y3
    go_upto_region 3 with (first | (go_at_call 58; (with_reducible refine (HAT.out _ (by repeat (first | (with_reducible exact Below.refl _ _) | (with_reducible refine below_alloc ?_ _) | (with_reducible refine below_drew1 ?_) | (with_reducible refine pw_below_drewN ?_ _) | (with_reducible exact Below.refl _ _)))).mono ?_); rintro e w2 ⟨rfl, hb2⟩; have HB2 := Aside0.mk (show Below W1.heap.size W1 w2 from below_step (by repeat (first | (with_reducible exact Below.refl _ _) | (with_reducible refine below_alloc ?_ _) | (with_reducible refine below_drew1 ?_) | (with_reducible refine pw_below_drewN ?_ _) | fail)) hb2); clear hb2) | fail)
    have d1 := bcell HB2.out c1
    have d3 := bcell HB2.out c3
    have d4 := bcell HB2.out c4
    have d2 := bcell HB2.out c2
    go_upto_block 0 with (fail)
    obtain ⟨W3, hW3⟩ : ∃ W3, W3 = w2.alloc (.cells #[.int .i64 x.k, .int .i64 x.v] 26) := ⟨_, rfl⟩
    rw [← hW3]
    have HB3 := Aside0.mk (show Below W1.heap.size W1 W3 by rw [hW3]; exact below_alloc HB2.out _)
    have HONE := Aside0.mk (show kIt.C W3 (some ⟨w2.heap.size, 0, none⟩) [x].length [x] by rw [hW3]; exact one_it w2 x)
    have e1 := (blk_cell (blk_below HN1.out HB3.out) 0).trans (show _ = some (Value.bool lf) from rfl)
    have e2 := (blk_cell (blk_below HN1.out HB3.out) 1).trans (show _ = some (Value.slice B n.it.length cb) from rfl)
    have e3 := (blk_cell (blk_below HX1.out HB3.out) 0).trans (show _ = some (Value.int .i64 x.k) from rfl)
    have e4 := (blk_cell (blk_below HX1.out HB3.out) 1).trans (show _ = some (Value.int .i64 x.v) from rfl)
    clear d1 d2 d3 d4 c1 c2 c3 c4 hW3
    go_cut [10, 11, 12] from 34 to 50 (fun v10 v11 v12 wc => ∃ (h1 : Hp) (A1 : Option Addr) (c1 : Nat) (more : List It) (M : Option Addr) (cm gone : Nat) (held : List Int) (D : Option Addr) (d : Nat) (l1 : List It) (rows : List (List It)), v10 = .slice M more.length cm ∧ v11 = .int .i64 (gone : Int) ∧ v12 = .slice D held.length d ∧ Aside0 (withO n.it i gone more = some l1 ∧ splitO l1 = some rows ∧ layO h1 lf held rows = some (h', made)) ∧ Aside0 (wc.heap[b]? = some (.cells #[.slice A1 h1.c.length c1, .int .i64 h1.keep] 86 (0, 0))) ∧ Aside0 (h1.c.length ≤ c1 ∧ kCl.C wc A1 h1.c.length h1.c) ∧ Aside0 (kIt.C wc M more.length more) ∧ Aside0 (∀ W', KeepBut wc W' b none → (Kd.int .i64).C W' D held.length held) ∧ Aside0 (KeepBut W1 wc b none ∧ S3 W1 wc))
    case first =>
      cases lf with
      | true =>
        obtain ⟨t1, t2, t3, t4⟩ := HT.out rfl
        rw [t1, t2, t3, t4] at HWL
        clear t1 t2 t3 t4
        cases is with
        | true =>
          go_wp2
          go_meet
          case rel => exact ⟨h, some ad, c, [x], some ⟨w2.heap.size, 0, none⟩, 1, 1, [], none, 0, l1, rows, rfl, rfl, rfl, HWL, ⟨blk_below HBB.out HB3.out⟩, ⟨HCC.out.1, Kd.C_below HR.out HB3.out⟩, HONE, ⟨fun _ _ => Kd.C_nil _ _⟩, ⟨KeepBut.of_below HB3.out b none, S3.below HB3.out⟩⟩
        | false =>
          go_wp2
          go_meet
          case rel => exact ⟨h, some ad, c, [x], some ⟨w2.heap.size, 0, none⟩, 1, 0, [], none, 0, l1, rows, rfl, rfl, rfl, HWL, ⟨blk_below HBB.out HB3.out⟩, ⟨HCC.out.1, Kd.C_below HR.out HB3.out⟩, HONE, ⟨fun _ _ => Kd.C_nil _ _⟩, ⟨KeepBut.of_below HB3.out b none, S3.below HB3.out⟩⟩
      | false =>
        obtain ⟨t1, t2, t3, t4⟩ := HF.out rfl
        rw [t3, t4] at HWL
        obtain ⟨ad2, rfl, _, z1⟩ := at_it (Kd.C_below HROW.out HB3.out) i t1
        have q1 : (i < n.it.length) = True := eq_true t1
        obtain ⟨v, hv⟩ : ∃ v, v = (itAt n.it i).v := ⟨_, rfl⟩
        rw [← hv] at t2 z1
        have HCALL := Aside0.mk (fun (W : World) (hb : Below W3.heap.size W3 W) => HIH.out (some ad) c b h h1 v x more W (blk_below HBB.out (below_step HB3.out hb)) (Kd.C_below HR.out (below_step HB3.out hb)) HCC.out.1 t2)
        have HMM := Aside0.mk (withO_len HWL.out.1)
        clear t1 t2 t3 t4 hv
        go_upto_region 6 with (fail)
        go_still_tail 8, (by kernel_rfl)
        go_upto_region 7 with (first | (go_at_call 44; (with_reducible refine (HCALL.out _ (by repeat (first | (with_reducible exact Below.refl _ _) | (with_reducible refine below_alloc ?_ _) | (with_reducible refine below_drew1 ?_) | (with_reducible refine pw_below_drewN ?_ _) | fail))).mono ?_); rintro e w4 ⟨⟨M, cm, rfl, hcm, hM⟩, ⟨A1, c1', hb1, hc1', hr1⟩, hk, hs⟩; have HM := Aside0.mk (And.intro hcm hM); have HH1 := Aside0.mk (And.intro hb1 (And.intro hc1' hr1)); have HK4 := Aside0.mk (show KeepBut W1 w4 b none from keep_trans (KeepBut.of_below HB3.out b none) (keep_trans (KeepBut.of_below (by repeat (first | (with_reducible exact Below.refl _ _) | (with_reducible refine below_alloc ?_ _) | (with_reducible refine below_drew1 ?_) | (with_reducible refine pw_below_drewN ?_ _) | fail)) b none) hk)); have HS4 := Aside0.mk (show S3 W1 w4 from S3.trans (S3.below HB3.out) (S3.trans (S3.below (show Below W3.heap.size W3 _ by repeat (first | (with_reducible exact Below.refl _ _) | (with_reducible refine below_alloc ?_ _) | (with_reducible refine below_drew1 ?_) | (with_reducible refine pw_below_drewN ?_ _) | fail))) hs)); clear hs; clear hcm hM hb1 hc1' hr1 hk) | fail)
        go_wp2_with (first | (go_at_call 51; (with_reducible refine (growPlaces_walk M cm more _ HM.out.2 HMM.out).mono ?_); rintro e w5 ⟨D, d, rfl, hd, hb5⟩; have HD := Aside0.mk hd; have HB5 := Aside0.mk hb5; clear hd hb5) | fail)
        go_meet
        case rel => exact ⟨h1, A1, c1', more, M, cm, 1, vL more, D, d, l1, rows, rfl, rfl, rfl, HWL, ⟨blk_below HH1.out.1 HB5.out⟩, ⟨HH1.out.2.1, Kd.C_below HH1.out.2.2 HB5.out⟩, ⟨Kd.C_below HM.out.2 HB5.out⟩, ⟨fun W' hk => HD.out W' ⟨hk.1, fun i hi hn => hk.2 i hi (fun e => hn (by have := HBL.out; have := HB0.out.size; have := HK4.out.1; show i < _; omega)) (by simp)⟩⟩, ⟨keep_trans HK4.out (KeepBut.of_below HB5.out b none), S3.trans HS4.out (S3.below HB5.out)⟩⟩
    case rest =>
      clear HWL HT HF HIH HONE e1 e2 e3 e4 HAT r1
      obtain ⟨h2, A1, c1, more2, M, cm, gone2, held2, D, d, l2, rows2, rfl, rfl, rfl, HWL, HBBc, HHc, HMc, HDc, HKc0⟩ := hcut
      have HKc := Aside0.mk HKc0.out.1
      have hrowB := it_keep HROW.out (Hb_of HBB.out) HKc.out
      have HNc := Aside0.mk (show wc.heap[w.heap.size + 1]? = some (.cells #[.bool lf, .slice B n.it.length cb] 77) from (HKc.out.2 _ (blk_lt HN1.out) (by have := HBL.out; omega) (by simp)).trans HN1.out)
      have n0 := (blk_cell HNc.out 0).trans (show _ = some (Value.bool lf) from rfl)
      have n1 := (blk_cell HNc.out 1).trans (show _ = some (Value.slice B n.it.length cb) from rfl)
      have HWI := Aside0.mk (nodeWith_walk B M cb cm i gone2 n.it more2 l2 wc hrowB HCC.out.2 HMc.out HWL.out.1)
      have HSPL := Aside0.mk HWL.out.2.1
      clear hrowB
      go_wp2_with (first | (go_at_call 59; (with_reducible refine HWI.out.mono ?_); rintro e w4 ⟨Bw, cbw, rfl, hcw, hrw, hb4⟩; have HB4 := Aside0.mk hb4; have HRW := Aside0.mk (And.intro hcw hrw); clear hcw hrw hb4) | (go_at_call 70; (with_reducible refine (split_walk Bw cbw l2 rows2 _ HRW.out.2 HRW.out.1 HSPL.out).mono ?_); rintro e ws ⟨Bs, cbs, ts, rfl, hsl, hrc, hb5⟩; have HB5 := Aside0.mk (below_step HB4.out hb5); have HSL := Aside0.mk hsl; have HRC := Aside0.mk hrc; clear hsl hrc hb5) | fail)
      have HBBs := Aside0.mk (blk_below HBBc.out HB5.out)
      have HHs := Aside0.mk (Kd.C_below HHc.out.2 HB5.out)
      have HNs := Aside0.mk (blk_below HNc.out HB5.out)
      have hlay := HWL.out.2.2
      have hr2 := splitO_len HSPL.out
      have m0 := (blk_cell HNs.out 0).trans (show _ = some (Value.bool lf) from rfl)
      clear n0 n1
      rcases rows2 with _ | ⟨s1, rest⟩
      · unfold layO at hlay
        simp only [Option.some.injEq, Prod.mk.injEq] at hlay
        obtain ⟨rfl, rfl⟩ := hlay
        clear hr2
        refine wp_loop_rounds 1 ?_
        rw [rounds_succ]; go_wp2
        go_ret
        exact ⟨⟨none, 0, rfl, Nat.le_refl _, Kd.C_nil _ _⟩, ⟨A1, c1, HBBs.out, HHc.out.1, HHs.out⟩, keep_trans (KeepBut.of_below HB0.out b none) (keep_trans HKc.out (KeepBut.of_below HB5.out b none)), S3.trans (S3.below HB0.out) (S3.trans HKc0.out.2 (S3.below HB5.out))⟩
      rcases s1 with _ | ⟨x1, s1⟩
      · unfold layO at hlay; cases hlay
      obtain ⟨g1, p1, er1, l3, hal1, hlay2, rfl⟩ := layO_inv hlay
      rcases ts with _ | ⟨⟨B1, n1, cb1⟩, ts⟩
      · exact HRC.out.elim
      obtain ⟨⟨rfl, hcb1, hrow1⟩, hrc2⟩ := HRC.out
      have HRC2 := Aside0.mk hrc2
      have HLAY1 := Aside0.mk (growLay_walk A1 B1 D c1 cb1 d b h2 g1 lf x1 s1 held2 p1 er1 ws ws HBBs.out HHs.out (Below.refl _ _) HHc.out.1 hrow1 hcb1 (HDc.out ws (KeepBut.of_below HB5.out b none)) hal1)
      have HL2 := Aside0.mk hlay2
      have HR2 := Aside0.mk hr2
      obtain ⟨sa, tt, rfl, htt, hs0⟩ := at_sl HSL.out 0 (by simp)
      obtain rfl : (B1, (x1 :: s1).length, cb1) = tt := by simpa using htt
      have hs0' : ws.cell? sa = some (.slice B1 (x1 :: s1).length cb1) := by
        have e0 : sa.add 0 = sa := by simp [Addr.add]
        rw [e0] at hs0
        exact hs0
      obtain ⟨rl1, hrl1⟩ : ∃ rl1, rl1 = (x1 :: s1).length := ⟨_, rfl⟩
      rw [← hrl1] at HLAY1 hs0'
      rcases rest with _ | ⟨s2, rest⟩
      · unfold layO at hlay2
        simp only [Option.some.injEq, Prod.mk.injEq] at hlay2
        obtain ⟨rfl, rfl⟩ := hlay2
        clear hr2 hlay hal1 hrow1 hrc2 htt hs0 hrl1 hcb1
        refine wp_loop_rounds 2 ?_
        rw [rounds_succ]
        go_wp2_with (first | (go_at_call 43; (with_reducible refine HLAY1.out.mono ?_); rintro e w6 ⟨rfl, ⟨A3, c3', hb6, hc6, hl6⟩, hk6, hs6⟩; have HS6 := Aside0.mk hs6; clear hs6; have HH6 := Aside0.mk (And.intro hb6 (And.intro hc6 hl6)); have HK6 := Aside0.mk hk6; clear hb6 hc6 hl6 hk6) | ((with_reducible refine gate_builtin (b := .append) (xs := #[.tmp 63, .tmp 71]) rfl ?_); at_builtin; refine Kd.R_append kIt (w0 := w6) w6.heap.size rfl (.tmp 63) (.tmp 71) 27 26 (.agg #[.int .i64 0, .int .i64 0]) 16 rfl Try.underlying27 info_it rfl (by decide) (by decide) _ [] ⟨x1.k, p1⟩ [.int .i64 x1.k, .int .i64 p1] (fun k => w6.heap.size ≤ k) (fun _ => False) rfl rfl (itM _ _ _ ⟨x1.k, p1⟩) (fun _ h => h.elim) (fun _ h => h) (Kd.R_nil _ _ _ _ _) (Below.refl _ _) (Nat.le_refl _) (by simp) ?_; intro v1 w7 ho hb hg hat; have HO7 := Aside0.mk (show Kd.R kIt 26 w7 w6.heap.size (fun k => w6.heap.size ≤ k) v1 [⟨x1.k, p1⟩] from ho); have HB7 := Aside0.mk hb; clear ho hb hg hat) | fail)
        rw [rounds_succ]; go_wp2
        go_ret
        obtain ⟨M3, c3, rfl⟩ := Kd.R_slice HO7.out
        have h9 := Kd.R_reads' HO7.out
        exact ⟨⟨M3, c3, rfl, h9.2.1, h9.2.2⟩, ⟨A3, c3', blk_below HH6.out.1 HB7.out, HH6.out.2.1, Kd.C_below HH6.out.2.2.now HB7.out⟩, keep_trans (keep_trans (KeepBut.of_below HB0.out b none) (keep_trans HKc.out (KeepBut.of_below HB5.out b none))) (keep_trans HK6.out (KeepBut.of_below HB7.out b none)), S3.trans (S3.trans (S3.below HB0.out) (S3.trans HKc0.out.2 (S3.below HB5.out))) (S3.trans HS6.out (S3.below HB7.out))⟩
      rcases s2 with _ | ⟨x2, s2⟩
      · unfold layO at hlay2; cases hlay2
      obtain ⟨g2, p2, er2, l4, hal2, hlay3, rfl⟩ := layO_inv hlay2
      rcases rest with _ | ⟨s3, rest⟩
      · unfold layO at hlay3
        simp only [Option.some.injEq, Prod.mk.injEq] at hlay3
        obtain ⟨rfl, rfl⟩ := hlay3
        rcases ts with _ | ⟨⟨B2, n2, cb2⟩, ts⟩
        · exact HRC2.out.elim
        obtain ⟨⟨rfl, hcb2, hrow2⟩, _⟩ := HRC2.out
        obtain ⟨sa2, tt2, hsa, htt2, hs1⟩ := at_sl HSL.out 1 (by simp)
        cases hsa
        obtain rfl : (B2, (x2 :: s2).length, cb2) = tt2 := by simpa using htt2
        have hne : sa.block ≠ b := fun e => Hb_sl (Hb_of HBBs.out) sa (B1, rl1, cb1) (B2, (x2 :: s2).length, cb2) e hs0' hs1
        have HNE := Aside0.mk hne
        have HS1 := Aside0.mk hs1
        have HROW2 := Aside0.mk (And.intro hcb2 (And.intro hrow2 hal2))
        have HDD := Aside0.mk (fun (W : World) (hk : KeepBut ws W b none) => HDc.out W (keep_trans (KeepBut.of_below HB5.out b none) hk))
        obtain ⟨rl2, hrl2⟩ : ∃ rl2, rl2 = (x2 :: s2).length := ⟨_, rfl⟩
        have HRL2 := Aside0.mk hrl2
        clear hr2 hlay hal1 hrow1 hrc2 htt hs0 hrl1 hcb1 hcb2 hrow2 htt2 hs1 hne hlay2 hal2 hrl2
        refine wp_loop_rounds 3 ?_
        rw [rounds_succ]
        go_wp2_with (first | (go_at_call 43; (with_reducible refine HLAY1.out.mono ?_); rintro e w6 ⟨rfl, ⟨A3, c3', hb6, hc6, hl6⟩, hk6, hs6⟩; have HS6 := Aside0.mk hs6; clear hs6; have HH6 := Aside0.mk (And.intro hb6 (And.intro hc6 hl6)); have HK6 := Aside0.mk hk6; clear hb6 hc6 hl6 hk6) | ((with_reducible refine gate_builtin (b := .append) (xs := #[.tmp 63, .tmp 71]) rfl ?_); at_builtin; refine Kd.R_append kIt (w0 := w6) w6.heap.size rfl (.tmp 63) (.tmp 71) 27 26 (.agg #[.int .i64 0, .int .i64 0]) 16 rfl Try.underlying27 info_it rfl (by decide) (by decide) _ [] ⟨x1.k, p1⟩ [.int .i64 x1.k, .int .i64 p1] (fun k => w6.heap.size ≤ k) (fun _ => False) rfl rfl (itM _ _ _ ⟨x1.k, p1⟩) (fun _ h => h.elim) (fun _ h => h) (Kd.R_nil _ _ _ _ _) (Below.refl _ _) (Nat.le_refl _) (by simp) ?_; intro v1 w7 ho hb hg hat; have HO7 := Aside0.mk (show Kd.R kIt 26 w7 w6.heap.size (fun k => w6.heap.size ≤ k) v1 [⟨x1.k, p1⟩] from ho); have HB7 := Aside0.mk hb; clear ho hb hg hat) | fail)
        have hbl6 : b < w6.heap.size := by have h1 := blk_lt HH6.out.1; exact h1
        have HBL6 := Aside0.mk hbl6
        have u1 := bcell HB7.out (keep_cell HK6.out HS1.out (by rw [add_block]; exact HNE.out))
        have u2 := bcell HB7.out (keep_cell HK6.out m0 (by have := HBL.out; show w.heap.size + 1 ≠ b; omega))
        have hlay2 := growLay_walk A3 B2 D c3' cb2 d b g1 g2 lf x2 s2 held2 p2 er2 w6 w7 (blk_below HH6.out.1 HB7.out) HH6.out.2.2.now HB7.out HH6.out.2.1 (it_keep HROW2.out.2.1 (Hb_of HBBs.out) HK6.out) HROW2.out.1 (HDD.out w7 (keep_trans HK6.out (KeepBut.of_below HB7.out b none))) HROW2.out.2.2
        rw [← HRL2.out] at u1 hlay2
        rw [show sa.add 1 = ⟨sa.block, sa.off + 1, none⟩ by unfold Addr.add; simp] at u1
        have HLAY2 := Aside0.mk hlay2
        clear hlay2 hbl6 m0 hs0'
        rw [rounds_succ]
        go_wp2_with (first | (go_at_call 43; (with_reducible refine HLAY2.out.mono ?_); rintro e w8 ⟨rfl, ⟨A4, c4', hb8, hc8, hl8⟩, hk8, hs8⟩; have HS8 := Aside0.mk hs8; clear hs8; have HH8 := Aside0.mk (And.intro hb8 (And.intro hc8 hl8)); have HK8 := Aside0.mk hk8; clear hb8 hc8 hl8 hk8) | ((with_reducible refine gate_builtin (b := .append) (xs := #[.tmp 63, .tmp 71]) rfl ?_); at_builtin; refine Kd.R_append kIt (w0 := w8) w6.heap.size rfl (.tmp 63) (.tmp 71) 27 26 (.agg #[.int .i64 0, .int .i64 0]) 16 rfl Try.underlying27 info_it rfl (by decide) (by decide) _ [⟨x1.k, p1⟩] ⟨x2.k, p2⟩ [.int .i64 x2.k, .int .i64 p2] (fun k => w6.heap.size ≤ k) (fun _ => False) rfl rfl (itM _ _ _ ⟨x2.k, p2⟩) (fun _ h => h.elim) (fun k h => Nat.le_trans (Nat.le_trans HB7.out.size HK8.out.1) h) (Kd.R_kept HO7.out (S := fun k => k = b) ⟨HK8.out.1, fun i hi hn => HK8.out.2 i hi hn (by simp)⟩ (fun k hk e => by have := HBL6.out; omega)) (Below.refl _ _) (Nat.le_trans HB7.out.size HK8.out.1) (by simp) ?_; intro v2 w9 ho hb hg hat; have HO9 := Aside0.mk (show Kd.R kIt 26 w9 w6.heap.size (fun k => w6.heap.size ≤ k) v2 [⟨x1.k, p1⟩, ⟨x2.k, p2⟩] from ho); have HG9 := Aside0.mk hg; clear ho hb hg hat) | fail)
        rw [rounds_succ]; go_wp2
        go_ret
        obtain ⟨M3, c3, rfl⟩ := Kd.R_slice HO9.out
        have h9 := Kd.R_reads' HO9.out
        have hbo : some b ≠ v1.ownBlock := fun e => by have := Kd.R_base HO7.out b e.symm; have := HBL6.out; omega
        refine ⟨⟨M3, c3, rfl, h9.2.1, h9.2.2⟩, ⟨A4, c4', (HG9.out.block b (blk_lt HH8.out.1) hbo).trans HH8.out.1, HH8.out.2.1, HH8.out.2.2 w9 ⟨HG9.out.size, fun i hi hn => HG9.out.block i hi (fun e => hn ⟨Kd.R_base HO7.out i e.symm, Kd.R_lt HO7.out i e.symm⟩)⟩⟩, ?_, S3.trans (S3.trans (S3.trans (S3.below HB0.out) (S3.trans HKc0.out.2 (S3.below HB5.out))) (S3.trans HS6.out (S3.below HB7.out))) (S3.trans HS8.out (S3.grown HG9.out))⟩
        exact ⟨by
            have h1 := HB0.out.size; have h2 := HKc.out.1; have h3 := HB5.out.size; have h4 := HK6.out.1; have h5 := HB7.out.size; have h6 := HK8.out.1; have h7 := HG9.out.size; omega, fun i hi hn _ => by
            have hk8 : KeepBut w w8 b none := keep_trans (keep_trans (KeepBut.of_below HB0.out b none) (keep_trans HKc.out (KeepBut.of_below HB5.out b none))) (keep_trans HK6.out (keep_trans (KeepBut.of_below HB7.out b none) HK8.out))
            refine (HG9.out.block i (Nat.lt_of_lt_of_le hi hk8.1) (fun e => ?_)).trans (hk8.2 i hi hn (by simp))
            have h0 := Kd.R_base HO7.out i e.symm
            have h1 := HB0.out.size; have h2 := HKc.out.1; have h3 := HB5.out.size; have h4 := HK6.out.1; omega⟩
      · simp at hr2
end Go.Proofs.Ytopkoganfnabgaa.H
namespace Go.Proofs.Ytopkoganfnabgaa.H
open Go.RowKit Go.Proofs.YtopkoganfnabgaaW.PrintWords Go.Proofs.YtopkoganfnabgaaW.PrintLast Go.Proofs.YtopkoganfnabgaaW.PrintMore
attribute [local go_sem] max2_int min2_int max_two min_two max_three min_three max_four min_four
set_option linter.unusedVariables false
set_option linter.unusedSimpArgs false
end Go.Proofs.Ytopkoganfnabgaa.H
namespace Go.Proofs.Ytopkoganfnabgaa.H
open Go.RowKit Go.Proofs.YtopkoganfnabgaaW.PrintWords Go.Proofs.YtopkoganfnabgaaW.PrintLast Go.Proofs.YtopkoganfnabgaaW.PrintMore
attribute [local go_sem] max2_int min2_int max_two min_two max_three min_three max_four min_four
set_option linter.unusedVariables false
set_option linter.unusedSimpArgs false
end Go.Proofs.Ytopkoganfnabgaa.H
