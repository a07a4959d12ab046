import Derived.Test.YtopkoganfnabgaaG4
import Derived.ChangeArms
import Derived.OpenShut
import Derived.Test.YtopkoganfnabgaaG10
import Derived.Test.YtopkoganfnabgaaG8
namespace Go.Proofs.Ytopkoganfnabgaa.H
open Go.RowKit Go.Proofs.YtopkoganfnabgaaW.PrintWords Go.Proofs.YtopkoganfnabgaaW.PrintLast Go.Proofs.YtopkoganfnabgaaW.PrintMore
attribute [local go_sem] max2_int min2_int max_two min_two max_three min_three max_four min_four
set_option linter.unusedVariables false
set_option linter.unusedSimpArgs false
/-- What a value of type t reads as, as a Lean datum of the kind d. -/
def Rd {α : Type} (P : Program) (t : TypeId) (d : Kd α) (I : α → Prop) : Prop :=
  ∀ (H : Type) (enc : TypeId × Value → H) (w : World) (base : Nat) (spare : Nat → Bool) (held : Bool) (fuel : Nat) (cs : List Value) (x : DataW H × List MemPlace), DataW.trod enc P w base spare held fuel t cs = some x → ∃ a, d.K w a cs ∧ I a
theorem rd_choose {α : Type} (n : Nat) (Q : Nat → α → Prop) (h : ∀ i, i < n → ∃ a, Q i a) : ∃ l : List α, l.length = n ∧ ∀ i a, l[i]? = some a → Q i a := by
  induction n with
  | zero => exact ⟨[], rfl, fun i a e => by simp at e⟩
  | succ n ih =>
    obtain ⟨l, hl, hq⟩ := ih (fun i hi => h i (by omega))
    obtain ⟨a, ha⟩ := h n (by omega)
    refine ⟨l ++ [a], by simp [hl], fun i b e => ?_⟩
    by_cases hi : i < l.length
    · rw [List.getElem?_append_left hi] at e; exact hq i b e
    · rw [List.getElem?_append_right (by omega)] at e
      have : i - l.length = 0 := by
        rcases Nat.eq_zero_or_pos (i - l.length) with h | h
        · exact h
        · rw [List.getElem?_eq_none (by simp; omega)] at e; cases e
      rw [this] at e
      have hin : i = n := by omega
      subst hin
      simp at e
      rw [← e]; exact ha
theorem mapM_get {α β : Type} (f : α → Option β) : ∀ (l : List α) (cs : List β), l.mapM f = some cs → ∀ (i : Nat) (a : α), l[i]? = some a → f a = cs[i]?
  | [], cs, h, i, a, e => by simp at e
  | x :: l, cs, h, i, a, e => by
    rw [List.mapM_cons] at h
    simp only [Option.bind_eq_bind, Option.bind_eq_some_iff, Option.pure_def, Option.some.injEq] at h
    obtain ⟨b, hb, bs, hbs, rfl⟩ := h
    cases i with
    | zero => simp at e; subst e; simpa using hb
    | succ i => simpa using mapM_get f l bs hbs i a (by simpa using e)
theorem cells_get {w : World} {base n : Nat} {a : Addr} {cs : List Value} (h : w.cells? base a n = some cs) : cs.length = n ∧ ∀ i, i < n → w.cell? (a.add i) = cs[i]? := by
  unfold World.cells? at h
  split at h
  · have h2 := mapM_get _ _ _ h
    refine ⟨?_, fun i hi => h2 i i (by simp [hi])⟩
    have e := congrArg (Option.map List.length) h
    have : ∀ (l : List Nat) (bs : List Value), (l.mapM fun i => w.cell? (a.add i)) = some bs → bs.length = l.length := by
      intro l
      induction l with
      | nil => intro bs hb; simp at hb; subst hb; rfl
      | cons y l ih =>
        intro bs hb
        rw [List.mapM_cons] at hb
        simp only [Option.bind_eq_bind, Option.bind_eq_some_iff, Option.pure_def, Option.some.injEq] at hb
        obtain ⟨b, _, bs', hbs, rfl⟩ := hb
        simp [ih bs' hbs]
    simpa using this _ _ h
  · cases h
theorem rd_slice {α : Type} {P : Program} {t e : TypeId} {d : Kd α} {I : α → Prop} (ht : P.underlying t = some (.slice e)) (hc : P.cellsOf e = d.sz) (he : Rd P e d I) : Rd P t (Kd.slice e d) (fun xs => ∀ x ∈ xs, I x) := by
  intro H enc w base spare held fuel cs x h
  rcases DataW.trod_slice ht h with ⟨rfl, _⟩ | ⟨a, len, cap, elems, rest, n, _, rfl, _, _, hl, hm, hlen, hel, _, _⟩
  · exact ⟨[], ⟨none, 0, rfl, Nat.le_refl _, rfl, by simp, fun h => absurd h (by simp)⟩, fun _ hx => absurd hx (by simp)⟩
  · obtain ⟨xs, hxl, hxs⟩ := rd_choose len (fun i y => (∃ c, c.length = d.sz ∧ d.K w y c ∧ ∀ j u, c[j]? = some u → w.cell? (a.add (i * d.sz + j)) = some u) ∧ I y) (fun i hi => by
      have h1 := hel i hi
      rw [List.getElem?_eq_getElem (by omega), Option.bind_eq_some_iff, hc] at h1
      obtain ⟨c, h2, h3⟩ := h1
      obtain ⟨y, hk, hI⟩ := he H enc w base spare held n c _ h3
      obtain ⟨c1, c2⟩ := cells_get h2
      refine ⟨y, ⟨c, c1, hk, fun j u hu => ?_⟩, hI⟩
      have hj : j < c.length := (List.getElem?_eq_some_iff.1 hu).1
      have := c2 j (by omega)
      rw [hu] at this
      rw [← this, Addr.add_add])
    refine ⟨xs, ⟨some a, cap, by rw [hxl], by omega, rfl, by unfold maxLen at hm; omega, fun _ => ⟨a, rfl, fun j p hp => (hxs j p hp).1⟩⟩, fun x hx => ?_⟩
    obtain ⟨i, hi, rfl⟩ := List.getElem_of_mem hx
    exact (hxs i _ (List.getElem?_eq_getElem hi)).2
theorem cons_of {α : Type} {l : List α} {n : Nat} (h : l.length = n + 1) : ∃ a t, l = a :: t ∧ t.length = n := by
  cases l with
  | nil => simp at h
  | cons a t => exact ⟨a, t, rfl, by simpa using h⟩
theorem field {H : Type} {enc : TypeId × Value → H} {P : Program} {w : World} {base : Nat} {spare : Nat → Bool} {held : Bool} {n : Nat} {t : TypeId} {cs : List Value} {xs : List (DataW H × List MemPlace)} {j : Nat}
    (h : DataW.trod enc P w base spare held n t cs = xs[j]?) (hj : j < xs.length) : DataW.trod enc P w base spare held n t cs = some xs[j] := by rw [h, List.getElem?_eq_getElem hj]
def kHp : Kd Hp := (Kd.pair (Kd.slice 79 kCl) (Kd.int .i64)).iso (fun h => (h.c, h.keep))
theorem rd_item : Rd Try.prog 26 kIt (fun _ => True) := by
  intro H enc w base spare held fuel cs x h
  obtain ⟨xs, n, rfl, rfl, hl, hx, hf⟩ := DataW.trod_struct Try.underlying26 h
  rw [show Try.prog.cellsOf 26 = 2 by kernel_rfl] at hl
  have hxl : xs.length = 2 := hx
  obtain ⟨z0, y0, rfl, hl0⟩ := cons_of hl
  obtain ⟨z1, y1, rfl, hl1⟩ := cons_of hl0
  obtain rfl := List.eq_nil_of_length_eq_zero hl1
  have g0 : DataW.trod enc Try.prog w base spare held n 3 (([z0, z1].drop 0).take (Try.prog.cellsOf 3)) = some xs[0] := field (hf 0 _ rfl) (by omega)
  rw [show Try.prog.cellsOf 3 = 1 by kernel_rfl] at g0
  replace g0 : DataW.trod enc Try.prog w base spare held n 3 [z0] = some xs[0] := g0
  have g1 : DataW.trod enc Try.prog w base spare held n 3 (([z0, z1].drop 1).take (Try.prog.cellsOf 3)) = some xs[1] := field (hf 1 _ rfl) (by omega)
  rw [show Try.prog.cellsOf 3 = 1 by kernel_rfl] at g1
  replace g1 : DataW.trod enc Try.prog w base spare held n 3 [z1] = some xs[1] := g1
  obtain ⟨a, e0, _, i0⟩ := DataW.trod_int Try.underlying3 g0
  obtain rfl := (List.cons.inj e0).1
  obtain ⟨b, e1, _, i1⟩ := DataW.trod_int Try.underlying3 g1
  obtain rfl := (List.cons.inj e1).1
  exact ⟨⟨a, b⟩, ⟨[.int .i64 a], [.int .i64 b], rfl, rfl, rfl⟩, trivial⟩
theorem rd_items : Rd Try.prog 27 (Kd.slice 26 kIt) (fun xs => ∀ x ∈ xs, True) := rd_slice Try.underlying27 (by kernel_rfl) rd_item
theorem rd_node : Rd Try.prog 77 kNd (fun _ => True) := by
  intro H enc w base spare held fuel cs x h
  obtain ⟨xs, n, rfl, rfl, hl, hx, hf⟩ := DataW.trod_struct Try.underlying77 h
  rw [show Try.prog.cellsOf 77 = 2 by kernel_rfl] at hl
  have hxl : xs.length = 2 := hx
  obtain ⟨z0, y0, rfl, hl0⟩ := cons_of hl
  obtain ⟨z1, y1, rfl, hl1⟩ := cons_of hl0
  obtain rfl := List.eq_nil_of_length_eq_zero hl1
  have g0 : DataW.trod enc Try.prog w base spare held n 4 (([z0, z1].drop 0).take (Try.prog.cellsOf 4)) = some xs[0] := field (hf 0 _ rfl) (by omega)
  rw [show Try.prog.cellsOf 4 = 1 by kernel_rfl] at g0
  replace g0 : DataW.trod enc Try.prog w base spare held n 4 [z0] = some xs[0] := g0
  have g1 : DataW.trod enc Try.prog w base spare held n 27 (([z0, z1].drop 1).take (Try.prog.cellsOf 27)) = some xs[1] := field (hf 1 _ rfl) (by omega)
  rw [show Try.prog.cellsOf 27 = 1 by kernel_rfl] at g1
  replace g1 : DataW.trod enc Try.prog w base spare held n 27 [z1] = some xs[1] := g1
  obtain ⟨a, e0, _⟩ := DataW.trod_bool Try.underlying4 g0
  obtain rfl := (List.cons.inj e0).1
  obtain ⟨l, k1, _⟩ := rd_items H enc w base spare held n _ _ g1
  exact ⟨⟨a, l⟩, ⟨[.bool a], [z1], rfl, rfl, k1⟩, trivial⟩
theorem rd_cell : Rd Try.prog 79 kCl (fun _ => True) := by
  intro H enc w base spare held fuel cs x h
  obtain ⟨xs, n, rfl, rfl, hl, hx, hf⟩ := DataW.trod_struct Try.underlying79 h
  rw [show Try.prog.cellsOf 79 = 4 by kernel_rfl] at hl
  have hxl : xs.length = 3 := hx
  obtain ⟨z0, y0, rfl, hl0⟩ := cons_of hl
  obtain ⟨z1, y1, rfl, hl1⟩ := cons_of hl0
  obtain ⟨z2, y2, rfl, hl2⟩ := cons_of hl1
  obtain ⟨z3, y3, rfl, hl3⟩ := cons_of hl2
  obtain rfl := List.eq_nil_of_length_eq_zero hl3
  have g0 : DataW.trod enc Try.prog w base spare held n 3 (([z0, z1, z2, z3].drop 0).take (Try.prog.cellsOf 3)) = some xs[0] := field (hf 0 _ rfl) (by omega)
  rw [show Try.prog.cellsOf 3 = 1 by kernel_rfl] at g0
  replace g0 : DataW.trod enc Try.prog w base spare held n 3 [z0] = some xs[0] := g0
  have g1 : DataW.trod enc Try.prog w base spare held n 4 (([z0, z1, z2, z3].drop 1).take (Try.prog.cellsOf 4)) = some xs[1] := field (hf 1 _ rfl) (by omega)
  rw [show Try.prog.cellsOf 4 = 1 by kernel_rfl] at g1
  replace g1 : DataW.trod enc Try.prog w base spare held n 4 [z1] = some xs[1] := g1
  have g2 : DataW.trod enc Try.prog w base spare held n 77 (([z0, z1, z2, z3].drop 2).take (Try.prog.cellsOf 77)) = some xs[2] := field (hf 2 _ rfl) (by omega)
  rw [show Try.prog.cellsOf 77 = 2 by kernel_rfl] at g2
  replace g2 : DataW.trod enc Try.prog w base spare held n 77 [z2, z3] = some xs[2] := g2
  obtain ⟨a, e0, _, i0⟩ := DataW.trod_int Try.underlying3 g0
  obtain rfl := (List.cons.inj e0).1
  obtain ⟨b, e1, _⟩ := DataW.trod_bool Try.underlying4 g1
  obtain rfl := (List.cons.inj e1).1
  obtain ⟨n', k2, _⟩ := rd_node H enc w base spare held n _ _ g2
  exact ⟨⟨a, b, n'⟩, ⟨[.int .i64 a], [.bool b, z2, z3], rfl, rfl, [.bool b], [z2, z3], rfl, rfl, k2⟩, trivial⟩
theorem rd_cells : Rd Try.prog 22 (Kd.slice 79 kCl) (fun xs => ∀ x ∈ xs, True) := rd_slice Try.underlying22 (by kernel_rfl) rd_cell
theorem rd_heap : Rd Try.prog 24 kHp (fun _ => True) := by
  intro H enc w base spare held fuel cs x h
  obtain ⟨xs, n, rfl, rfl, hl, hx, hf⟩ := DataW.trod_struct Try.underlying24 h
  rw [show Try.prog.cellsOf 24 = 2 by kernel_rfl] at hl
  have hxl : xs.length = 2 := hx
  obtain ⟨z0, y0, rfl, hl0⟩ := cons_of hl
  obtain ⟨z1, y1, rfl, hl1⟩ := cons_of hl0
  obtain rfl := List.eq_nil_of_length_eq_zero hl1
  have g0 : DataW.trod enc Try.prog w base spare held n 22 (([z0, z1].drop 0).take (Try.prog.cellsOf 22)) = some xs[0] := field (hf 0 _ rfl) (by omega)
  rw [show Try.prog.cellsOf 22 = 1 by kernel_rfl] at g0
  replace g0 : DataW.trod enc Try.prog w base spare held n 22 [z0] = some xs[0] := g0
  have g1 : DataW.trod enc Try.prog w base spare held n 3 (([z0, z1].drop 1).take (Try.prog.cellsOf 3)) = some xs[1] := field (hf 1 _ rfl) (by omega)
  rw [show Try.prog.cellsOf 3 = 1 by kernel_rfl] at g1
  replace g1 : DataW.trod enc Try.prog w base spare held n 3 [z1] = some xs[1] := g1
  obtain ⟨l, k0, _⟩ := rd_cells H enc w base spare held n _ _ g0
  obtain ⟨a, e1, _, i1⟩ := DataW.trod_int Try.underlying3 g1
  obtain rfl := (List.cons.inj e1).1
  exact ⟨⟨l, a⟩, ⟨[z0], [.int .i64 a], rfl, k0, rfl⟩, trivial⟩
theorem rd_hp {H : Type} {enc : TypeId × Value → H} {w : World} {base : Nat} {spare : Nat → Bool} {held : Bool} {fuel : Nat} {cs : List Value} {x : DataW H × List MemPlace} (h : DataW.trod enc Try.prog w base spare held fuel 24 cs = some x) : ∃ (A : Option Addr) (c : Nat) (g : Hp), cs = [.slice A g.c.length c, .int .i64 g.keep] ∧ g.c.length ≤ c ∧ kCl.C w A g.c.length g.c := by
  obtain ⟨g, ⟨c0, c1, rfl, ⟨A, c, rfl, h1, h2⟩, rfl⟩, _⟩ := rd_heap H enc w base spare held fuel cs x h
  exact ⟨A, c, g, rfl, h1, h2⟩
theorem rd_it {H : Type} {enc : TypeId × Value → H} {w : World} {base : Nat} {spare : Nat → Bool} {held : Bool} {fuel : Nat} {cs : List Value} {x : DataW H × List MemPlace} (h : DataW.trod enc Try.prog w base spare held fuel 26 cs = some x) : ∃ y : It, cs = [.int .i64 y.k, .int .i64 y.v] := by
  obtain ⟨y, ⟨c0, c1, rfl, rfl, rfl⟩, _⟩ := rd_item H enc w base spare held fuel cs x h
  exact ⟨y, rfl⟩
theorem rd_pcuts {H : Type} {enc : TypeId × Value → H} {w : World} {base : Nat} {spare : Nat → Bool} {held : Bool} {fuel : Nat} {cs : List Value} {x : DataW H × List MemPlace} (h : DataW.trod enc Try.prog w base spare held fuel 71 cs = some x) : ∃ (A : Option Addr) (c : Nat) (g : Hp) (r lo hi m : Int), cs = [.slice A g.c.length c, .int .i64 g.keep, .int .i64 r, .int .i64 lo, .int .i64 hi, .int .u8 m] ∧ g.c.length ≤ c ∧ kCl.C w A g.c.length g.c ∧ 0 ≤ m ∧ m ≤ 255 := by
  obtain ⟨xs, n, rfl, rfl, hl, hx, hf⟩ := DataW.trod_struct Try.underlying71 h
  rw [show Try.prog.cellsOf 71 = 6 by kernel_rfl] at hl
  have hxl : xs.length = 5 := hx
  obtain ⟨z0, y0, rfl, hl0⟩ := cons_of hl
  obtain ⟨z1, y1, rfl, hl1⟩ := cons_of hl0
  obtain ⟨z2, y2, rfl, hl2⟩ := cons_of hl1
  obtain ⟨z3, y3, rfl, hl3⟩ := cons_of hl2
  obtain ⟨z4, y4, rfl, hl4⟩ := cons_of hl3
  obtain ⟨z5, y5, rfl, hl5⟩ := cons_of hl4
  obtain rfl := List.eq_nil_of_length_eq_zero hl5
  have g0 : DataW.trod enc Try.prog w base spare held n 24 (([z0, z1, z2, z3, z4, z5].drop 0).take (Try.prog.cellsOf 24)) = some xs[0] := field (hf 0 _ rfl) (by omega)
  rw [show Try.prog.cellsOf 24 = 2 by kernel_rfl] at g0
  replace g0 : DataW.trod enc Try.prog w base spare held n 24 [z0, z1] = some xs[0] := g0
  have g1 : DataW.trod enc Try.prog w base spare held n 3 (([z0, z1, z2, z3, z4, z5].drop 2).take (Try.prog.cellsOf 3)) = some xs[1] := field (hf 1 _ rfl) (by omega)
  rw [show Try.prog.cellsOf 3 = 1 by kernel_rfl] at g1
  replace g1 : DataW.trod enc Try.prog w base spare held n 3 [z2] = some xs[1] := g1
  have g2 : DataW.trod enc Try.prog w base spare held n 3 (([z0, z1, z2, z3, z4, z5].drop 3).take (Try.prog.cellsOf 3)) = some xs[2] := field (hf 2 _ rfl) (by omega)
  rw [show Try.prog.cellsOf 3 = 1 by kernel_rfl] at g2
  replace g2 : DataW.trod enc Try.prog w base spare held n 3 [z3] = some xs[2] := g2
  have g3 : DataW.trod enc Try.prog w base spare held n 3 (([z0, z1, z2, z3, z4, z5].drop 4).take (Try.prog.cellsOf 3)) = some xs[3] := field (hf 3 _ rfl) (by omega)
  rw [show Try.prog.cellsOf 3 = 1 by kernel_rfl] at g3
  replace g3 : DataW.trod enc Try.prog w base spare held n 3 [z4] = some xs[3] := g3
  have g4 : DataW.trod enc Try.prog w base spare held n 5 (([z0, z1, z2, z3, z4, z5].drop 5).take (Try.prog.cellsOf 5)) = some xs[4] := field (hf 4 _ rfl) (by omega)
  rw [show Try.prog.cellsOf 5 = 1 by kernel_rfl] at g4
  replace g4 : DataW.trod enc Try.prog w base spare held n 5 [z5] = some xs[4] := g4
  obtain ⟨A, c, g, e0, hc, hr⟩ := rd_hp g0
  simp only [List.cons.injEq, and_true] at e0
  obtain ⟨rfl, rfl⟩ := e0
  obtain ⟨r, e1, _, i1⟩ := DataW.trod_int Try.underlying3 g1
  obtain rfl := (List.cons.inj e1).1
  obtain ⟨lo, e2, _, i2⟩ := DataW.trod_int Try.underlying3 g2
  obtain rfl := (List.cons.inj e2).1
  obtain ⟨hi, e3, _, i3⟩ := DataW.trod_int Try.underlying3 g3
  obtain rfl := (List.cons.inj e3).1
  obtain ⟨m, e4, _, i4⟩ := DataW.trod_int Try.underlying5 g4
  obtain rfl := (List.cons.inj e4).1
  have hw4 : 0 ≤ m ∧ m ≤ 255 := by simp only [Lit.wf, IntKind.min, IntKind.max, IntKind.signed, IntKind.bits, Bool.and_eq_true] at i4; simp at i4; omega
  exact ⟨A, c, g, r, lo, hi, m, rfl, hc, hr, hw4⟩
end Go.Proofs.Ytopkoganfnabgaa.H
namespace Go.Proofs.Ytopkoganfnabgaa.H
open Go.RowKit Go.Proofs.YtopkoganfnabgaaW.PrintWords Go.Proofs.YtopkoganfnabgaaW.PrintLast Go.Proofs.YtopkoganfnabgaaW.PrintMore
attribute [local go_sem] max2_int min2_int max_two min_two max_three min_three max_four min_four
set_option linter.unusedVariables false
set_option linter.unusedSimpArgs false
theorem del_ins : ∀ {l : List It} {x : It}, l.Pairwise (fun a b => a.k < b.k) → (∀ y ∈ l, y.k ≠ x.k) → del (ins l x) x.k = l := by
  intro l x up h
  have e1 : ∀ {l : List It}, l.Pairwise (fun a b => a.k < b.k) → (∀ y ∈ l, y.k ≠ x.k) → l.filter (fun y => decide (y.k < x.k)) ++ l.filter (fun y => decide (x.k < y.k)) = l := by
    intro l
    induction l with
    | nil => intro _ _; rfl
    | cons y r ih =>
      intro up h
      obtain ⟨u1, u2⟩ := List.pairwise_cons.mp up
      have hr : ∀ z ∈ r, z.k ≠ x.k := fun z hz => h z (List.mem_cons_of_mem _ hz)
      have hy := h y List.mem_cons_self
      by_cases hl : y.k < x.k
      · rw [List.filter_cons, if_pos (by simpa using hl), List.filter_cons, if_neg (by simp; omega), List.cons_append, ih u2 hr]
      · rw [List.filter_eq_nil_iff.mpr, List.nil_append, List.filter_eq_self.mpr]
        · intro z hz
          rcases List.mem_cons.mp hz with rfl | hz
          · simp; omega
          · have := u1 z hz; simp; omega
        · intro z hz
          rcases List.mem_cons.mp hz with rfl | hz
          · simp; omega
          · have := u1 z hz; simp; omega
  have e2 := e1 up h
  have h2 : ∀ y ∈ l.filter (fun y => decide (y.k < x.k)) ++ l.filter (fun y => decide (x.k < y.k)), decide (y.k ≠ x.k) = true := by
    rw [e2]
    exact fun y hy => decide_eq_true (h y hy)
  unfold del ins
  rw [List.filter_append, List.filter_cons, if_neg (by simp), ← List.filter_append, List.filter_eq_self.mpr h2, e2]
set_option maxHeartbeats 8000000 in
set_option maxRecDepth 100000 in
theorem back_walk (A : Option Addr) (c : Nat) (h : Hp) (root : Int) (x : It) (w : World) (hr : kCl.C w A h.c.length h.c) (hcc : h.c.length ≤ c) :
    Calls Try.prog 10 #[.agg #[.slice A h.c.length c, .int .i64 h.keep], .int .i64 root, .agg #[.int .i64 x.k, .int .i64 x.v]] w fun e w' => e = .returned (.bool true) ∧ Below w.heap.size w w' := by
  obtain ⟨W1, hW1⟩ : ∃ W1, W1 = (w.alloc (.cells #[.slice A h.c.length c, .int .i64 h.keep] 24)).alloc (.cells #[.int .i64 x.k, .int .i64 x.v] 26) := ⟨_, rfl⟩
  have S0 := Aside0.mk (show PqSt w W1 w.heap.size A c h by rw [hW1]; exact ⟨below_alloc (below_alloc (Below.refl _ _) _) _, (Bx.new hr hcc).step (below_alloc (Below.refl _ _) _)⟩)
  have X0 := Aside0.mk (show Ix W1 (w.heap.size + 1) x by rw [hW1]; exact ⟨blk2 w _ _⟩)
  have hW1' := Aside0.mk hW1
  obtain ⟨b, hb⟩ := fine_some (h := h) (root := root) 40
  have HFI := Aside0.mk (show ∀ (W : World) (Ar : Option Addr), (Kd.int .i64).C W Ar 1 [root] → kCl.C W A h.c.length h.c → Calls Try.prog 18 #[.agg #[.slice A h.c.length c, .int .i64 h.keep], .slice Ar 1 1, .slice none 0 0, .int .i64 40] W fun e w' => e = .returned (.bool b) ∧ Below W.heap.size W w' from fun W Ar hrr hcl => fine_walk A Ar c 1 h [root] 40 b W hcl hrr hb)
  clear hW1 hr
  cases b with
  | false =>
    clear hb
    (go_enter Try.func10, Try.ntmps10; go_upto_region 1 with (fail); rw [← hW1'.out]; go_upto_region 2 with (first | (go_at_call 27; (with_reducible refine (shown10_walk _).mono ?_); rintro e w1 ⟨rfl, hb1⟩; have S1 := Aside0.mk (S0.out.step hb1); have X1 := Aside0.mk (X0.out.step hb1); have c0 := S1.out.hh.c0; have c1 := S1.out.hh.c1; clear hb1) | fail))
    go_wp2_with (first | (go_at_call 18; (with_reducible refine (HFI.out _ _ (one_int _ root) (Kd.C_below S1.out.hh.cl (by repeat (first | (with_reducible exact Below.refl _ _) | (with_reducible refine below_alloc ?_ _) | (with_reducible refine below_drew1 ?_) | (with_reducible refine pw_below_drewN ?_ _) | fail)))).mono ?_); rintro e w2 ⟨rfl, hb2⟩; have HB2 := Aside0.mk (below_step (below_alloc (Below.refl _ _) _) hb2); have S2 := Aside0.mk (S1.out.step HB2.out); have X2 := Aside0.mk (X1.out.step HB2.out); have y0 := S2.out.hh.c0; have y1 := S2.out.hh.c1; have x0 := X2.out.c0; clear hb2) | fail)
    go_ret
    exact ⟨rfl, S2.out.b0⟩
  | true =>
    obtain ⟨hl40, d, l, fp⟩ := fine_facts hb
    clear hb
    obtain ⟨a, p, e, hput, hcase⟩ := fp.put x.k x.v true
    have HPU := Aside0.mk (fun (W : World) (hcl : kCl.C W A h.c.length h.c) => refPut_walk A c h a root x.k x.v p e true 25 W hcl hcc hput)
    obtain ⟨gv, gn, hgv⟩ : ∃ gv gn, getL l x.k = (gv, gn) := ⟨_, _, rfl⟩
    have HGT := Aside0.mk (show ∀ W : World, kCl.C W A h.c.length h.c → Calls Try.prog 25 #[.agg #[.slice A h.c.length c, .int .i64 h.keep], .int .i64 root, .int .i64 x.k] W fun e w' => e = .returned (.tuple #[.int .i64 gv, .int .i64 gn]) ∧ Below W.heap.size W w' from fun W hcl => by
      have := get07_walk 21 A c h root x.k l W hcl fp.tr.list
      rw [hgv] at this
      exact this)
    have hgc := getL_cases l x.k
    rw [hgv] at hgc
    have HFP := Aside0.mk fp
    have HL40 := Aside0.mk hl40
    clear hput hgv hcc fp hl40
    rcases hcase with ⟨rfl, hgh, hpr, hno⟩ | ⟨rfl, hgh, hpr, _, hno⟩ | ⟨rfl, _, hyes, hp0, hgl, hgk, hlo, hhi, d', hd', fp'⟩
    · clear hgc hgh hpr hno
      (go_enter Try.func10, Try.ntmps10; go_upto_region 1 with (fail); rw [← hW1'.out]; go_upto_region 2 with (first | (go_at_call 27; (with_reducible refine (shown10_walk _).mono ?_); rintro e w1 ⟨rfl, hb1⟩; have S1 := Aside0.mk (S0.out.step hb1); have X1 := Aside0.mk (X0.out.step hb1); have c0 := S1.out.hh.c0; have c1 := S1.out.hh.c1; clear hb1) | fail))
      (go_upto_region 5 with (first | (go_at_call 18; (with_reducible refine (HFI.out _ _ (one_int _ root) (Kd.C_below S1.out.hh.cl (by repeat (first | (with_reducible exact Below.refl _ _) | (with_reducible refine below_alloc ?_ _) | (with_reducible refine below_drew1 ?_) | (with_reducible refine pw_below_drewN ?_ _) | fail)))).mono ?_); rintro e w2 ⟨rfl, hb2⟩; have HB2 := Aside0.mk (below_step (below_alloc (Below.refl _ _) _) hb2); have S2 := Aside0.mk (S1.out.step HB2.out); have X2 := Aside0.mk (X1.out.step HB2.out); have y0 := S2.out.hh.c0; have y1 := S2.out.hh.c1; have x0 := X2.out.c0; clear hb2) | (go_at_call 25; (with_reducible refine (HGT.out _ (Kd.C_below S2.out.hh.cl (by repeat (first | (with_reducible exact Below.refl _ _) | (with_reducible refine below_alloc ?_ _) | (with_reducible refine below_drew1 ?_) | (with_reducible refine pw_below_drewN ?_ _) | (with_reducible exact Below.refl _ _))))).mono ?_); rintro e w3 ⟨rfl, hb3⟩; have S3 := Aside0.mk (S2.out.step hb3); have X3 := Aside0.mk (X2.out.step hb3); have z0 := S3.out.hh.c0; have z1 := S3.out.hh.c1; have z2 := X3.out.c0; have z3 := X3.out.c1; clear hb3) | fail); go_upto_region 6 with (first | (go_at_call 14; (with_reducible refine (HPU.out _ (Kd.C_below S3.out.hh.cl (by repeat (first | (with_reducible exact Below.refl _ _) | (with_reducible refine below_alloc ?_ _) | (with_reducible refine below_drew1 ?_) | (with_reducible refine pw_below_drewN ?_ _) | (with_reducible exact Below.refl _ _))))).mono ?_); rintro e w4 ⟨B4, c4, rfl, hc4, hr4, hb4⟩; have HR4 := Aside0.mk (And.intro hc4 hr4); have HB4 := Aside0.mk hb4; clear hc4 hr4 hb4) | fail))
      (obtain ⟨W5, hW5⟩ : ∃ W5, W5 = w4.alloc (.cells #[.slice B4 a.c.length c4, .int .i64 a.keep] 24) := ⟨_, rfl⟩; have HB5 := Aside0.mk (show Below w3.heap.size w3 W5 by rw [hW5]; exact below_alloc HB4.out _); have S5 := Aside0.mk (S3.out.step HB5.out); have X5 := Aside0.mk (X3.out.step HB5.out); have G5 := Aside0.mk (show Bx W5 w4.heap.size B4 c4 a by rw [hW5]; exact Bx.new HR4.out.2 HR4.out.1); rw [← hW5]; clear hW5; have d0 := G5.out.c0; have d1 := G5.out.c1; have d2 := X5.out.c0)
      go_wp2
      go_ret
      exact ⟨rfl, S5.out.b0⟩
    · clear hgc hgh hpr hno
      (go_enter Try.func10, Try.ntmps10; go_upto_region 1 with (fail); rw [← hW1'.out]; go_upto_region 2 with (first | (go_at_call 27; (with_reducible refine (shown10_walk _).mono ?_); rintro e w1 ⟨rfl, hb1⟩; have S1 := Aside0.mk (S0.out.step hb1); have X1 := Aside0.mk (X0.out.step hb1); have c0 := S1.out.hh.c0; have c1 := S1.out.hh.c1; clear hb1) | fail))
      (go_upto_region 5 with (first | (go_at_call 18; (with_reducible refine (HFI.out _ _ (one_int _ root) (Kd.C_below S1.out.hh.cl (by repeat (first | (with_reducible exact Below.refl _ _) | (with_reducible refine below_alloc ?_ _) | (with_reducible refine below_drew1 ?_) | (with_reducible refine pw_below_drewN ?_ _) | fail)))).mono ?_); rintro e w2 ⟨rfl, hb2⟩; have HB2 := Aside0.mk (below_step (below_alloc (Below.refl _ _) _) hb2); have S2 := Aside0.mk (S1.out.step HB2.out); have X2 := Aside0.mk (X1.out.step HB2.out); have y0 := S2.out.hh.c0; have y1 := S2.out.hh.c1; have x0 := X2.out.c0; clear hb2) | (go_at_call 25; (with_reducible refine (HGT.out _ (Kd.C_below S2.out.hh.cl (by repeat (first | (with_reducible exact Below.refl _ _) | (with_reducible refine below_alloc ?_ _) | (with_reducible refine below_drew1 ?_) | (with_reducible refine pw_below_drewN ?_ _) | (with_reducible exact Below.refl _ _))))).mono ?_); rintro e w3 ⟨rfl, hb3⟩; have S3 := Aside0.mk (S2.out.step hb3); have X3 := Aside0.mk (X2.out.step hb3); have z0 := S3.out.hh.c0; have z1 := S3.out.hh.c1; have z2 := X3.out.c0; have z3 := X3.out.c1; clear hb3) | fail); go_upto_region 6 with (first | (go_at_call 14; (with_reducible refine (HPU.out _ (Kd.C_below S3.out.hh.cl (by repeat (first | (with_reducible exact Below.refl _ _) | (with_reducible refine below_alloc ?_ _) | (with_reducible refine below_drew1 ?_) | (with_reducible refine pw_below_drewN ?_ _) | (with_reducible exact Below.refl _ _))))).mono ?_); rintro e w4 ⟨B4, c4, rfl, hc4, hr4, hb4⟩; have HR4 := Aside0.mk (And.intro hc4 hr4); have HB4 := Aside0.mk hb4; clear hc4 hr4 hb4) | fail))
      (obtain ⟨W5, hW5⟩ : ∃ W5, W5 = w4.alloc (.cells #[.slice B4 a.c.length c4, .int .i64 a.keep] 24) := ⟨_, rfl⟩; have HB5 := Aside0.mk (show Below w3.heap.size w3 W5 by rw [hW5]; exact below_alloc HB4.out _); have S5 := Aside0.mk (S3.out.step HB5.out); have X5 := Aside0.mk (X3.out.step HB5.out); have G5 := Aside0.mk (show Bx W5 w4.heap.size B4 c4 a by rw [hW5]; exact Bx.new HR4.out.2 HR4.out.1); rw [← hW5]; clear hW5; have d0 := G5.out.c0; have d1 := G5.out.c1; have d2 := X5.out.c0)
      go_wp2
      go_ret
      exact ⟨rfl, S5.out.b0⟩
    · rcases hgc with ⟨_, e0⟩ | ⟨hnk, e0⟩
      · obtain rfl : gn = 0 := e0
        clear hyes hp0 hgl hgk hlo hhi hd' fp'
        (go_enter Try.func10, Try.ntmps10; go_upto_region 1 with (fail); rw [← hW1'.out]; go_upto_region 2 with (first | (go_at_call 27; (with_reducible refine (shown10_walk _).mono ?_); rintro e w1 ⟨rfl, hb1⟩; have S1 := Aside0.mk (S0.out.step hb1); have X1 := Aside0.mk (X0.out.step hb1); have c0 := S1.out.hh.c0; have c1 := S1.out.hh.c1; clear hb1) | fail))
        (go_upto_region 5 with (first | (go_at_call 18; (with_reducible refine (HFI.out _ _ (one_int _ root) (Kd.C_below S1.out.hh.cl (by repeat (first | (with_reducible exact Below.refl _ _) | (with_reducible refine below_alloc ?_ _) | (with_reducible refine below_drew1 ?_) | (with_reducible refine pw_below_drewN ?_ _) | fail)))).mono ?_); rintro e w2 ⟨rfl, hb2⟩; have HB2 := Aside0.mk (below_step (below_alloc (Below.refl _ _) _) hb2); have S2 := Aside0.mk (S1.out.step HB2.out); have X2 := Aside0.mk (X1.out.step HB2.out); have y0 := S2.out.hh.c0; have y1 := S2.out.hh.c1; have x0 := X2.out.c0; clear hb2) | (go_at_call 25; (with_reducible refine (HGT.out _ (Kd.C_below S2.out.hh.cl (by repeat (first | (with_reducible exact Below.refl _ _) | (with_reducible refine below_alloc ?_ _) | (with_reducible refine below_drew1 ?_) | (with_reducible refine pw_below_drewN ?_ _) | (with_reducible exact Below.refl _ _))))).mono ?_); rintro e w3 ⟨rfl, hb3⟩; have S3 := Aside0.mk (S2.out.step hb3); have X3 := Aside0.mk (X2.out.step hb3); have z0 := S3.out.hh.c0; have z1 := S3.out.hh.c1; have z2 := X3.out.c0; have z3 := X3.out.c1; clear hb3) | fail); go_upto_region 6 with (first | (go_at_call 14; (with_reducible refine (HPU.out _ (Kd.C_below S3.out.hh.cl (by repeat (first | (with_reducible exact Below.refl _ _) | (with_reducible refine below_alloc ?_ _) | (with_reducible refine below_drew1 ?_) | (with_reducible refine pw_below_drewN ?_ _) | (with_reducible exact Below.refl _ _))))).mono ?_); rintro e w4 ⟨B4, c4, rfl, hc4, hr4, hb4⟩; have HR4 := Aside0.mk (And.intro hc4 hr4); have HB4 := Aside0.mk hb4; clear hc4 hr4 hb4) | fail))
        (obtain ⟨W5, hW5⟩ : ∃ W5, W5 = w4.alloc (.cells #[.slice B4 a.c.length c4, .int .i64 a.keep] 24) := ⟨_, rfl⟩; have HB5 := Aside0.mk (show Below w3.heap.size w3 W5 by rw [hW5]; exact below_alloc HB4.out _); have S5 := Aside0.mk (S3.out.step HB5.out); have X5 := Aside0.mk (X3.out.step HB5.out); have G5 := Aside0.mk (show Bx W5 w4.heap.size B4 c4 a by rw [hW5]; exact Bx.new HR4.out.2 HR4.out.1); rw [← hW5]; clear hW5; have d0 := G5.out.c0; have d1 := G5.out.c1; have d2 := X5.out.c0)
        go_wp2
        go_ret
        exact ⟨rfl, S5.out.b0⟩
      · obtain rfl : gn = 4 := e0
        obtain ⟨b, q, e, hdel, hcase⟩ := fp'.del x.k
        have HDE := Aside0.mk (fun (B : Option Addr) (cb : Nat) (W : World) (hcl : kCl.C W B a.c.length a.c) (hle : a.c.length ≤ cb) => pdel_walk B cb a b p x.k q e W hcl (by have := HL40.out; omega) hle hdel)
        have HAL := Aside0.mk hgl
        clear hyes hp0 hgl hgk hlo hhi hd' hdel
        rcases hcase with ⟨rfl, _, _, hz⟩ | ⟨rfl, hgh, hpr, _, _⟩ | ⟨rfl, _, _, hbl, _, d2, _, fp2⟩
        · exact absurd rfl (hz x (by unfold ins; simp))
        · clear hgh hpr fp' hnk
          (go_enter Try.func10, Try.ntmps10; go_upto_region 1 with (fail); rw [← hW1'.out]; go_upto_region 2 with (first | (go_at_call 27; (with_reducible refine (shown10_walk _).mono ?_); rintro e w1 ⟨rfl, hb1⟩; have S1 := Aside0.mk (S0.out.step hb1); have X1 := Aside0.mk (X0.out.step hb1); have c0 := S1.out.hh.c0; have c1 := S1.out.hh.c1; clear hb1) | fail))
          (go_upto_region 5 with (first | (go_at_call 18; (with_reducible refine (HFI.out _ _ (one_int _ root) (Kd.C_below S1.out.hh.cl (by repeat (first | (with_reducible exact Below.refl _ _) | (with_reducible refine below_alloc ?_ _) | (with_reducible refine below_drew1 ?_) | (with_reducible refine pw_below_drewN ?_ _) | fail)))).mono ?_); rintro e w2 ⟨rfl, hb2⟩; have HB2 := Aside0.mk (below_step (below_alloc (Below.refl _ _) _) hb2); have S2 := Aside0.mk (S1.out.step HB2.out); have X2 := Aside0.mk (X1.out.step HB2.out); have y0 := S2.out.hh.c0; have y1 := S2.out.hh.c1; have x0 := X2.out.c0; clear hb2) | (go_at_call 25; (with_reducible refine (HGT.out _ (Kd.C_below S2.out.hh.cl (by repeat (first | (with_reducible exact Below.refl _ _) | (with_reducible refine below_alloc ?_ _) | (with_reducible refine below_drew1 ?_) | (with_reducible refine pw_below_drewN ?_ _) | (with_reducible exact Below.refl _ _))))).mono ?_); rintro e w3 ⟨rfl, hb3⟩; have S3 := Aside0.mk (S2.out.step hb3); have X3 := Aside0.mk (X2.out.step hb3); have z0 := S3.out.hh.c0; have z1 := S3.out.hh.c1; have z2 := X3.out.c0; have z3 := X3.out.c1; clear hb3) | fail); go_upto_region 6 with (first | (go_at_call 14; (with_reducible refine (HPU.out _ (Kd.C_below S3.out.hh.cl (by repeat (first | (with_reducible exact Below.refl _ _) | (with_reducible refine below_alloc ?_ _) | (with_reducible refine below_drew1 ?_) | (with_reducible refine pw_below_drewN ?_ _) | (with_reducible exact Below.refl _ _))))).mono ?_); rintro e w4 ⟨B4, c4, rfl, hc4, hr4, hb4⟩; have HR4 := Aside0.mk (And.intro hc4 hr4); have HB4 := Aside0.mk hb4; clear hc4 hr4 hb4) | fail))
          (obtain ⟨W5, hW5⟩ : ∃ W5, W5 = w4.alloc (.cells #[.slice B4 a.c.length c4, .int .i64 a.keep] 24) := ⟨_, rfl⟩; have HB5 := Aside0.mk (show Below w3.heap.size w3 W5 by rw [hW5]; exact below_alloc HB4.out _); have S5 := Aside0.mk (S3.out.step HB5.out); have X5 := Aside0.mk (X3.out.step HB5.out); have G5 := Aside0.mk (show Bx W5 w4.heap.size B4 c4 a by rw [hW5]; exact Bx.new HR4.out.2 HR4.out.1); rw [← hW5]; clear hW5; have d0 := G5.out.c0; have d1 := G5.out.c1; have d2 := X5.out.c0)
          go_upto_region 9 with (first | (go_at_call 28; (with_reducible refine (HDE.out _ _ _ (Kd.C_below G5.out.cl (by repeat (first | (with_reducible exact Below.refl _ _) | (with_reducible refine below_alloc ?_ _) | (with_reducible refine below_drew1 ?_) | (with_reducible refine pw_below_drewN ?_ _) | (with_reducible exact Below.refl _ _)))) G5.out.le).mono ?_); rintro e w6 ⟨B6, c6, rfl, hc6, hr6, hb6⟩; have HR6 := Aside0.mk (And.intro hc6 hr6); have HB6 := Aside0.mk hb6; clear hc6 hr6 hb6) | fail)
          (obtain ⟨W7, hW7⟩ : ∃ W7, W7 = w6.alloc (.cells #[.slice B6 b.c.length c6, .int .i64 b.keep] 24) := ⟨_, rfl⟩; have HB7 := Aside0.mk (show Below W5.heap.size W5 W7 by rw [hW7]; exact below_alloc HB6.out _); have S7 := Aside0.mk (S5.out.step HB7.out); have G7 := Aside0.mk (show Bx W7 w6.heap.size B6 c6 b by rw [hW7]; exact Bx.new HR6.out.2 HR6.out.1); rw [← hW7]; clear hW7; have e0 := G7.out.c0; have e1 := G7.out.c1; have f0 := S7.out.hh.c0; have f1 := S7.out.hh.c1)
          go_wp2
          go_ret
          exact ⟨rfl, S7.out.b0⟩
        · rw [del_ins HFP.out.tr.up hnk] at fp2
          have HLB := Aside0.mk (listC fp2.tr (n := l.length) rfl)
          have HLH := Aside0.mk (listC HFP.out.tr (n := l.length) rfl)
          have HFB := Aside0.mk (show ∀ (B : Option Addr) (cb : Nat), FineC B cb b q 40 true from fun B cb => fineC (A := B) (c := cb) 40 (fp2.fine (most := 40) (by have := HL40.out; have := HAL.out; omega)))
          have HIT := Aside0.mk (show ∀ (D E : Option Addr) (m n : Nat) (W : World), kIt.C W D l.length l → kIt.C W E l.length l → Calls Try.prog 23 #[.slice D l.length m, .slice E l.length n] W fun e w' => e = .returned (.bool true) ∧ Below W.heap.size W w' from fun D E m n W h1 h2 => by
            have := items_walk D E m n l l W h1 h2
            rw [decide_eq_true rfl] at this
            exact this)
          clear fp' hnk fp2 hbl
          (go_enter Try.func10, Try.ntmps10; go_upto_region 1 with (fail); rw [← hW1'.out]; go_upto_region 2 with (first | (go_at_call 27; (with_reducible refine (shown10_walk _).mono ?_); rintro e w1 ⟨rfl, hb1⟩; have S1 := Aside0.mk (S0.out.step hb1); have X1 := Aside0.mk (X0.out.step hb1); have c0 := S1.out.hh.c0; have c1 := S1.out.hh.c1; clear hb1) | fail))
          (go_upto_region 5 with (first | (go_at_call 18; (with_reducible refine (HFI.out _ _ (one_int _ root) (Kd.C_below S1.out.hh.cl (by repeat (first | (with_reducible exact Below.refl _ _) | (with_reducible refine below_alloc ?_ _) | (with_reducible refine below_drew1 ?_) | (with_reducible refine pw_below_drewN ?_ _) | fail)))).mono ?_); rintro e w2 ⟨rfl, hb2⟩; have HB2 := Aside0.mk (below_step (below_alloc (Below.refl _ _) _) hb2); have S2 := Aside0.mk (S1.out.step HB2.out); have X2 := Aside0.mk (X1.out.step HB2.out); have y0 := S2.out.hh.c0; have y1 := S2.out.hh.c1; have x0 := X2.out.c0; clear hb2) | (go_at_call 25; (with_reducible refine (HGT.out _ (Kd.C_below S2.out.hh.cl (by repeat (first | (with_reducible exact Below.refl _ _) | (with_reducible refine below_alloc ?_ _) | (with_reducible refine below_drew1 ?_) | (with_reducible refine pw_below_drewN ?_ _) | (with_reducible exact Below.refl _ _))))).mono ?_); rintro e w3 ⟨rfl, hb3⟩; have S3 := Aside0.mk (S2.out.step hb3); have X3 := Aside0.mk (X2.out.step hb3); have z0 := S3.out.hh.c0; have z1 := S3.out.hh.c1; have z2 := X3.out.c0; have z3 := X3.out.c1; clear hb3) | fail); go_upto_region 6 with (first | (go_at_call 14; (with_reducible refine (HPU.out _ (Kd.C_below S3.out.hh.cl (by repeat (first | (with_reducible exact Below.refl _ _) | (with_reducible refine below_alloc ?_ _) | (with_reducible refine below_drew1 ?_) | (with_reducible refine pw_below_drewN ?_ _) | (with_reducible exact Below.refl _ _))))).mono ?_); rintro e w4 ⟨B4, c4, rfl, hc4, hr4, hb4⟩; have HR4 := Aside0.mk (And.intro hc4 hr4); have HB4 := Aside0.mk hb4; clear hc4 hr4 hb4) | fail))
          (obtain ⟨W5, hW5⟩ : ∃ W5, W5 = w4.alloc (.cells #[.slice B4 a.c.length c4, .int .i64 a.keep] 24) := ⟨_, rfl⟩; have HB5 := Aside0.mk (show Below w3.heap.size w3 W5 by rw [hW5]; exact below_alloc HB4.out _); have S5 := Aside0.mk (S3.out.step HB5.out); have X5 := Aside0.mk (X3.out.step HB5.out); have G5 := Aside0.mk (show Bx W5 w4.heap.size B4 c4 a by rw [hW5]; exact Bx.new HR4.out.2 HR4.out.1); rw [← hW5]; clear hW5; have d0 := G5.out.c0; have d1 := G5.out.c1; have d2 := X5.out.c0)
          go_upto_region 9 with (first | (go_at_call 28; (with_reducible refine (HDE.out _ _ _ (Kd.C_below G5.out.cl (by repeat (first | (with_reducible exact Below.refl _ _) | (with_reducible refine below_alloc ?_ _) | (with_reducible refine below_drew1 ?_) | (with_reducible refine pw_below_drewN ?_ _) | (with_reducible exact Below.refl _ _)))) G5.out.le).mono ?_); rintro e w6 ⟨B6, c6, rfl, hc6, hr6, hb6⟩; have HR6 := Aside0.mk (And.intro hc6 hr6); have HB6 := Aside0.mk hb6; clear hc6 hr6 hb6) | fail)
          (obtain ⟨W7, hW7⟩ : ∃ W7, W7 = w6.alloc (.cells #[.slice B6 b.c.length c6, .int .i64 b.keep] 24) := ⟨_, rfl⟩; have HB7 := Aside0.mk (show Below W5.heap.size W5 W7 by rw [hW7]; exact below_alloc HB6.out _); have S7 := Aside0.mk (S5.out.step HB7.out); have G7 := Aside0.mk (show Bx W7 w6.heap.size B6 c6 b by rw [hW7]; exact Bx.new HR6.out.2 HR6.out.1); rw [← hW7]; clear hW7; have e0 := G7.out.c0; have e1 := G7.out.c1; have f0 := S7.out.hh.c0; have f1 := S7.out.hh.c1)
          go_upto_region 11 with fail
          go_region_held3 (fun w' => w'.cell? ⟨w6.heap.size, 0, none⟩ = some (.slice B6 b.c.length c6) ∧ w'.cell? ⟨w6.heap.size, 1, none⟩ = some (.int .i64 b.keep) ∧ w'.cell? ⟨w.heap.size, 0, none⟩ = some (.slice A h.c.length c) ∧ w'.cell? ⟨w.heap.size, 1, none⟩ = some (.int .i64 h.keep))
            (first | exact ⟨e0, e1, f0, f1⟩ | exact (fun (H : Below W7.heap.size W7 _) => ⟨(G7.out.step H).c0, (G7.out.step H).c1, (S7.out.step H).hh.c0, (S7.out.step H).hh.c1⟩) (by repeat (first | (with_reducible exact Below.refl _ _) | (with_reducible refine below_alloc ?_ _) | (with_reducible refine below_drew1 ?_) | (with_reducible refine pw_below_drewN ?_ _) | (with_reducible exact HI6.out) | (with_reducible exact HI5.out) | (with_reducible exact HI4.out) | (with_reducible exact HI3.out))))
            (first | (go_at_call 18; (with_reducible refine (HFB.out _ _ _ _ (Kd.C_below (one_int W7 q) (by repeat (first | (with_reducible exact Below.refl _ _) | (with_reducible refine below_alloc ?_ _) | (with_reducible refine below_drew1 ?_) | (with_reducible refine pw_below_drewN ?_ _) | (with_reducible exact Below.refl _ _)))) (Kd.C_below G7.out.cl (by repeat (first | (with_reducible exact Below.refl _ _) | (with_reducible refine below_alloc ?_ _) | (with_reducible refine below_drew1 ?_) | (with_reducible refine pw_below_drewN ?_ _) | fail)))).mono ?_); rintro e w8 ⟨rfl, hb⟩; have HI3 := Aside0.mk (show Below W7.heap.size W7 w8 from below_step (by repeat (first | (with_reducible exact Below.refl _ _) | (with_reducible refine below_alloc ?_ _) | (with_reducible refine below_drew1 ?_) | (with_reducible refine pw_below_drewN ?_ _) | fail)) hb); clear hb) | (go_at_call 24; (with_reducible refine (HLB.out _ _ _ (Kd.C_below G7.out.cl (by repeat (first | (with_reducible exact Below.refl _ _) | (with_reducible refine below_alloc ?_ _) | (with_reducible refine below_drew1 ?_) | (with_reducible refine pw_below_drewN ?_ _) | (with_reducible exact HI3.out))))).mono ?_); rintro e w9 ⟨D, dd, rfl, hle, h1, hb⟩; have HD := Aside0.mk h1; have HI4 := Aside0.mk (show Below W7.heap.size W7 w9 from below_step (by repeat (first | (with_reducible exact Below.refl _ _) | (with_reducible refine below_alloc ?_ _) | (with_reducible refine below_drew1 ?_) | (with_reducible refine pw_below_drewN ?_ _) | (with_reducible exact HI3.out))) hb); clear hle h1 hb) | (go_at_call 24; (with_reducible refine (HLH.out _ _ _ (Kd.C_below S7.out.hh.cl (by repeat (first | (with_reducible exact Below.refl _ _) | (with_reducible refine below_alloc ?_ _) | (with_reducible refine below_drew1 ?_) | (with_reducible refine pw_below_drewN ?_ _) | (with_reducible exact HI4.out))))).mono ?_); rintro e w10 ⟨D2, dd2, rfl, hle, h1, hb⟩; have HD2 := Aside0.mk h1; have HBD := Aside0.mk (show Below w9.heap.size w9 w10 from below_step (by repeat (first | (with_reducible exact Below.refl _ _) | (with_reducible refine below_alloc ?_ _) | (with_reducible refine below_drew1 ?_) | (with_reducible refine pw_below_drewN ?_ _) | fail)) hb); have HI5 := Aside0.mk (below_step HI4.out HBD.out); clear hle h1 hb) | (go_at_call 23; (with_reducible refine (HIT.out _ _ _ _ _ (Kd.C_below (Kd.C_below HD.out HBD.out) (by repeat (first | (with_reducible exact Below.refl _ _) | (with_reducible refine below_alloc ?_ _) | (with_reducible refine below_drew1 ?_) | (with_reducible refine pw_below_drewN ?_ _) | fail))) (Kd.C_below HD2.out (by repeat (first | (with_reducible exact Below.refl _ _) | (with_reducible refine below_alloc ?_ _) | (with_reducible refine below_drew1 ?_) | (with_reducible refine pw_below_drewN ?_ _) | fail)))).mono ?_); rintro e w11 ⟨rfl, hb⟩; have HI6 := Aside0.mk (show Below W7.heap.size W7 w11 from below_step (by repeat (first | (with_reducible exact Below.refl _ _) | (with_reducible refine below_alloc ?_ _) | (with_reducible refine below_drew1 ?_) | (with_reducible refine pw_below_drewN ?_ _) | (with_reducible exact HI5.out))) hb); clear hb) | fail)
          all_goals (go_wp2; go_ret; exact ⟨rfl, below_step S7.out.b0 HI6.out⟩)
end Go.Proofs.Ytopkoganfnabgaa.H
