import Derived.Test.YtopkoganfnabgaaG4
import Derived.ChangeArms
import Derived.OpenShut
import Derived.Test.YtopkoganfnabgaaG9
namespace Go.Proofs.Ytopkoganfnabgaa.H
open Go.RowKit Go.Proofs.YtopkoganfnabgaaW.PrintWords Go.Proofs.YtopkoganfnabgaaW.PrintLast Go.Proofs.YtopkoganfnabgaaW.PrintMore
attribute [local go_sem] max2_int min2_int max_two min_two max_three min_three max_four min_four
set_option linter.unusedVariables false
set_option linter.unusedSimpArgs false
/-- What a value of type t reads as, as a Lean datum of the kind d. -/
def Rd {α : Type} (P : Program) (t : TypeId) (d : Kd α) (I : α → Prop) : Prop :=
  ∀ (H : Type) (enc : TypeId × Value → H) (w : World) (base : Nat) (spare : Nat → Bool) (held : Bool) (fuel : Nat) (cs : List Value) (x : DataW H × List MemPlace), DataW.trod enc P w base spare held fuel t cs = some x → ∃ a, d.K w a cs ∧ I a
theorem rd_choose {α : Type} (n : Nat) (Q : Nat → α → Prop) (h : ∀ i, i < n → ∃ a, Q i a) : ∃ l : List α, l.length = n ∧ ∀ i a, l[i]? = some a → Q i a := by
  induction n with
  | zero => exact ⟨[], rfl, fun i a e => by simp at e⟩
  | succ n ih =>
    obtain ⟨l, hl, hq⟩ := ih (fun i hi => h i (by omega))
    obtain ⟨a, ha⟩ := h n (by omega)
    refine ⟨l ++ [a], by simp [hl], fun i b e => ?_⟩
    by_cases hi : i < l.length
    · rw [List.getElem?_append_left hi] at e; exact hq i b e
    · rw [List.getElem?_append_right (by omega)] at e
      have : i - l.length = 0 := by
        rcases Nat.eq_zero_or_pos (i - l.length) with h | h
        · exact h
        · rw [List.getElem?_eq_none (by simp; omega)] at e; cases e
      rw [this] at e
      have hin : i = n := by omega
      subst hin
      simp at e
      rw [← e]; exact ha
theorem mapM_get {α β : Type} (f : α → Option β) : ∀ (l : List α) (cs : List β), l.mapM f = some cs → ∀ (i : Nat) (a : α), l[i]? = some a → f a = cs[i]?
  | [], cs, h, i, a, e => by simp at e
  | x :: l, cs, h, i, a, e => by
    rw [List.mapM_cons] at h
    simp only [Option.bind_eq_bind, Option.bind_eq_some_iff, Option.pure_def, Option.some.injEq] at h
    obtain ⟨b, hb, bs, hbs, rfl⟩ := h
    cases i with
    | zero => simp at e; subst e; simpa using hb
    | succ i => simpa using mapM_get f l bs hbs i a (by simpa using e)
theorem cells_get {w : World} {base n : Nat} {a : Addr} {cs : List Value} (h : w.cells? base a n = some cs) : cs.length = n ∧ ∀ i, i < n → w.cell? (a.add i) = cs[i]? := by
  unfold World.cells? at h
  split at h
  · have h2 := mapM_get _ _ _ h
    refine ⟨?_, fun i hi => h2 i i (by simp [hi])⟩
    have e := congrArg (Option.map List.length) h
    have : ∀ (l : List Nat) (bs : List Value), (l.mapM fun i => w.cell? (a.add i)) = some bs → bs.length = l.length := by
      intro l
      induction l with
      | nil => intro bs hb; simp at hb; subst hb; rfl
      | cons y l ih =>
        intro bs hb
        rw [List.mapM_cons] at hb
        simp only [Option.bind_eq_bind, Option.bind_eq_some_iff, Option.pure_def, Option.some.injEq] at hb
        obtain ⟨b, _, bs', hbs, rfl⟩ := hb
        simp [ih bs' hbs]
    simpa using this _ _ h
  · cases h
theorem rd_slice {α : Type} {P : Program} {t e : TypeId} {d : Kd α} {I : α → Prop} (ht : P.underlying t = some (.slice e)) (hc : P.cellsOf e = d.sz) (he : Rd P e d I) : Rd P t (Kd.slice e d) (fun xs => ∀ x ∈ xs, I x) := by
  intro H enc w base spare held fuel cs x h
  rcases DataW.trod_slice ht h with ⟨rfl, _⟩ | ⟨a, len, cap, elems, rest, n, _, rfl, _, _, hl, hm, hlen, hel, _, _⟩
  · exact ⟨[], ⟨none, 0, rfl, Nat.le_refl _, rfl, by simp, fun h => absurd h (by simp)⟩, fun _ hx => absurd hx (by simp)⟩
  · obtain ⟨xs, hxl, hxs⟩ := rd_choose len (fun i y => (∃ c, c.length = d.sz ∧ d.K w y c ∧ ∀ j u, c[j]? = some u → w.cell? (a.add (i * d.sz + j)) = some u) ∧ I y) (fun i hi => by
      have h1 := hel i hi
      rw [List.getElem?_eq_getElem (by omega), Option.bind_eq_some_iff, hc] at h1
      obtain ⟨c, h2, h3⟩ := h1
      obtain ⟨y, hk, hI⟩ := he H enc w base spare held n c _ h3
      obtain ⟨c1, c2⟩ := cells_get h2
      refine ⟨y, ⟨c, c1, hk, fun j u hu => ?_⟩, hI⟩
      have hj : j < c.length := (List.getElem?_eq_some_iff.1 hu).1
      have := c2 j (by omega)
      rw [hu] at this
      rw [← this, Addr.add_add])
    refine ⟨xs, ⟨some a, cap, by rw [hxl], by omega, rfl, by unfold maxLen at hm; omega, fun _ => ⟨a, rfl, fun j p hp => (hxs j p hp).1⟩⟩, fun x hx => ?_⟩
    obtain ⟨i, hi, rfl⟩ := List.getElem_of_mem hx
    exact (hxs i _ (List.getElem?_eq_getElem hi)).2
theorem cons_of {α : Type} {l : List α} {n : Nat} (h : l.length = n + 1) : ∃ a t, l = a :: t ∧ t.length = n := by
  cases l with
  | nil => simp at h
  | cons a t => exact ⟨a, t, rfl, by simpa using h⟩
theorem field {H : Type} {enc : TypeId × Value → H} {P : Program} {w : World} {base : Nat} {spare : Nat → Bool} {held : Bool} {n : Nat} {t : TypeId} {cs : List Value} {xs : List (DataW H × List MemPlace)} {j : Nat}
    (h : DataW.trod enc P w base spare held n t cs = xs[j]?) (hj : j < xs.length) : DataW.trod enc P w base spare held n t cs = some xs[j] := by rw [h, List.getElem?_eq_getElem hj]
def kHp : Kd Hp := (Kd.pair (Kd.slice 79 kCl) (Kd.int .i64)).iso (fun h => (h.c, h.keep))
theorem rd_item : Rd Try.prog 26 kIt (fun _ => True) := by
  intro H enc w base spare held fuel cs x h
  obtain ⟨xs, n, rfl, rfl, hl, hx, hf⟩ := DataW.trod_struct Try.underlying26 h
  rw [show Try.prog.cellsOf 26 = 2 by kernel_rfl] at hl
  have hxl : xs.length = 2 := hx
  obtain ⟨z0, y0, rfl, hl0⟩ := cons_of hl
  obtain ⟨z1, y1, rfl, hl1⟩ := cons_of hl0
  obtain rfl := List.eq_nil_of_length_eq_zero hl1
  have g0 : DataW.trod enc Try.prog w base spare held n 3 (([z0, z1].drop 0).take (Try.prog.cellsOf 3)) = some xs[0] := field (hf 0 _ rfl) (by omega)
  rw [show Try.prog.cellsOf 3 = 1 by kernel_rfl] at g0
  replace g0 : DataW.trod enc Try.prog w base spare held n 3 [z0] = some xs[0] := g0
  have g1 : DataW.trod enc Try.prog w base spare held n 3 (([z0, z1].drop 1).take (Try.prog.cellsOf 3)) = some xs[1] := field (hf 1 _ rfl) (by omega)
  rw [show Try.prog.cellsOf 3 = 1 by kernel_rfl] at g1
  replace g1 : DataW.trod enc Try.prog w base spare held n 3 [z1] = some xs[1] := g1
  obtain ⟨a, e0, _, i0⟩ := DataW.trod_int Try.underlying3 g0
  obtain rfl := (List.cons.inj e0).1
  obtain ⟨b, e1, _, i1⟩ := DataW.trod_int Try.underlying3 g1
  obtain rfl := (List.cons.inj e1).1
  exact ⟨⟨a, b⟩, ⟨[.int .i64 a], [.int .i64 b], rfl, rfl, rfl⟩, trivial⟩
theorem rd_items : Rd Try.prog 27 (Kd.slice 26 kIt) (fun xs => ∀ x ∈ xs, True) := rd_slice Try.underlying27 (by kernel_rfl) rd_item
theorem rd_node : Rd Try.prog 77 kNd (fun _ => True) := by
  intro H enc w base spare held fuel cs x h
  obtain ⟨xs, n, rfl, rfl, hl, hx, hf⟩ := DataW.trod_struct Try.underlying77 h
  rw [show Try.prog.cellsOf 77 = 2 by kernel_rfl] at hl
  have hxl : xs.length = 2 := hx
  obtain ⟨z0, y0, rfl, hl0⟩ := cons_of hl
  obtain ⟨z1, y1, rfl, hl1⟩ := cons_of hl0
  obtain rfl := List.eq_nil_of_length_eq_zero hl1
  have g0 : DataW.trod enc Try.prog w base spare held n 4 (([z0, z1].drop 0).take (Try.prog.cellsOf 4)) = some xs[0] := field (hf 0 _ rfl) (by omega)
  rw [show Try.prog.cellsOf 4 = 1 by kernel_rfl] at g0
  replace g0 : DataW.trod enc Try.prog w base spare held n 4 [z0] = some xs[0] := g0
  have g1 : DataW.trod enc Try.prog w base spare held n 27 (([z0, z1].drop 1).take (Try.prog.cellsOf 27)) = some xs[1] := field (hf 1 _ rfl) (by omega)
  rw [show Try.prog.cellsOf 27 = 1 by kernel_rfl] at g1
  replace g1 : DataW.trod enc Try.prog w base spare held n 27 [z1] = some xs[1] := g1
  obtain ⟨a, e0, _⟩ := DataW.trod_bool Try.underlying4 g0
  obtain rfl := (List.cons.inj e0).1
  obtain ⟨l, k1, _⟩ := rd_items H enc w base spare held n _ _ g1
  exact ⟨⟨a, l⟩, ⟨[.bool a], [z1], rfl, rfl, k1⟩, trivial⟩
theorem rd_cell : Rd Try.prog 79 kCl (fun _ => True) := by
  intro H enc w base spare held fuel cs x h
  obtain ⟨xs, n, rfl, rfl, hl, hx, hf⟩ := DataW.trod_struct Try.underlying79 h
  rw [show Try.prog.cellsOf 79 = 4 by kernel_rfl] at hl
  have hxl : xs.length = 3 := hx
  obtain ⟨z0, y0, rfl, hl0⟩ := cons_of hl
  obtain ⟨z1, y1, rfl, hl1⟩ := cons_of hl0
  obtain ⟨z2, y2, rfl, hl2⟩ := cons_of hl1
  obtain ⟨z3, y3, rfl, hl3⟩ := cons_of hl2
  obtain rfl := List.eq_nil_of_length_eq_zero hl3
  have g0 : DataW.trod enc Try.prog w base spare held n 3 (([z0, z1, z2, z3].drop 0).take (Try.prog.cellsOf 3)) = some xs[0] := field (hf 0 _ rfl) (by omega)
  rw [show Try.prog.cellsOf 3 = 1 by kernel_rfl] at g0
  replace g0 : DataW.trod enc Try.prog w base spare held n 3 [z0] = some xs[0] := g0
  have g1 : DataW.trod enc Try.prog w base spare held n 4 (([z0, z1, z2, z3].drop 1).take (Try.prog.cellsOf 4)) = some xs[1] := field (hf 1 _ rfl) (by omega)
  rw [show Try.prog.cellsOf 4 = 1 by kernel_rfl] at g1
  replace g1 : DataW.trod enc Try.prog w base spare held n 4 [z1] = some xs[1] := g1
  have g2 : DataW.trod enc Try.prog w base spare held n 77 (([z0, z1, z2, z3].drop 2).take (Try.prog.cellsOf 77)) = some xs[2] := field (hf 2 _ rfl) (by omega)
  rw [show Try.prog.cellsOf 77 = 2 by kernel_rfl] at g2
  replace g2 : DataW.trod enc Try.prog w base spare held n 77 [z2, z3] = some xs[2] := g2
  obtain ⟨a, e0, _, i0⟩ := DataW.trod_int Try.underlying3 g0
  obtain rfl := (List.cons.inj e0).1
  obtain ⟨b, e1, _⟩ := DataW.trod_bool Try.underlying4 g1
  obtain rfl := (List.cons.inj e1).1
  obtain ⟨n', k2, _⟩ := rd_node H enc w base spare held n _ _ g2
  exact ⟨⟨a, b, n'⟩, ⟨[.int .i64 a], [.bool b, z2, z3], rfl, rfl, [.bool b], [z2, z3], rfl, rfl, k2⟩, trivial⟩
theorem rd_cells : Rd Try.prog 22 (Kd.slice 79 kCl) (fun xs => ∀ x ∈ xs, True) := rd_slice Try.underlying22 (by kernel_rfl) rd_cell
theorem rd_heap : Rd Try.prog 24 kHp (fun _ => True) := by
  intro H enc w base spare held fuel cs x h
  obtain ⟨xs, n, rfl, rfl, hl, hx, hf⟩ := DataW.trod_struct Try.underlying24 h
  rw [show Try.prog.cellsOf 24 = 2 by kernel_rfl] at hl
  have hxl : xs.length = 2 := hx
  obtain ⟨z0, y0, rfl, hl0⟩ := cons_of hl
  obtain ⟨z1, y1, rfl, hl1⟩ := cons_of hl0
  obtain rfl := List.eq_nil_of_length_eq_zero hl1
  have g0 : DataW.trod enc Try.prog w base spare held n 22 (([z0, z1].drop 0).take (Try.prog.cellsOf 22)) = some xs[0] := field (hf 0 _ rfl) (by omega)
  rw [show Try.prog.cellsOf 22 = 1 by kernel_rfl] at g0
  replace g0 : DataW.trod enc Try.prog w base spare held n 22 [z0] = some xs[0] := g0
  have g1 : DataW.trod enc Try.prog w base spare held n 3 (([z0, z1].drop 1).take (Try.prog.cellsOf 3)) = some xs[1] := field (hf 1 _ rfl) (by omega)
  rw [show Try.prog.cellsOf 3 = 1 by kernel_rfl] at g1
  replace g1 : DataW.trod enc Try.prog w base spare held n 3 [z1] = some xs[1] := g1
  obtain ⟨l, k0, _⟩ := rd_cells H enc w base spare held n _ _ g0
  obtain ⟨a, e1, _, i1⟩ := DataW.trod_int Try.underlying3 g1
  obtain rfl := (List.cons.inj e1).1
  exact ⟨⟨l, a⟩, ⟨[z0], [.int .i64 a], rfl, k0, rfl⟩, trivial⟩
theorem rd_hp {H : Type} {enc : TypeId × Value → H} {w : World} {base : Nat} {spare : Nat → Bool} {held : Bool} {fuel : Nat} {cs : List Value} {x : DataW H × List MemPlace} (h : DataW.trod enc Try.prog w base spare held fuel 24 cs = some x) : ∃ (A : Option Addr) (c : Nat) (g : Hp), cs = [.slice A g.c.length c, .int .i64 g.keep] ∧ g.c.length ≤ c ∧ kCl.C w A g.c.length g.c := by
  obtain ⟨g, ⟨c0, c1, rfl, ⟨A, c, rfl, h1, h2⟩, rfl⟩, _⟩ := rd_heap H enc w base spare held fuel cs x h
  exact ⟨A, c, g, rfl, h1, h2⟩
theorem rd_it {H : Type} {enc : TypeId × Value → H} {w : World} {base : Nat} {spare : Nat → Bool} {held : Bool} {fuel : Nat} {cs : List Value} {x : DataW H × List MemPlace} (h : DataW.trod enc Try.prog w base spare held fuel 26 cs = some x) : ∃ y : It, cs = [.int .i64 y.k, .int .i64 y.v] := by
  obtain ⟨y, ⟨c0, c1, rfl, rfl, rfl⟩, _⟩ := rd_item H enc w base spare held fuel cs x h
  exact ⟨y, rfl⟩
theorem rd_its {H : Type} {enc : TypeId × Value → H} {w : World} {base : Nat} {spare : Nat → Bool} {held : Bool} {fuel : Nat} {cs : List Value} {x : DataW H × List MemPlace} (h : DataW.trod enc Try.prog w base spare held fuel 27 cs = some x) : ∃ (A : Option Addr) (c : Nat) (l : List It), cs = [.slice A l.length c] ∧ l.length ≤ c ∧ kIt.C w A l.length l := by
  obtain ⟨l, ⟨A, c, rfl, h1, h2⟩, _⟩ := rd_items H enc w base spare held fuel cs x h
  exact ⟨A, c, l, rfl, h1, h2⟩
theorem rd_tells {H : Type} {enc : TypeId × Value → H} {w : World} {base : Nat} {spare : Nat → Bool} {held : Bool} {fuel : Nat} {cs : List Value} {x : DataW H × List MemPlace} (h : DataW.trod enc Try.prog w base spare held fuel 29 cs = some x) : ∃ (A : Option Addr) (c : Nat) (g : Hp) (r : Int) (y : It) (d : Bool) (B : Option Addr) (cb : Nat) (l : List It), cs = [.slice A g.c.length c, .int .i64 g.keep, .int .i64 r, .int .i64 y.k, .int .i64 y.v, .bool d, .slice B l.length cb] ∧ g.c.length ≤ c ∧ kCl.C w A g.c.length g.c ∧ l.length ≤ cb ∧ kIt.C w B l.length l := by
  obtain ⟨xs, n, rfl, rfl, hl, hx, hf⟩ := DataW.trod_struct Try.underlying29 h
  rw [show Try.prog.cellsOf 29 = 7 by kernel_rfl] at hl
  have hxl : xs.length = 5 := hx
  obtain ⟨z0, y0, rfl, hl0⟩ := cons_of hl
  obtain ⟨z1, y1, rfl, hl1⟩ := cons_of hl0
  obtain ⟨z2, y2, rfl, hl2⟩ := cons_of hl1
  obtain ⟨z3, y3, rfl, hl3⟩ := cons_of hl2
  obtain ⟨z4, y4, rfl, hl4⟩ := cons_of hl3
  obtain ⟨z5, y5, rfl, hl5⟩ := cons_of hl4
  obtain ⟨z6, y6, rfl, hl6⟩ := cons_of hl5
  obtain rfl := List.eq_nil_of_length_eq_zero hl6
  have g0 : DataW.trod enc Try.prog w base spare held n 24 (([z0, z1, z2, z3, z4, z5, z6].drop 0).take (Try.prog.cellsOf 24)) = some xs[0] := field (hf 0 _ rfl) (by omega)
  rw [show Try.prog.cellsOf 24 = 2 by kernel_rfl] at g0
  replace g0 : DataW.trod enc Try.prog w base spare held n 24 [z0, z1] = some xs[0] := g0
  have g1 : DataW.trod enc Try.prog w base spare held n 3 (([z0, z1, z2, z3, z4, z5, z6].drop 2).take (Try.prog.cellsOf 3)) = some xs[1] := field (hf 1 _ rfl) (by omega)
  rw [show Try.prog.cellsOf 3 = 1 by kernel_rfl] at g1
  replace g1 : DataW.trod enc Try.prog w base spare held n 3 [z2] = some xs[1] := g1
  have g2 : DataW.trod enc Try.prog w base spare held n 26 (([z0, z1, z2, z3, z4, z5, z6].drop 3).take (Try.prog.cellsOf 26)) = some xs[2] := field (hf 2 _ rfl) (by omega)
  rw [show Try.prog.cellsOf 26 = 2 by kernel_rfl] at g2
  replace g2 : DataW.trod enc Try.prog w base spare held n 26 [z3, z4] = some xs[2] := g2
  have g3 : DataW.trod enc Try.prog w base spare held n 4 (([z0, z1, z2, z3, z4, z5, z6].drop 5).take (Try.prog.cellsOf 4)) = some xs[3] := field (hf 3 _ rfl) (by omega)
  rw [show Try.prog.cellsOf 4 = 1 by kernel_rfl] at g3
  replace g3 : DataW.trod enc Try.prog w base spare held n 4 [z5] = some xs[3] := g3
  have g4 : DataW.trod enc Try.prog w base spare held n 27 (([z0, z1, z2, z3, z4, z5, z6].drop 6).take (Try.prog.cellsOf 27)) = some xs[4] := field (hf 4 _ rfl) (by omega)
  rw [show Try.prog.cellsOf 27 = 1 by kernel_rfl] at g4
  replace g4 : DataW.trod enc Try.prog w base spare held n 27 [z6] = some xs[4] := g4
  obtain ⟨A, c, g, e0, hc, hr⟩ := rd_hp g0
  simp only [List.cons.injEq, and_true] at e0
  obtain ⟨rfl, rfl⟩ := e0
  obtain ⟨r, e1, _, i1⟩ := DataW.trod_int Try.underlying3 g1
  obtain rfl := (List.cons.inj e1).1
  obtain ⟨y, e2⟩ := rd_it g2
  simp only [List.cons.injEq, and_true] at e2
  obtain ⟨rfl, rfl⟩ := e2
  obtain ⟨d, e3, _⟩ := DataW.trod_bool Try.underlying4 g3
  obtain rfl := (List.cons.inj e3).1
  obtain ⟨B, cb, l, e4, hcb, hn⟩ := rd_its g4
  obtain rfl := (List.cons.inj e4).1
  exact ⟨A, c, g, r, y, d, B, cb, l, rfl, hc, hr, hcb, hn⟩
end Go.Proofs.Ytopkoganfnabgaa.H
namespace Go.Proofs.Ytopkoganfnabgaa.H
open Go.RowKit Go.Proofs.YtopkoganfnabgaaW.PrintWords Go.Proofs.YtopkoganfnabgaaW.PrintLast Go.Proofs.YtopkoganfnabgaaW.PrintMore
attribute [local go_sem] max2_int min2_int max_two min_two max_three min_three max_four min_four
set_option linter.unusedVariables false
set_option linter.unusedSimpArgs false
structure FlSt (w W : World) (D : Option Addr) (l : List It) (s8 : Nat) (B8 : Option Addr) (k8 : Nat) (h : Hp) : Prop where
  b0 : Below w.heap.size w W
  hh : Bx W s8 B8 k8 h
  hl : kIt.C W D l.length l
theorem FlSt.step {w W W' : World} {D B8 : Option Addr} {l : List It} {s8 k8 : Nat} {h : Hp} (s : FlSt w W D l s8 B8 k8 h) (hb : Below W.heap.size W W') : FlSt w W' D l s8 B8 k8 h := ⟨below_step s.b0 hb, s.hh.step hb, Kd.C_below s.hl hb⟩
theorem tmod_nat {x : Int} {n : Nat} (hx : 0 ≤ x) (hn : 0 < n) : ∃ j : Nat, x.tmod (n : Int) = (j : Int) ∧ x % (n : Int) = (j : Int) ∧ j < n := by
  obtain ⟨m, rfl⟩ := Int.eq_ofNat_of_zero_le hx
  exact ⟨m % n, by rw [Int.tmod_eq_emod_of_nonneg (by omega)]; rfl, rfl, Nat.mod_lt _ hn⟩
set_option maxHeartbeats 8000000 in
set_option maxRecDepth 100000 in
theorem fills_walk (a b : Int) (D : Option Addr) (dl : Nat) (l : List It) (w : World) (ha : 0 ≤ a ∧ a ≤ 255) (hb : 0 ≤ b ∧ b ≤ 255) (hn : kIt.C w D l.length l) (hdl : l.length ≤ dl) :
    Calls Try.prog 6 #[.int .u8 a, .slice D l.length dl, .int .u8 b] w fun e w' => e = .returned (.bool true) ∧ Below w.heap.size w w' := by
  have HN := Aside0.mk hn
  by_cases h8 : 8 < l.length
  · have q1 : decide ((8 : Int) < (l.length : Int)) = true := decide_eq_true (by omega)
    have q2 : decide (8 < l.length) = true := decide_eq_true h8
    clear h8 ha hb hn hdl
    go_enter Try.func6, Try.ntmps6
    go_wp2_with (first | (go_at_call 11; (with_reducible refine (shown9_walk _).mono ?_); rintro e w1 ⟨rfl, hb1⟩; have HB1 := Aside0.mk hb1; clear hb1) | fail)
    go_ret
    exact ⟨rfl, HB1.out⟩
  have q1 : decide ((8 : Int) < (l.length : Int)) = false := decide_eq_false (by omega)
  have q2 : decide (8 < l.length) = false := decide_eq_false h8
  obtain ⟨k40, t1, t2, hk40⟩ := tmod_nat (n := 40) ha.1 (by decide)
  rw [show (((40 : Nat)) : Int) = 40 from rfl] at t1 t2
  obtain ⟨m, hm⟩ : ∃ m, m = 1 + k40 := ⟨_, rfl⟩
  have g1 : wrap64 (1 + (k40 : Int)) = (m : Int) := by unfold wrap64; omega
  have g2 : IntKind.i64.wrap a = a := by rw [i64_w]; unfold wrap64; omega
  have HNK := Aside0.mk (show (1 + (k40 : Int)) = (m : Int) by omega)
  obtain ⟨h, hh⟩ : ∃ h : Hp, h = ⟨List.replicate m zCl, 0⟩ := ⟨_, rfl⟩
  have hlen : h.c.length = m := by rw [hh]; exact List.length_replicate
  have fp0 : FP h (-1) 0 [] := by rw [hh]; exact new_fp m (by omega) (by omega)
  have HNW := Aside0.mk (show ∀ W : World, Calls Try.prog 26 #[.int .i64 (1 + (k40 : Int)), .int .i64 0] W fun e w' => ∃ B cb, e = .returned (.tuple #[.agg #[.slice B h.c.length cb, .int .i64 h.keep], .int .i64 0]) ∧ h.c.length ≤ cb ∧ kCl.C w' B h.c.length h.c ∧ Below W.heap.size W w' from fun W => by
    have := refNew_walk m W (by omega) (by omega)
    rw [hlen, hh, show (1 + (k40 : Int)) = (m : Int) by omega]
    exact this)
  obtain ⟨x, p, e, d', l', hfill, hxl, fp, he, hdone⟩ := fill_spec l fp0
  have HF1 := Aside0.mk (show ∀ (B : Option Addr) (cb : Nat) (W : World), h.c.length ≤ cb → kCl.C W B h.c.length h.c → kIt.C W D l.length l → Calls Try.prog 19 #[.agg #[.slice B h.c.length cb, .int .i64 h.keep], .int .i64 (-1), .slice D l.length dl] W (Res3 W x p e) from fun B cb W hle hcl hnl => growFill_walk B D cb dl 25 h x (-1) p e l W hcl hle hnl hfill)
  have HFI := Aside0.mk (show ∀ (A : Option Addr) (c : Nat), FineC A c x p 40 true from fun A c => fineC 40 (fp.fine (by omega)))
  have HFP := Aside0.mk (And.intro hfill (And.intro fp hdone))
  have HL := Aside0.mk (show l.length ≤ 8 ∧ l.length ≤ dl ∧ (0 ≤ b ∧ b ≤ 255) from ⟨by omega, hdl, hb⟩)
  have HE := Aside0.mk he
  clear hm hh hlen fp0 hfill hxl fp hdone he h8 hdl ha hb hn hk40
  go_enter Try.func6, Try.ntmps6
  go_upto_region 4 with (first | (go_at_call 11; (with_reducible refine (shown9_walk _).mono ?_); rintro e w1 ⟨rfl, hb1⟩; have HB1 := Aside0.mk hb1; clear hb1) | fail)
  go_upto_region 5 with (first | (go_at_call 26; (with_reducible refine (HNW.out _).mono ?_); rintro e w3 ⟨B8, k8, rfl, hc3, hr3, hb3⟩; have HR3 := Aside0.mk (And.intro hc3 hr3); have HB3 := Aside0.mk hb3; clear hc3 hr3 hb3) | fail)
  clear t1 t2 g1 g2
  obtain ⟨s8, hs8⟩ : ∃ s, s = w3.heap.size := ⟨_, rfl⟩
  have HB13 := Aside0.mk (below_step HB1.out HB3.out)
  (obtain ⟨W4, hW4⟩ : ∃ W, W = w3.alloc (.cells #[.slice B8 h.c.length k8, .int .i64 h.keep] 24) := ⟨_, rfl⟩; have hb4 : Below w1.heap.size w1 W4 := (by rw [hW4]; exact below_alloc HB3.out _); have BH4 := Aside0.mk (show Bx W4 w3.heap.size B8 k8 h by rw [hW4]; exact Bx.new HR3.out.2 HR3.out.1); rw [← hW4]; clear hW4)
  rw [← hs8] at BH4 ⊢
  have S4 := Aside0.mk (show FlSt w W4 D l s8 B8 k8 h from ⟨below_step HB1.out hb4, BH4.out, Kd.C_below HN.out (below_step HB1.out hb4)⟩)
  clear hb4 hs8
  have y0 := S4.out.hh.c0
  have y1 := S4.out.hh.c1
  go_upto_region 6 with (first | (go_at_call 19; (with_reducible refine (HF1.out _ _ _ S4.out.hh.le (Kd.C_below S4.out.hh.cl (by repeat (first | (with_reducible exact Below.refl _ _) | (with_reducible refine below_alloc ?_ _) | (with_reducible refine below_drew1 ?_) | (with_reducible refine pw_below_drewN ?_ _) | (with_reducible exact Below.refl _ _)))) (Kd.C_below S4.out.hl (by repeat (first | (with_reducible exact Below.refl _ _) | (with_reducible refine below_alloc ?_ _) | (with_reducible refine below_drew1 ?_) | (with_reducible refine pw_below_drewN ?_ _) | (with_reducible exact Below.refl _ _))))).mono ?_); rintro e w3 ⟨E1, k1, rfl, hc3, hr3, hb3⟩; have HR3 := Aside0.mk (And.intro hc3 hr3); have HB3 := Aside0.mk hb3; clear hc3 hr3 hb3) | fail)
  obtain ⟨s10, hs10⟩ : ∃ s, s = w3.heap.size := ⟨_, rfl⟩
  (obtain ⟨W6, hW6⟩ : ∃ W, W = w3.alloc (.cells #[.slice E1 x.c.length k1, .int .i64 x.keep] 24) := ⟨_, rfl⟩; have hb4 : Below W4.heap.size W4 W6 := (by rw [hW6]; exact below_alloc HB3.out _); have BA0 := Aside0.mk (show Bx W6 w3.heap.size E1 k1 x by rw [hW6]; exact Bx.new HR3.out.2 HR3.out.1); rw [← hW6]; clear hW6)
  rw [← hs10] at BA0 ⊢
  have S6 := Aside0.mk (S4.out.step hb4)
  clear hb4 hs10 y0 y1
  have y0 := BA0.out.c0
  have y1 := BA0.out.c1
  go_upto_region 8 with (first | (go_at_call 18; (with_reducible refine (HFI.out _ _ _ _ (one_int _ p) (Kd.C_below BA0.out.cl (by repeat (first | (with_reducible exact Below.refl _ _) | (with_reducible refine below_alloc ?_ _) | (with_reducible refine below_drew1 ?_) | (with_reducible refine pw_below_drewN ?_ _) | (with_reducible exact Below.refl _ _))))).mono ?_); rintro e w7 ⟨rfl, hb5⟩; have HB7 := Aside0.mk (below_step (show Below W6.heap.size W6 _ from (by repeat (first | (with_reducible exact Below.refl _ _) | (with_reducible refine below_alloc ?_ _) | (with_reducible refine below_drew1 ?_) | (with_reducible refine pw_below_drewN ?_ _) | (with_reducible exact Below.refl _ _)))) hb5); clear hb5) | fail)
  clear y0 y1
  have S7 := Aside0.mk (S6.out.step HB7.out)
  have BA7 := Aside0.mk (BA0.out.step HB7.out)
  rcases HE.out with rfl | rfl | rfl
  case inr.inl => go_wp2_with fail; go_ret; exact ⟨rfl, S7.out.b0⟩
  case inr.inr => go_wp2_with fail; go_ret; exact ⟨rfl, S7.out.b0⟩
  case inl =>
    obtain ⟨hfill, fp, hdone⟩ := HFP.out
    obtain ⟨hl', hpos, hnil⟩ := hdone rfl
    obtain ⟨h8, hdl, hb⟩ := HL.out
    obtain ⟨N, hN⟩ : ∃ N, N = l.length + 1 := ⟨_, rfl⟩
    obtain ⟨kc, t1, t2, hkc⟩ := tmod_nat (n := N) hb.1 (by omega)
    have g1 : wrap64 ((l.length : Int) + 1) = (N : Int) := by unfold wrap64; omega
    have g2 : IntKind.i64.wrap b = b := by rw [i64_w]; unfold wrap64; omega
    have hNN : (l.length : Int) + 1 = (N : Int) := by omega
    have t3 : b.tmod ((l.length : Int) + 1) = (kc : Int) := by rw [hNN]; exact t1
    have t4 : b % ((l.length : Int) + 1) = (kc : Int) := by rw [hNN]; exact t2
    have z1 : ((l.length : Int) + 1 = 0) = False := eq_false (by omega)
    have z2 : ((N : Int) = 0) = False := eq_false (by omega)
    have z3 : (N = 0) = False := eq_false (by omega)
    have z4 : ((N : Int) == 0) = false := beq_eq_false_iff_ne.mpr (by omega)
    clear hNN
    obtain ⟨q, pq, hf1, hf2⟩ := fill_append (l.take kc) (l.drop kc) (by rw [List.take_append_drop]; exact hfill)
    have e1 : (l.take kc).length = kc := by rw [List.length_take]; omega
    have e2 : (l.drop kc).length = l.length - kc := List.length_drop
    have HG1 := Aside0.mk (show ∀ (B : Option Addr) (cb : Nat) (W : World), h.c.length ≤ cb → kCl.C W B h.c.length h.c → kIt.C W D kc (l.take kc) → Calls Try.prog 19 #[.agg #[.slice B h.c.length cb, .int .i64 h.keep], .int .i64 (-1), .slice D kc dl] W (Res3 W q pq 0) from fun B cb W hle hcl hnl => by
      have := growFill_walk B D cb dl 25 h q (-1) pq 0 (l.take kc) W hcl hle (by rw [e1]; exact hnl) hf1
      rw [e1] at this; exact this)
    have HG2 := Aside0.mk (show ∀ (B : Option Addr) (cb : Nat) (W : World) (D' : Option Addr) (d' : Nat), q.c.length ≤ cb → kCl.C W B q.c.length q.c → kIt.C W D' (l.length - kc) (l.drop kc) → Calls Try.prog 19 #[.agg #[.slice B q.c.length cb, .int .i64 q.keep], .int .i64 pq, .slice D' (l.length - kc) d'] W (Res3 W x p 0) from fun B cb W D' d' hle hcl hnl => by
      have := growFill_walk B D' cb d' 25 q x pq p 0 (l.drop kc) W hcl hle (by rw [e2]; exact hnl) hf2
      rw [e2] at this; exact this)
    have HKC := Aside0.mk (And.intro e1 (And.intro e2 (show kc ≤ l.length by omega)))
    clear hfill fp hdone hl' hpos hnil h8 hdl hb hN hkc hf1 hf2 e1 e2
    go_upto_region 11 with (fail)
    clear t1 t2 t3 t4 g1 g2 z1 z2 z3 z4
    have k1' := Kd.C_take (m := kc) S7.out.hl (by have := HKC.out.2.2; omega)
    have k2' := Kd.C_drop (m := kc) (c := dl) S7.out.hl (by have := HKC.out.2.2; omega) HL.out.2.1
    rw [HKC.out.1] at k1'
    rw [HKC.out.2.1] at k2'
    have HK1 := Aside0.mk k1'
    have HK2 := Aside0.mk k2'
    clear k1' k2'
    have f1 : (kc : Int) ≤ (l.length : Int) := by have := HKC.out.2.2; omega
    have f2 : (kc : Int) ≤ (dl : Int) := by have := HKC.out.2.2; have := HL.out.2.1; omega
    have f3 : (0 : Int) ≤ (kc : Int) := by omega
    have f4 : (l.length : Int) ≤ (dl : Int) := by have := HL.out.2.1; omega
    have y0 := S7.out.hh.c0
    have y1 := S7.out.hh.c1
    go_cut [14, 15, 16] from 67 to 76 (fun v14 v15 v16 wc => ∃ (XN : Nat) (B' : Option Addr) (c' : Nat), v14 = .pointer (some ⟨XN, 0, none⟩) ∧ v15 = .int .i64 pq ∧ v16 = .int .i64 0 ∧ Aside0 (Bx wc XN B' c' q) ∧ Aside0 (Below w7.heap.size w7 wc))
    case first =>
      go_region_held3 (fun w' => w'.cell? ⟨s8, 0, none⟩ = some (.slice B8 h.c.length k8) ∧ w'.cell? ⟨s8, 1, none⟩ = some (.int .i64 h.keep)) (first | exact ⟨y0, y1⟩ | exact (fun (H : Below w7.heap.size w7 _) => ⟨(S7.out.hh.step H).c0, (S7.out.hh.step H).c1⟩) (by repeat (first | (with_reducible exact Below.refl _ _) | (with_reducible refine below_alloc ?_ _) | (with_reducible refine below_drew1 ?_) | (with_reducible refine pw_below_drewN ?_ _) | (with_reducible exact HB2.out) | (with_reducible refine below_set ?_ (Nat.le_refl _))))) (first | (go_at_call 19; (with_reducible refine (HG1.out _ _ _ S7.out.hh.le (Kd.C_below S7.out.hh.cl (by repeat (first | (with_reducible exact Below.refl _ _) | (with_reducible refine below_alloc ?_ _) | (with_reducible refine below_drew1 ?_) | (with_reducible refine pw_below_drewN ?_ _) | fail))) (Kd.C_below HK1.out (by repeat (first | (with_reducible exact Below.refl _ _) | (with_reducible refine below_alloc ?_ _) | (with_reducible refine below_drew1 ?_) | (with_reducible refine pw_below_drewN ?_ _) | fail)))).mono ?_); rintro e w2 ⟨B', c', rfl, hc', hr', hb2⟩; have HB2 := Aside0.mk (show Below w7.heap.size w7 w2 from below_step (by repeat (first | (with_reducible exact Below.refl _ _) | (with_reducible refine below_alloc ?_ _) | (with_reducible refine below_drew1 ?_) | (with_reducible refine pw_below_drewN ?_ _) | fail)) hb2); have HR2 := Aside0.mk (And.intro hc' hr'); (first | (have qx := blk_below (blk_drew (blk_new w7 (.cells #[.slice none 0 0, .int .i64 0] 24))) hb2; have QX := Aside0.mk qx; have qx0 := (blk_cell qx 0).trans (show _ = some (Value.slice none 0 0) from rfl); have qx1 := (blk_cell qx 1).trans (show _ = some (Value.int .i64 0) from rfl); have qf0 := blk_frozen qx 0; have qf1 := blk_frozen qx 1; clear qx) | skip); clear hb2 hc' hr') | fail)
      · go_wp2
        go_meet
        case rel => exact ⟨w2.heap.size, B', c', rfl, rfl, rfl, ⟨Bx.new HR2.out.2 HR2.out.1⟩, ⟨below_alloc HB2.out _⟩⟩
      · go_wp2
        go_meet
        case rel => exact ⟨w7.heap.size, B', c', rfl, rfl, rfl, ⟨⟨hb_store QX.out, cl_store HR2.out.2 QX.out, HR2.out.1⟩⟩, ⟨below_set (below_set HB2.out (Nat.le_refl _)) (Nat.le_refl _)⟩⟩
    case rest =>
      obtain ⟨s14, E2, k2, rfl, rfl, rfl, BQ8, HB8⟩ := hcut
      have S8 := Aside0.mk (S7.out.step HB8.out)
      have BA8 := Aside0.mk (BA7.out.step HB8.out)
      clear y0 y1
      go_upto_region 12 with (fail)
      have y0 := BQ8.out.c0
      have y1 := BQ8.out.c1
      go_cut [17, 18, 19] from 76 to 86 (fun v14 v15 v16 w9 => ∃ (XN : Nat) (B' : Option Addr) (c' : Nat), v14 = .pointer (some ⟨XN, 0, none⟩) ∧ v15 = .int .i64 p ∧ v16 = .int .i64 0 ∧ Aside0 (Bx w9 XN B' c' x) ∧ Aside0 (Below wc.heap.size wc w9))
      case first =>
        have k2 := HK2.out
        by_cases hcj : dl = kc
        · rw [if_pos hcj] at k2
          have HK3 := Aside0.mk k2
          clear k2
          subst hcj
          (go_region_held3 (fun w' => w'.cell? ⟨s14, 0, none⟩ = some (.slice E2 q.c.length k2) ∧ w'.cell? ⟨s14, 1, none⟩ = some (.int .i64 q.keep)) (first | exact ⟨y0, y1⟩ | exact (fun (H : Below wc.heap.size wc _) => ⟨(BQ8.out.step H).c0, (BQ8.out.step H).c1⟩) (by repeat (first | (with_reducible exact Below.refl _ _) | (with_reducible refine below_alloc ?_ _) | (with_reducible refine below_drew1 ?_) | (with_reducible refine pw_below_drewN ?_ _) | (with_reducible exact HB2.out) | (with_reducible refine below_set ?_ (Nat.le_refl _))))) (first | (go_at_call 19; (with_reducible refine (HG2.out _ _ _ _ _ BQ8.out.le (Kd.C_below BQ8.out.cl (by repeat (first | (with_reducible exact Below.refl _ _) | (with_reducible refine below_alloc ?_ _) | (with_reducible refine below_drew1 ?_) | (with_reducible refine pw_below_drewN ?_ _) | fail))) (Kd.C_below HK3.out (below_step HB8.out (by repeat (first | (with_reducible exact Below.refl _ _) | (with_reducible refine below_alloc ?_ _) | (with_reducible refine below_drew1 ?_) | (with_reducible refine pw_below_drewN ?_ _) | fail))))).mono ?_); rintro e w2 ⟨B', c', rfl, hc', hr', hb2⟩; have HB2 := Aside0.mk (show Below wc.heap.size wc w2 from below_step (by repeat (first | (with_reducible exact Below.refl _ _) | (with_reducible refine below_alloc ?_ _) | (with_reducible refine below_drew1 ?_) | (with_reducible refine pw_below_drewN ?_ _) | fail)) hb2); have HR2 := Aside0.mk (And.intro hc' hr'); (first | (have qx := blk_below (blk_drew (blk_new wc (.cells #[.slice none 0 0, .int .i64 0] 24))) hb2; have QX := Aside0.mk qx; have qx0 := (blk_cell qx 0).trans (show _ = some (Value.slice none 0 0) from rfl); have qx1 := (blk_cell qx 1).trans (show _ = some (Value.int .i64 0) from rfl); have qf0 := blk_frozen qx 0; have qf1 := blk_frozen qx 1; clear qx) | skip); clear hb2 hc' hr') | fail))
          · go_wp2
            go_meet
            case rel => exact ⟨w2.heap.size, B', c', rfl, rfl, rfl, ⟨Bx.new HR2.out.2 HR2.out.1⟩, ⟨below_alloc HB2.out _⟩⟩
          · go_wp2
            go_meet
            case rel => exact ⟨wc.heap.size, B', c', rfl, rfl, rfl, ⟨⟨hb_store QX.out, cl_store HR2.out.2 QX.out, HR2.out.1⟩⟩, ⟨below_set (below_set HB2.out (Nat.le_refl _)) (Nat.le_refl _)⟩⟩
        · rw [if_neg hcj] at k2
          have HK3 : Aside0 (Kd.C kIt w7 (Option.map (fun x => x.add (kc * 2)) D) (l.length - kc) (l.drop kc)) := Aside0.mk k2
          clear k2
          (go_region_held3 (fun w' => w'.cell? ⟨s14, 0, none⟩ = some (.slice E2 q.c.length k2) ∧ w'.cell? ⟨s14, 1, none⟩ = some (.int .i64 q.keep)) (first | exact ⟨y0, y1⟩ | exact (fun (H : Below wc.heap.size wc _) => ⟨(BQ8.out.step H).c0, (BQ8.out.step H).c1⟩) (by repeat (first | (with_reducible exact Below.refl _ _) | (with_reducible refine below_alloc ?_ _) | (with_reducible refine below_drew1 ?_) | (with_reducible refine pw_below_drewN ?_ _) | (with_reducible exact HB2.out) | (with_reducible refine below_set ?_ (Nat.le_refl _))))) (first | (go_at_call 19; (with_reducible refine (HG2.out _ _ _ _ _ BQ8.out.le (Kd.C_below BQ8.out.cl (by repeat (first | (with_reducible exact Below.refl _ _) | (with_reducible refine below_alloc ?_ _) | (with_reducible refine below_drew1 ?_) | (with_reducible refine pw_below_drewN ?_ _) | fail))) (Kd.C_below HK3.out (below_step HB8.out (by repeat (first | (with_reducible exact Below.refl _ _) | (with_reducible refine below_alloc ?_ _) | (with_reducible refine below_drew1 ?_) | (with_reducible refine pw_below_drewN ?_ _) | fail))))).mono ?_); rintro e w2 ⟨B', c', rfl, hc', hr', hb2⟩; have HB2 := Aside0.mk (show Below wc.heap.size wc w2 from below_step (by repeat (first | (with_reducible exact Below.refl _ _) | (with_reducible refine below_alloc ?_ _) | (with_reducible refine below_drew1 ?_) | (with_reducible refine pw_below_drewN ?_ _) | fail)) hb2); have HR2 := Aside0.mk (And.intro hc' hr'); (first | (have qx := blk_below (blk_drew (blk_new wc (.cells #[.slice none 0 0, .int .i64 0] 24))) hb2; have QX := Aside0.mk qx; have qx0 := (blk_cell qx 0).trans (show _ = some (Value.slice none 0 0) from rfl); have qx1 := (blk_cell qx 1).trans (show _ = some (Value.int .i64 0) from rfl); have qf0 := blk_frozen qx 0; have qf1 := blk_frozen qx 1; clear qx) | skip); clear hb2 hc' hr') | fail))
          · go_wp2
            go_meet
            case rel => exact ⟨w2.heap.size, B', c', rfl, rfl, rfl, ⟨Bx.new HR2.out.2 HR2.out.1⟩, ⟨below_alloc HB2.out _⟩⟩
          · go_wp2
            go_meet
            case rel => exact ⟨wc.heap.size, B', c', rfl, rfl, rfl, ⟨⟨hb_store QX.out, cl_store HR2.out.2 QX.out, HR2.out.1⟩⟩, ⟨below_set (below_set HB2.out (Nat.le_refl _)) (Nat.le_refl _)⟩⟩
      case rest =>
        obtain ⟨s17, E3, k3, rfl, rfl, rfl, BC9, HB9⟩ := hcut
        have S9 := Aside0.mk (S8.out.step HB9.out)
        have BA9 := Aside0.mk (BA8.out.step HB9.out)
        clear y0 y1 f1 f2 f3 f4 HG1 HG2 HK1 HK2 BQ8
        obtain ⟨hfill, fp, hdone⟩ := HFP.out
        obtain ⟨hl', hpos, hnil⟩ := hdone rfl
        have hget : ∀ key, getL l' key = l.foldl (stepV key) (0, 4) := fun key => by rw [hl', getL_fold]; rfl
        have HGET := Aside0.mk hget
        have HGT := Aside0.mk (fun (key : Int) (W : World) (hcl : kCl.C W E1 x.c.length x.c) => get07_walk 21 E1 k1 x p key l' W hcl fp.tr.list)
        have hn' : l'.length ≤ l.length := by rw [hl']; have := fold_len l []; simpa using this
        obtain ⟨N', hN'⟩ : ∃ N', N' = l'.length := ⟨_, rfl⟩
        have HLI := Aside0.mk (listC (n := N') fp.tr hN'.symm)
        have HNL := Aside0.mk (show N' ≤ l.length by omega)
        have HS5 := Aside0.mk (sameC x)
        have HPN := Aside0.mk (show (l.length = 0 → p = -1) ∧ (0 < l.length → 0 ≤ p) from ⟨fun h => hnil (List.length_eq_zero_iff.mp h), fun h => hpos (fun e => by rw [e] at h; simp at h)⟩)
        clear hfill fp hdone hl' hpos hnil hget hn' hN'
        go_wp2
        go_loopg [20, 21, 22, 23, 24] l.length (fun g s20 s21 s22 s23 s24 wr => ∃ i : Nat, s20 = .int .i64 i ∧ i + g = l.length ∧ Aside0 (Below wc.heap.size wc wr))
        case atStart => exact ⟨0, rfl, by omega, ⟨Below.refl _ _⟩⟩
        case round =>
          obtain ⟨i, rfl, hi, HB⟩ := hrel
          by_cases hlt : i < l.length
          · obtain ⟨g1, rfl⟩ : ∃ g1, gk = g1 + 1 := ⟨gk - 1, by omega⟩
            have r1 : decide (i < l.length) = true := decide_eq_true hlt
            have r2 : (i < l.length) = True := eq_true hlt
            obtain ⟨ad, rfl, x0, x1⟩ := at_it (Kd.C_below S9.out.hl HB.out) i hlt
            obtain ⟨key, hkey⟩ : ∃ key, key = (itAt l i).k := ⟨_, rfl⟩
            obtain ⟨v, hv⟩ : ∃ v, v = (itAt l i).v := ⟨_, rfl⟩
            rw [← hkey] at x0
            rw [← hv] at x1
            have HX0 := Aside0.mk x0
            have HX1 := Aside0.mk x1
            have HKV := Aside0.mk (And.intro hkey (And.intro hv (And.intro hlt hi)))
            have HW := Aside0.mk (show wrap64 ((i : Int) + 1) = ((i + 1 : Nat) : Int) by have := HL.out.1; unfold wrap64; omega)
            clear hkey hv hlt hi
            go_wp2
            go_loopg [21, 22] l.length (fun g s21 s22 wr2 => ∃ (j : Nat) (last : Int), s22 = .int .i64 j ∧ s21 = .int .i64 last ∧ j + g = l.length + i ∧ i ≤ j ∧ Aside0 ((j = i → last = v) ∧ (i < j → (l.take j).foldl (stepV key) (0, 4) = (last, 0))) ∧ Aside0 (Below wr.heap.size wr wr2))
            case atStart => exact ⟨i, v, rfl, rfl, by omega, Nat.le_refl _, ⟨fun _ => rfl, fun h => by omega⟩, ⟨Below.refl _ _⟩⟩
            case round =>
              obtain ⟨j, last, rfl, rfl, hj, hij, HLA, HB2⟩ := hrel
              by_cases hjl : j < l.length
              · obtain ⟨g2, rfl⟩ : ∃ g2, gk = g2 + 1 := ⟨gk - 1, by omega⟩
                have r3 : decide (j < l.length) = true := decide_eq_true hjl
                have r4 : (j < l.length) = True := eq_true hjl
                obtain ⟨ad2, hade, y0, y1⟩ := at_it (Kd.C_below S9.out.hl (below_step HB.out HB2.out)) j hjl
                cases hade
                have z0 := bcell HB2.out HX0.out
                obtain ⟨yy, hyy⟩ : ∃ yy, yy = itAt l j := ⟨_, rfl⟩
                rw [← hyy] at y0 y1
                have HY1 := Aside0.mk y1
                have HJ := Aside0.mk (And.intro hj (And.intro hij hjl))
                have HYY := Aside0.mk hyy
                have HW2 := Aside0.mk (show wrap64 ((j : Int) + 1) = ((j + 1 : Nat) : Int) by have := HL.out.1; unfold wrap64; omega)
                have hstep := fold_step key l j hjl (0, 4)
                rw [← hyy] at hstep
                have HST := Aside0.mk hstep
                clear hstep hyy hjl hij hj
                by_cases hk : yy.k = key
                · have u1 : (yy.k == key) = true := beq_iff_eq.mpr hk
                  have HKK := Aside0.mk hk
                  clear hk
                  go_wp2
                  go_quiet (fail)
                  obtain ⟨W5, hW5⟩ : ∃ W5, W5 = wr.drewN nq := ⟨_, rfl⟩
                  rw [← hW5]
                  have hb5 : Below wr.heap.size wr W5 := by rw [hW5]; exact below_drewN' _ _
                  have HB5 := Aside0.mk hb5
                  have v1 := bcell hb5 HY1.out
                  clear hW5 hb5 y0 y1 z0
                  go_wp2
                  go_roundg g2
                  case measure => omega
                  case rel => exact ⟨j + 1, yy.v, by rw [HW2.out], rfl, by have := HJ.out.1; omega, by have := HJ.out.2.1; omega, ⟨fun h => by have := HJ.out.2.1; omega, fun _ => by rw [HST.out]; unfold stepV; rw [if_pos HKK.out]⟩, ⟨below_step HB2.out HB5.out⟩⟩
                · have u1 : (yy.k == key) = false := beq_eq_false_iff_ne.mpr hk
                  have HKK := Aside0.mk hk
                  clear hk
                  go_wp2
                  go_quiet (fail)
                  obtain ⟨W5, hW5⟩ : ∃ W5, W5 = wr.drewN nq := ⟨_, rfl⟩
                  rw [← hW5]
                  have hb5 : Below wr.heap.size wr W5 := by rw [hW5]; exact below_drewN' _ _
                  have HB5 := Aside0.mk hb5
                  clear hW5 hb5 y0 y1 z0
                  go_wp2
                  go_roundg g2
                  case measure => omega
                  case rel =>
                    have hne : j ≠ i := by
                      rintro rfl
                      exact HKK.out (by rw [HYY.out, HKV.out.1])
                    exact ⟨j + 1, last, by rw [HW2.out], rfl, by have := HJ.out.1; omega, by have := HJ.out.2.1; omega, ⟨fun h => by have := HJ.out.2.1; omega, fun _ => by rw [HST.out, HLA.out.2 (by have := HJ.out.2.1; omega)]; unfold stepV; rw [if_neg HKK.out]⟩, ⟨below_step HB2.out HB5.out⟩⟩
              · have r3 : decide (j < l.length) = false := decide_eq_false hjl
                have r4 : (j < l.length) = False := eq_false hjl
                have hlast : getL l' key = (last, 0) := by
                  rw [HGET.out, ← HLA.out.2 (by have := HKV.out.2.2.1; omega), List.take_of_length_le (by omega)]
                have HGK := Aside0.mk (show ∀ (W : World), kCl.C W E1 x.c.length x.c → Calls Try.prog 25 #[.agg #[.slice E1 x.c.length k1, .int .i64 x.keep], .int .i64 p, .int .i64 key] W fun e w' => e = .returned (.tuple #[.int .i64 last, .int .i64 0]) ∧ Below W.heap.size W w' from fun W hcl => by
                  have := HGT.out key W hcl
                  rw [hlast] at this
                  exact this)
                have z0 := bcell HB2.out HX0.out
                have hb9 := below_step HB.out HB2.out
                have BA10 := Aside0.mk (BA9.out.step hb9)
                have HB10 := Aside0.mk hb9
                have a0 := BA10.out.c0
                have a1 := BA10.out.c1
                have u2 : (last != last) = false := bne_f rfl
                clear hlast hjl hij hj hb9
                go_wp2
                go_region_held3 (fun w' => w'.cell? ⟨s10, 0, none⟩ = some (.slice E1 x.c.length k1) ∧ w'.cell? ⟨s10, 1, none⟩ = some (.int .i64 x.keep) ∧ w'.cell? (ad.add (i * 2)) = some (.int .i64 key)) (first | exact ⟨a0, a1, z0⟩ | exact (fun (H : Below wr.heap.size wr _) => ⟨(BA10.out.step H).c0, (BA10.out.step H).c1, bcell H z0⟩) (by repeat (first | (with_reducible exact Below.refl _ _) | (with_reducible refine below_alloc ?_ _) | (with_reducible refine below_drew1 ?_) | (with_reducible refine pw_below_drewN ?_ _) | (with_reducible exact HB11.out)))) (first | (go_at_call 25; (with_reducible refine (HGK.out _ (Kd.C_below BA10.out.cl (by repeat (first | (with_reducible exact Below.refl _ _) | (with_reducible refine below_alloc ?_ _) | (with_reducible refine below_drew1 ?_) | (with_reducible refine pw_below_drewN ?_ _) | (with_reducible exact Below.refl _ _))))).mono ?_); rintro e w11 ⟨rfl, hb11⟩; have HB11 := Aside0.mk (below_step (show Below wr.heap.size wr _ from (by repeat (first | (with_reducible exact Below.refl _ _) | (with_reducible refine below_alloc ?_ _) | (with_reducible refine below_drew1 ?_) | (with_reducible refine pw_below_drewN ?_ _) | (with_reducible exact Below.refl _ _)))) hb11); clear hb11) | fail)
                all_goals
                  go_wp2
                  go_roundg g1
                  case measure => omega
                  case rel => exact ⟨i + 1, by rw [HW.out], by have := HKV.out.2.2.2; omega, ⟨below_step HB10.out HB11.out⟩⟩
          · have r1 : decide (i < l.length) = false := decide_eq_false hlt
            have r2 : (i < l.length) = False := eq_false hlt
            clear hlt hi
            have S10 := Aside0.mk (S9.out.step HB.out)
            have BA10 := Aside0.mk (BA9.out.step HB.out)
            have BC10 := Aside0.mk (BC9.out.step HB.out)
            have a0 := BA10.out.c0
            have a1 := BA10.out.c1
            have b0 := BC10.out.c0
            have b1 := BC10.out.c1
            have v1 : decide ((N' : Int) ≤ (l.length : Int)) = true := decide_eq_true (by have := HNL.out; omega)
            have v2 : decide (N' ≤ l.length) = true := decide_eq_true HNL.out
            by_cases hl0 : l.length = 0
            · have u1 : (p == -1) = true := beq_iff_eq.mpr (HPN.out.1 hl0)
              have u2 : ((l.length : Int) == 0) = true := beq_iff_eq.mpr (by omega)
              have u3 : (l.length == 0) = true := beq_iff_eq.mpr hl0
              clear hl0
              go_wp2_with (first | (go_at_call 17; (with_reducible refine (HS5.out _ _ _ _ _ (Kd.C_below BA10.out.cl (by repeat (first | (with_reducible exact Below.refl _ _) | (with_reducible refine below_alloc ?_ _) | (with_reducible refine below_drew1 ?_) | (with_reducible refine pw_below_drewN ?_ _) | (with_reducible exact Below.refl _ _)))) (Kd.C_below BC10.out.cl (by repeat (first | (with_reducible exact Below.refl _ _) | (with_reducible refine below_alloc ?_ _) | (with_reducible refine below_drew1 ?_) | (with_reducible refine pw_below_drewN ?_ _) | (with_reducible exact Below.refl _ _))))).mono ?_); rintro e w12 ⟨rfl, hb5⟩; have HB12 := Aside0.mk (below_step (show Below wr.heap.size wr _ from (by repeat (first | (with_reducible exact Below.refl _ _) | (with_reducible refine below_alloc ?_ _) | (with_reducible refine below_drew1 ?_) | (with_reducible refine pw_below_drewN ?_ _) | (with_reducible exact Below.refl _ _)))) hb5); clear hb5; have e0 := (BA10.out.step HB12.out).c0; have e1 := (BA10.out.step HB12.out).c1) | (go_at_call 24; (with_reducible refine (HLI.out _ _ _ (Kd.C_below BA10.out.cl (by repeat (first | (with_reducible exact Below.refl _ _) | (with_reducible refine below_alloc ?_ _) | (with_reducible refine below_drew1 ?_) | (with_reducible refine pw_below_drewN ?_ _) | (with_reducible exact HB12.out))))).mono ?_); rintro e w13 ⟨D7, d7, rfl, hd7, hr7, hb7⟩; have HB13' := Aside0.mk (below_step (show Below wr.heap.size wr _ from (by repeat (first | (with_reducible exact Below.refl _ _) | (with_reducible refine below_alloc ?_ _) | (with_reducible refine below_drew1 ?_) | (with_reducible refine pw_below_drewN ?_ _) | (with_reducible exact HB12.out)))) hb7); clear hd7 hr7 hb7) | fail)
              go_ret
              exact ⟨rfl, below_step S10.out.b0 HB13'.out⟩
            · have u1 : (p == -1) = false := beq_eq_false_iff_ne.mpr (by have := HPN.out.2 (by omega); omega)
              have u2 : ((l.length : Int) == 0) = false := beq_eq_false_iff_ne.mpr (by omega)
              have u3 : (l.length == 0) = false := beq_eq_false_iff_ne.mpr hl0
              clear hl0
              go_wp2_with (first | (go_at_call 17; (with_reducible refine (HS5.out _ _ _ _ _ (Kd.C_below BA10.out.cl (by repeat (first | (with_reducible exact Below.refl _ _) | (with_reducible refine below_alloc ?_ _) | (with_reducible refine below_drew1 ?_) | (with_reducible refine pw_below_drewN ?_ _) | (with_reducible exact Below.refl _ _)))) (Kd.C_below BC10.out.cl (by repeat (first | (with_reducible exact Below.refl _ _) | (with_reducible refine below_alloc ?_ _) | (with_reducible refine below_drew1 ?_) | (with_reducible refine pw_below_drewN ?_ _) | (with_reducible exact Below.refl _ _))))).mono ?_); rintro e w12 ⟨rfl, hb5⟩; have HB12 := Aside0.mk (below_step (show Below wr.heap.size wr _ from (by repeat (first | (with_reducible exact Below.refl _ _) | (with_reducible refine below_alloc ?_ _) | (with_reducible refine below_drew1 ?_) | (with_reducible refine pw_below_drewN ?_ _) | (with_reducible exact Below.refl _ _)))) hb5); clear hb5; have e0 := (BA10.out.step HB12.out).c0; have e1 := (BA10.out.step HB12.out).c1) | (go_at_call 24; (with_reducible refine (HLI.out _ _ _ (Kd.C_below BA10.out.cl (by repeat (first | (with_reducible exact Below.refl _ _) | (with_reducible refine below_alloc ?_ _) | (with_reducible refine below_drew1 ?_) | (with_reducible refine pw_below_drewN ?_ _) | (with_reducible exact HB12.out))))).mono ?_); rintro e w13 ⟨D7, d7, rfl, hd7, hr7, hb7⟩; have HB13' := Aside0.mk (below_step (show Below wr.heap.size wr _ from (by repeat (first | (with_reducible exact Below.refl _ _) | (with_reducible refine below_alloc ?_ _) | (with_reducible refine below_drew1 ?_) | (with_reducible refine pw_below_drewN ?_ _) | (with_reducible exact HB12.out)))) hb7); clear hd7 hr7 hb7) | fail)
              go_ret
              exact ⟨rfl, below_step S10.out.b0 HB13'.out⟩
end Go.Proofs.Ytopkoganfnabgaa.H
