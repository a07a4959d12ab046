import Derived.Test.YtgjjcgemelafaaaPx0
import Derived.ChangeArms
import Derived.OpenShut
namespace Go.Proofs.Ytgjjcgemelafaaa.Rd
open Go.RowKit Go.Proofs.YtgjjcgemelafaaaW.PrintWords Go.Proofs.YtgjjcgemelafaaaW.PrintLast Go.Proofs.YtgjjcgemelafaaaW.PrintMore Go.Proofs.Ytgjjcgemelafaaa.P
/-- What a value of type t reads as, as a Lean datum of the kind d. -/
def Rd {α : Type} (P : Program) (t : TypeId) (d : Kd α) (I : α → Prop) : Prop :=
  ∀ (H : Type) (enc : TypeId × Value → H) (w : World) (base : Nat) (spare : Nat → Bool) (held : Bool) (fuel : Nat) (cs : List Value) (x : DataW H × List MemPlace), DataW.trod enc P w base spare held fuel t cs = some x → ∃ a, d.K w a cs ∧ I a
theorem rd_string {P : Program} {t : TypeId} (ht : P.underlying t = some .string) : Rd P t Kd.string (fun s => s.size ≤ maxLen) := by
  intro H enc w base spare held fuel cs x h
  obtain ⟨n, rfl, _, hw⟩ := DataW.trod_string ht h
  exact ⟨n, rfl, hw⟩
theorem choose_list {α : Type} (n : Nat) (Q : Nat → α → Prop) (h : ∀ i, i < n → ∃ a, Q i a) : ∃ l : List α, l.length = n ∧ ∀ i a, l[i]? = some a → Q i a := by
  induction n with
  | zero => exact ⟨[], rfl, fun i a e => by simp at e⟩
  | succ n ih =>
    obtain ⟨l, hl, hq⟩ := ih (fun i hi => h i (by omega))
    obtain ⟨a, ha⟩ := h n (by omega)
    refine ⟨l ++ [a], by simp [hl], fun i b e => ?_⟩
    by_cases hi : i < l.length
    · rw [List.getElem?_append_left hi] at e; exact hq i b e
    · rw [List.getElem?_append_right (by omega)] at e
      have : i - l.length = 0 := by
        rcases Nat.eq_zero_or_pos (i - l.length) with h | h
        · exact h
        · rw [List.getElem?_eq_none (by simp; omega)] at e; cases e
      rw [this] at e
      have hin : i = n := by omega
      subst hin
      simp at e
      rw [← e]; exact ha
theorem mapM_get {α β : Type} (f : α → Option β) : ∀ (l : List α) (cs : List β), l.mapM f = some cs → ∀ (i : Nat) (a : α), l[i]? = some a → f a = cs[i]?
  | [], cs, h, i, a, e => by simp at e
  | x :: l, cs, h, i, a, e => by
    rw [List.mapM_cons] at h
    simp only [Option.bind_eq_bind, Option.bind_eq_some_iff, Option.pure_def, Option.some.injEq] at h
    obtain ⟨b, hb, bs, hbs, rfl⟩ := h
    cases i with
    | zero => simp at e; subst e; simpa using hb
    | succ i => simpa using mapM_get f l bs hbs i a (by simpa using e)
theorem cells_get {w : World} {base n : Nat} {a : Addr} {cs : List Value} (h : w.cells? base a n = some cs) : cs.length = n ∧ ∀ i, i < n → w.cell? (a.add i) = cs[i]? := by
  unfold World.cells? at h
  split at h
  · have h2 := mapM_get _ _ _ h
    refine ⟨?_, fun i hi => h2 i i (by simp [hi])⟩
    have e := congrArg (Option.map List.length) h
    have : ∀ (l : List Nat) (bs : List Value), (l.mapM fun i => w.cell? (a.add i)) = some bs → bs.length = l.length := by
      intro l
      induction l with
      | nil => intro bs hb; simp at hb; subst hb; rfl
      | cons y l ih =>
        intro bs hb
        rw [List.mapM_cons] at hb
        simp only [Option.bind_eq_bind, Option.bind_eq_some_iff, Option.pure_def, Option.some.injEq] at hb
        obtain ⟨b, _, bs', hbs, rfl⟩ := hb
        simp [ih bs' hbs]
    simpa using this _ _ h
  · cases h
theorem rd_slice {α : Type} {P : Program} {t e : TypeId} {d : Kd α} {I : α → Prop} (ht : P.underlying t = some (.slice e)) (hc : P.cellsOf e = d.sz) (he : Rd P e d I) : Rd P t (Kd.slice e d) (fun xs => ∀ x ∈ xs, I x) := by
  intro H enc w base spare held fuel cs x h
  rcases DataW.trod_slice ht h with ⟨rfl, _⟩ | ⟨a, len, cap, elems, rest, n, _, rfl, _, _, hl, hm, hlen, hel, _, _⟩
  · exact ⟨[], ⟨none, 0, rfl, Nat.le_refl _, rfl, by simp, fun h => absurd h (by simp)⟩, fun _ hx => absurd hx (by simp)⟩
  · obtain ⟨xs, hxl, hxs⟩ := choose_list len (fun i y => (∃ c, c.length = d.sz ∧ d.K w y c ∧ ∀ j u, c[j]? = some u → w.cell? (a.add (i * d.sz + j)) = some u) ∧ I y) (fun i hi => by
      have h1 := hel i hi
      rw [List.getElem?_eq_getElem (by omega), Option.bind_eq_some_iff, hc] at h1
      obtain ⟨c, h2, h3⟩ := h1
      obtain ⟨y, hk, hI⟩ := he H enc w base spare held n c _ h3
      obtain ⟨c1, c2⟩ := cells_get h2
      refine ⟨y, ⟨c, c1, hk, fun j u hu => ?_⟩, hI⟩
      have hj : j < c.length := (List.getElem?_eq_some_iff.1 hu).1
      have := c2 j (by omega)
      rw [hu] at this
      rw [← this, Addr.add_add])
    refine ⟨xs, ⟨some a, cap, by rw [hxl], by omega, rfl, by unfold maxLen at hm; omega, fun _ => ⟨a, rfl, fun j p hp => (hxs j p hp).1⟩⟩, fun x hx => ?_⟩
    obtain ⟨i, hi, rfl⟩ := List.getElem_of_mem hx
    exact (hxs i _ (List.getElem?_eq_getElem hi)).2
theorem cons_of {α : Type} {l : List α} {n : Nat} (h : l.length = n + 1) : ∃ a t, l = a :: t ∧ t.length = n := by
  cases l with
  | nil => simp at h
  | cons a t => exact ⟨a, t, rfl, by simpa using h⟩
theorem field {H : Type} {enc : TypeId × Value → H} {P : Program} {w : World} {base : Nat} {spare : Nat → Bool} {held : Bool} {n : Nat} {t : TypeId} {cs : List Value} {xs : List (DataW H × List MemPlace)} {j : Nat}
    (h : DataW.trod enc P w base spare held n t cs = xs[j]?) (hj : j < xs.length) : DataW.trod enc P w base spare held n t cs = some xs[j] := by rw [h, List.getElem?_eq_getElem hj]
theorem rd_s79 {H : Type} {enc : TypeId × Value → H} {w : World} {base : Nat} {spare : Nat → Bool} {held : Bool} {fuel : Nat} {cs : List Value} {x : DataW H × List MemPlace} (h : DataW.trod enc Try.prog w base spare held fuel 79 cs = some x) : ∃ (a0 : Int) (a1 : ByteArray), cs = [.int .i64 a0, .string a1] ∧ (Lit.int .i64 a0).wf = true ∧ a1.size ≤ maxLen := by
  obtain ⟨xs, n, rfl, rfl, hl, hx, hf⟩ := DataW.trod_struct Try.underlying79 h
  have hN : Try.prog.cellsOf 79 = 2 := by kernel_rfl
  rw [hN] at hl
  have hxl : xs.length = 2 := hx
  obtain ⟨z0_, y0_, rfl, hl0⟩ := cons_of hl
  obtain ⟨z1_, y1_, rfl, hl1⟩ := cons_of hl0
  obtain rfl := List.eq_nil_of_length_eq_zero hl1
  have g0 : DataW.trod enc Try.prog w base spare held n 3 (([z0_, z1_].drop 0).take (Try.prog.cellsOf 3)) = some xs[0] := field (hf 0 _ rfl) (by omega)
  rw [show Try.prog.cellsOf 3 = 1 by kernel_rfl] at g0
  replace g0 : DataW.trod enc Try.prog w base spare held n 3 [z0_] = some xs[0] := g0
  have g1 : DataW.trod enc Try.prog w base spare held n 9 (([z0_, z1_].drop 1).take (Try.prog.cellsOf 9)) = some xs[1] := field (hf 1 _ rfl) (by omega)
  rw [show Try.prog.cellsOf 9 = 1 by kernel_rfl] at g1
  replace g1 : DataW.trod enc Try.prog w base spare held n 9 [z1_] = some xs[1] := g1
  obtain ⟨a0, e0, _, hi0⟩ := DataW.trod_int Try.underlying3 g0
  obtain rfl := (List.cons.inj e0).1
  obtain ⟨a1, e1, _, hi1⟩ := DataW.trod_string Try.underlying9 g1
  obtain rfl := (List.cons.inj e1).1
  exact ⟨a0, a1, rfl, hi0, hi1⟩
def I79 (x : S79) : Prop := ((Lit.int .i64 x.f0).wf = true) ∧ (x.f1.size ≤ maxLen)
theorem rdk79 : Rd Try.prog 79 k79 I79 := by
  intro H enc w base spare held fuel cs x h
  obtain ⟨a0, a1, rfl, hi0, hi1⟩ := rd_s79 h
  exact ⟨⟨a0, a1⟩, k79_mk w ⟨a0, a1⟩ , ⟨hi0, hi1⟩⟩
theorem rd_t61 : Rd Try.prog 61 (Kd.slice 79 k79) (fun l_ => ∀ x_ ∈ l_, I79 x_) := rd_slice Try.underlying61 (by kernel_rfl) rdk79
theorem rd_t60 : Rd Try.prog 60 (Kd.slice 9 Kd.string) (fun l_ => ∀ x_ ∈ l_, x_.size ≤ maxLen) := rd_slice Try.underlying60 (by kernel_rfl) (rd_string Try.underlying9)
theorem rd_s63 {H : Type} {enc : TypeId × Value → H} {w : World} {base : Nat} {spare : Nat → Bool} {held : Bool} {fuel : Nat} {cs : List Value} {x : DataW H × List MemPlace} (h : DataW.trod enc Try.prog w base spare held fuel 63 cs = some x) : ∃ (A0 : Option Addr) (c0 : Nat) (l0 : List ByteArray) (A1 : Option Addr) (c1 : Nat) (l1 : List (S79)), cs = [.slice A0 l0.length c0, .slice A1 l1.length c1] ∧ l0.length ≤ c0 ∧ Kd.C Kd.string w A0 l0.length l0 ∧ (∀ x_ ∈ l0, x_.size ≤ maxLen) ∧ l1.length ≤ c1 ∧ Kd.C k79 w A1 l1.length l1 ∧ (∀ x_ ∈ l1, I79 x_) := by
  obtain ⟨xs, n, rfl, rfl, hl, hx, hf⟩ := DataW.trod_struct Try.underlying63 h
  have hN : Try.prog.cellsOf 63 = 2 := by kernel_rfl
  rw [hN] at hl
  have hxl : xs.length = 2 := hx
  obtain ⟨z0_, y0_, rfl, hl0⟩ := cons_of hl
  obtain ⟨z1_, y1_, rfl, hl1⟩ := cons_of hl0
  obtain rfl := List.eq_nil_of_length_eq_zero hl1
  have g0 : DataW.trod enc Try.prog w base spare held n 60 (([z0_, z1_].drop 0).take (Try.prog.cellsOf 60)) = some xs[0] := field (hf 0 _ rfl) (by omega)
  rw [show Try.prog.cellsOf 60 = 1 by kernel_rfl] at g0
  replace g0 : DataW.trod enc Try.prog w base spare held n 60 [z0_] = some xs[0] := g0
  have g1 : DataW.trod enc Try.prog w base spare held n 61 (([z0_, z1_].drop 1).take (Try.prog.cellsOf 61)) = some xs[1] := field (hf 1 _ rfl) (by omega)
  rw [show Try.prog.cellsOf 61 = 1 by kernel_rfl] at g1
  replace g1 : DataW.trod enc Try.prog w base spare held n 61 [z1_] = some xs[1] := g1
  obtain ⟨l0, ⟨A0, c0, e0, hc0, hr0⟩, hi0⟩ := rd_t60 _ _ _ _ _ _ _ _ _ g0
  obtain rfl := (List.cons.inj e0).1
  obtain ⟨l1, ⟨A1, c1, e1, hc1, hr1⟩, hi1⟩ := rd_t61 _ _ _ _ _ _ _ _ _ g1
  obtain rfl := (List.cons.inj e1).1
  exact ⟨A0, c0, l0, A1, c1, l1, rfl, hc0, hr0, hi0, hc1, hr1, hi1⟩
end Go.Proofs.Ytgjjcgemelafaaa.Rd
