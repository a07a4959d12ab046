import Derived.Test.YtcdgbpojcdecbaaDoorPx0
import Derived.ChangeArms
import Derived.OpenShut
namespace Go.Proofs.YtcdgbpojcdecbaaDoor.Rd
open Go.RowKit Go.Proofs.YtcdgbpojcdecbaaDoorW.PrintWords Go.Proofs.YtcdgbpojcdecbaaDoorW.PrintLast Go.Proofs.YtcdgbpojcdecbaaDoorW.PrintMore Go.Proofs.YtcdgbpojcdecbaaDoor.P
/-- What a value of type t reads as, as a Lean datum of the kind d. -/
def Rd {α : Type} (P : Program) (t : TypeId) (d : Kd α) (I : α → Prop) : Prop :=
  ∀ (H : Type) (enc : TypeId × Value → H) (w : World) (base : Nat) (spare : Nat → Bool) (held : Bool) (fuel : Nat) (cs : List Value) (x : DataW H × List MemPlace), DataW.trod enc P w base spare held fuel t cs = some x → ∃ a, d.K w a cs ∧ I a
theorem rd_int {P : Program} {t : TypeId} {k : IntKind} (ht : P.underlying t = some (.int k)) : Rd P t (Kd.int k) (fun n => (Lit.int k n).wf = true) := by
  intro H enc w base spare held fuel cs x h
  obtain ⟨n, rfl, _, hw⟩ := DataW.trod_int ht h
  exact ⟨n, rfl, hw⟩
theorem rd_bool {P : Program} {t : TypeId} (ht : P.underlying t = some .bool) : Rd P t Kd.bool (fun _ => True) := by
  intro H enc w base spare held fuel cs x h
  obtain ⟨n, rfl, _⟩ := DataW.trod_bool ht h
  exact ⟨n, rfl, trivial⟩
theorem rd_string {P : Program} {t : TypeId} (ht : P.underlying t = some .string) : Rd P t Kd.string (fun s => s.size ≤ maxLen) := by
  intro H enc w base spare held fuel cs x h
  obtain ⟨n, rfl, _, hw⟩ := DataW.trod_string ht h
  exact ⟨n, rfl, hw⟩
theorem choose_list {α : Type} (n : Nat) (Q : Nat → α → Prop) (h : ∀ i, i < n → ∃ a, Q i a) : ∃ l : List α, l.length = n ∧ ∀ i a, l[i]? = some a → Q i a := by
  induction n with
  | zero => exact ⟨[], rfl, fun i a e => by simp at e⟩
  | succ n ih =>
    obtain ⟨l, hl, hq⟩ := ih (fun i hi => h i (by omega))
    obtain ⟨a, ha⟩ := h n (by omega)
    refine ⟨l ++ [a], by simp [hl], fun i b e => ?_⟩
    by_cases hi : i < l.length
    · rw [List.getElem?_append_left hi] at e; exact hq i b e
    · rw [List.getElem?_append_right (by omega)] at e
      have : i - l.length = 0 := by
        rcases Nat.eq_zero_or_pos (i - l.length) with h | h
        · exact h
        · rw [List.getElem?_eq_none (by simp; omega)] at e; cases e
      rw [this] at e
      have hin : i = n := by omega
      subst hin
      simp at e
      rw [← e]; exact ha
theorem mapM_get {α β : Type} (f : α → Option β) : ∀ (l : List α) (cs : List β), l.mapM f = some cs → ∀ (i : Nat) (a : α), l[i]? = some a → f a = cs[i]?
  | [], cs, h, i, a, e => by simp at e
  | x :: l, cs, h, i, a, e => by
    rw [List.mapM_cons] at h
    simp only [Option.bind_eq_bind, Option.bind_eq_some_iff, Option.pure_def, Option.some.injEq] at h
    obtain ⟨b, hb, bs, hbs, rfl⟩ := h
    cases i with
    | zero => simp at e; subst e; simpa using hb
    | succ i => simpa using mapM_get f l bs hbs i a (by simpa using e)
theorem cells_get {w : World} {base n : Nat} {a : Addr} {cs : List Value} (h : w.cells? base a n = some cs) : cs.length = n ∧ ∀ i, i < n → w.cell? (a.add i) = cs[i]? := by
  unfold World.cells? at h
  split at h
  · have h2 := mapM_get _ _ _ h
    refine ⟨?_, fun i hi => h2 i i (by simp [hi])⟩
    have e := congrArg (Option.map List.length) h
    have : ∀ (l : List Nat) (bs : List Value), (l.mapM fun i => w.cell? (a.add i)) = some bs → bs.length = l.length := by
      intro l
      induction l with
      | nil => intro bs hb; simp at hb; subst hb; rfl
      | cons y l ih =>
        intro bs hb
        rw [List.mapM_cons] at hb
        simp only [Option.bind_eq_bind, Option.bind_eq_some_iff, Option.pure_def, Option.some.injEq] at hb
        obtain ⟨b, _, bs', hbs, rfl⟩ := hb
        simp [ih bs' hbs]
    simpa using this _ _ h
  · cases h
theorem rd_slice {α : Type} {P : Program} {t e : TypeId} {d : Kd α} {I : α → Prop} (ht : P.underlying t = some (.slice e)) (hc : P.cellsOf e = d.sz) (he : Rd P e d I) : Rd P t (Kd.slice e d) (fun xs => ∀ x ∈ xs, I x) := by
  intro H enc w base spare held fuel cs x h
  rcases DataW.trod_slice ht h with ⟨rfl, _⟩ | ⟨a, len, cap, elems, rest, n, _, rfl, _, _, hl, hm, hlen, hel, _, _⟩
  · exact ⟨[], ⟨none, 0, rfl, Nat.le_refl _, rfl, by simp, fun h => absurd h (by simp)⟩, fun _ hx => absurd hx (by simp)⟩
  · obtain ⟨xs, hxl, hxs⟩ := choose_list len (fun i y => (∃ c, c.length = d.sz ∧ d.K w y c ∧ ∀ j u, c[j]? = some u → w.cell? (a.add (i * d.sz + j)) = some u) ∧ I y) (fun i hi => by
      have h1 := hel i hi
      rw [List.getElem?_eq_getElem (by omega), Option.bind_eq_some_iff, hc] at h1
      obtain ⟨c, h2, h3⟩ := h1
      obtain ⟨y, hk, hI⟩ := he H enc w base spare held n c _ h3
      obtain ⟨c1, c2⟩ := cells_get h2
      refine ⟨y, ⟨c, c1, hk, fun j u hu => ?_⟩, hI⟩
      have hj : j < c.length := (List.getElem?_eq_some_iff.1 hu).1
      have := c2 j (by omega)
      rw [hu] at this
      rw [← this, Addr.add_add])
    refine ⟨xs, ⟨some a, cap, by rw [hxl], by omega, rfl, by unfold maxLen at hm; omega, fun _ => ⟨a, rfl, fun j p hp => (hxs j p hp).1⟩⟩, fun x hx => ?_⟩
    obtain ⟨i, hi, rfl⟩ := List.getElem_of_mem hx
    exact (hxs i _ (List.getElem?_eq_getElem hi)).2
theorem cons_of {α : Type} {l : List α} {n : Nat} (h : l.length = n + 1) : ∃ a t, l = a :: t ∧ t.length = n := by
  cases l with
  | nil => simp at h
  | cons a t => exact ⟨a, t, rfl, by simpa using h⟩
theorem field {H : Type} {enc : TypeId × Value → H} {P : Program} {w : World} {base : Nat} {spare : Nat → Bool} {held : Bool} {n : Nat} {t : TypeId} {cs : List Value} {xs : List (DataW H × List MemPlace)} {j : Nat}
    (h : DataW.trod enc P w base spare held n t cs = xs[j]?) (hj : j < xs.length) : DataW.trod enc P w base spare held n t cs = some xs[j] := by rw [h, List.getElem?_eq_getElem hj]
theorem rd_t22 : Rd Tryd.prog 22 (Kd.slice 3 (Kd.int .i64)) (fun l_ => ∀ x_ ∈ l_, (Lit.int .i64 x_).wf = true) := rd_slice Tryd.underlying22 (by kernel_rfl) (rd_int Tryd.underlying3)
theorem rd_s24 {H : Type} {enc : TypeId × Value → H} {w : World} {base : Nat} {spare : Nat → Bool} {held : Bool} {fuel : Nat} {cs : List Value} {x : DataW H × List MemPlace} (h : DataW.trod enc Tryd.prog w base spare held fuel 24 cs = some x) : ∃ (a0 : ByteArray) (a1 : Int) (A2 : Option Addr) (c2 : Nat) (l2 : List Int) (A3 : Option Addr) (c3 : Nat) (l3 : List Int), cs = [.string a0, .int .i64 a1, .slice A2 l2.length c2, .slice A3 l3.length c3] ∧ a0.size ≤ maxLen ∧ (Lit.int .i64 a1).wf = true ∧ l2.length ≤ c2 ∧ Kd.C (Kd.int .i64) w A2 l2.length l2 ∧ (∀ x_ ∈ l2, (Lit.int .i64 x_).wf = true) ∧ l3.length ≤ c3 ∧ Kd.C (Kd.int .i64) w A3 l3.length l3 ∧ (∀ x_ ∈ l3, (Lit.int .i64 x_).wf = true) := by
  obtain ⟨xs, n, rfl, rfl, hl, hx, hf⟩ := DataW.trod_struct Tryd.underlying24 h
  have hN : Tryd.prog.cellsOf 24 = 4 := by kernel_rfl
  rw [hN] at hl
  have hxl : xs.length = 4 := hx
  obtain ⟨z0_, y0_, rfl, hl0⟩ := cons_of hl
  obtain ⟨z1_, y1_, rfl, hl1⟩ := cons_of hl0
  obtain ⟨z2_, y2_, rfl, hl2⟩ := cons_of hl1
  obtain ⟨z3_, y3_, rfl, hl3⟩ := cons_of hl2
  obtain rfl := List.eq_nil_of_length_eq_zero hl3
  have g0 : DataW.trod enc Tryd.prog w base spare held n 9 (([z0_, z1_, z2_, z3_].drop 0).take (Tryd.prog.cellsOf 9)) = some xs[0] := field (hf 0 _ rfl) (by omega)
  rw [show Tryd.prog.cellsOf 9 = 1 by kernel_rfl] at g0
  replace g0 : DataW.trod enc Tryd.prog w base spare held n 9 [z0_] = some xs[0] := g0
  have g1 : DataW.trod enc Tryd.prog w base spare held n 3 (([z0_, z1_, z2_, z3_].drop 1).take (Tryd.prog.cellsOf 3)) = some xs[1] := field (hf 1 _ rfl) (by omega)
  rw [show Tryd.prog.cellsOf 3 = 1 by kernel_rfl] at g1
  replace g1 : DataW.trod enc Tryd.prog w base spare held n 3 [z1_] = some xs[1] := g1
  have g2 : DataW.trod enc Tryd.prog w base spare held n 22 (([z0_, z1_, z2_, z3_].drop 2).take (Tryd.prog.cellsOf 22)) = some xs[2] := field (hf 2 _ rfl) (by omega)
  rw [show Tryd.prog.cellsOf 22 = 1 by kernel_rfl] at g2
  replace g2 : DataW.trod enc Tryd.prog w base spare held n 22 [z2_] = some xs[2] := g2
  have g3 : DataW.trod enc Tryd.prog w base spare held n 22 (([z0_, z1_, z2_, z3_].drop 3).take (Tryd.prog.cellsOf 22)) = some xs[3] := field (hf 3 _ rfl) (by omega)
  rw [show Tryd.prog.cellsOf 22 = 1 by kernel_rfl] at g3
  replace g3 : DataW.trod enc Tryd.prog w base spare held n 22 [z3_] = some xs[3] := g3
  obtain ⟨a0, e0, _, hi0⟩ := DataW.trod_string Tryd.underlying9 g0
  obtain rfl := (List.cons.inj e0).1
  obtain ⟨a1, e1, _, hi1⟩ := DataW.trod_int Tryd.underlying3 g1
  obtain rfl := (List.cons.inj e1).1
  obtain ⟨l2, ⟨A2, c2, e2, hc2, hr2⟩, hi2⟩ := rd_t22 _ _ _ _ _ _ _ _ _ g2
  obtain rfl := (List.cons.inj e2).1
  obtain ⟨l3, ⟨A3, c3, e3, hc3, hr3⟩, hi3⟩ := rd_t22 _ _ _ _ _ _ _ _ _ g3
  obtain rfl := (List.cons.inj e3).1
  exact ⟨a0, a1, A2, c2, l2, A3, c3, l3, rfl, hi0, hi1, hc2, hr2, hi2, hc3, hr3, hi3⟩
end Go.Proofs.YtcdgbpojcdecbaaDoor.Rd
