import Derived.Test.YtodejilhgpejnaaGreatP0
namespace Go.Proofs.YtodejilhgpejnaaGreat.Q
open Go.RowKit Go.Proofs.YtodejilhgpejnaaGreatW.PrintWords Go.Proofs.YtodejilhgpejnaaGreatW.PrintLast Go.Proofs.YtodejilhgpejnaaGreatW.PrintMore
attribute [local go_sem] max2_int min2_int max_two min_two max_three min_three max_four min_four
set_option linter.unusedVariables false
set_option linter.unusedSimpArgs false
section
variable {P : Program} {α : Type}
/-- append to a row that is full (cap = len), whoever owns it: a new row. -/
theorem run_append_full (d : Kd α) (hKM : ∀ (w : World) (base : Nat) (ok : Nat → Prop) (x : α) (cs : List Value), d.K w x cs → d.M w base ok x cs) (t ty e : TypeId) (z : Value) (bytes : Nat) (ht : P.underlying t = some (.slice e))
    (hinfo : (P.info? e).map (fun i => (i.zero, i.size, i.bytes)) = some (some z, d.sz, bytes)) (hz : z.cells.size = d.sz) (hs0 : 0 < d.sz)
    (W : World) (A : Option Addr) (n : Nat) (xs : List α) (HA : d.C W A n xs) (B : Option Addr) (m c : Nat) (ys : List α) (HY : d.C W B m ys) (hm : 0 < m) (hb : n + m ≤ maxLen) (hl : (n + m) * bytes ≤ 140737488355328) (hnz : A = none → n = 0) :
    ∃ A' c' w', (Builtin.append_ #[t, t] ty #[.slice A n n, .slice B m c]).run P W = .ok (.slice A' (xs ++ ys).length c') w' ∧ (xs ++ ys).length ≤ c' ∧ d.R e w' W.heap.size (fun k => W.heap.size ≤ k) (.slice A' (xs ++ ys).length c') (xs ++ ys) ∧ Below W.heap.size W w' := by
  cases hi : P.info? e with
  | none => rw [hi] at hinfo; simp at hinfo
  | some i =>
    rw [hi] at hinfo
    simp only [Option.map_some, Option.some.injEq, Prod.mk.injEq] at hinfo
    obtain ⟨hz0, hz1, hz2⟩ := hinfo
    obtain ⟨bd, rfl, _⟩ := HY.2.2 hm
    obtain ⟨news, hn1, hn2⟩ := ReadsRow.inner_ HY
    have hxl : xs.length = n := HA.1
    have hyl : ys.length = m := HY.1
    have hone : ∀ {zs : List α} {cs : List Value}, Reps (d.K W) d.sz zs cs → ∀ u ∈ cs, u.oneCell' = true := by
      intro zs cs h u hu
      obtain ⟨q, hq, rfl⟩ := List.mem_iff_getElem.1 hu
      have hql : q / d.sz < zs.length := by
        rw [Nat.div_lt_iff_lt_mul hs0, ← h.1]; exact hq
      have hc := h.2 (q / d.sz) _ (List.getElem?_eq_getElem hql)
      refine d.K_one hc _ ?_
      rw [List.mem_iff_getElem?]
      refine ⟨q % d.sz, ?_⟩
      rw [List.getElem?_take, if_pos (Nat.mod_lt _ hs0), List.getElem?_drop, Nat.mul_comm, Nat.div_add_mod, List.getElem?_eq_getElem hq]
    have fin : ∀ v' w' (olds : List Value), Reps (d.K W) d.sz xs olds → w'.ownsRow W.heap.size e d.sz v' (n + m) (olds ++ news) → W.grownBy w' none → ∃ A' c', v' = .slice A' (xs ++ ys).length c' ∧ (xs ++ ys).length ≤ c' ∧ d.R e w' W.heap.size (fun k => W.heap.size ≤ k) (.slice A' (xs ++ ys).length c') (xs ++ ys) ∧ Below W.heap.size W w' := by
      intro v' w' olds ho h1 h2
      have hbl : Below W.heap.size W w' := (Below.refl _ W).grown h2 (Nat.le_refl _) (fun k hk => by cases hk)
      have hrow : OwnRow (d.M w' W.heap.size (fun k => W.heap.size ≤ k ∧ some k ≠ v'.ownBlock)) e d.sz w' W.heap.size v' (xs ++ ys) := ⟨olds ++ news, by rw [List.length_append, hxl, hyl]; exact h1, (Kd.reps_append ho hn1).imp_ (fun p c hp => hKM _ _ _ _ _ (d.K_below hbl hp))⟩
      have hR : d.R e w' W.heap.size (fun k => W.heap.size ≤ k) v' (xs ++ ys) := ⟨fun k hk => own_base h1 k hk, hrow⟩
      obtain ⟨A', c', e1, e2, e3⟩ := OwnRow.reads hrow
      subst e1
      exact ⟨A', c', rfl, e2, hR, hbl⟩
    cases A with
    | some b =>
      obtain ⟨olds, ho1, ho2⟩ := ReadsRow.inner_ HA
      obtain ⟨v', w', hrun, r1, r2⟩ := run_append_arg_grows (P := P) W t ty e i z d.sz bytes ht hi hz0 hz1 hz2 hz hs0 b n n olds (by rw [ho1.1, hxl]) ho2 bd m c news (by rw [hn1.1, hyl]) hn2 (by omega) hb hl
      obtain ⟨A', c', rfl, h3, h4, h5⟩ := fin v' w' olds ho1 r1 r2
      exact ⟨A', c', w', hrun, h3, h4, h5⟩
    | none =>
      obtain rfl := hnz rfl
      obtain rfl : xs = [] := List.eq_nil_of_length_eq_zero hxl
      obtain ⟨v', w', hrun, r1, r2, _⟩ := run_append_own (P := P) W W.heap.size t ty e i z d.sz bytes ht hi hz0 hz1 hz2 hz hs0 (.slice none 0 0) 0 [] (World.ownsRow_nil W _ e d.sz) bd m c news (by rw [hn1.1, hyl]) hn2 (hone hn1) hb hl (Nat.le_refl _)
      obtain ⟨A', c', rfl, h3, h4, h5⟩ := fin v' w' [] (Reps.none _ _) r1 r2
      exact ⟨A', c', w', hrun, h3, h4, h5⟩
theorem append_full_step (d : Kd α) (hKM : ∀ (w : World) (base : Nat) (ok : Nat → Prop) (x : α) (cs : List Value), d.K w x cs → d.M w base ok x cs) {ops : Array Oper} {o : Oper} {a : Act} {W : World} {Kc : Act → World → Prop} {Q : Exit → Act → World → Prop} {E : Prop} (hgd : o.guard = none) (s x : Operand) (t e : TypeId) (z : Value) (bytes : Nat)
    (ho : o.op = .call { callee := .builtin .append, args := #[s, x], argTypes := #[t, t] }) (ht : P.underlying t = some (.slice e))
    (hinfo : (P.info? e).map (fun i => (i.zero, i.size, i.bytes)) = some (some z, d.sz, bytes)) (hz : z.cells.size = d.sz) (hs0 : 0 < d.sz)
    (A : Option Addr) (n : Nat) (xs : List α) (B : Option Addr) (m c : Nat) (ys : List α) (hs : a.eval s = .slice A n n) (hx : a.eval x = .slice B m c) (HA : d.C W A n xs) (HY : d.C W B m ys) (hm : 0 < m) (hb : n + m ≤ maxLen) (hl : (n + m) * bytes ≤ 140737488355328) (hnz : A = none → n = 0)
    (h : ∀ A' c' w', (xs ++ ys).length ≤ c' → d.R e w' W.heap.size (fun k => W.heap.size ≤ k) (.slice A' (xs ++ ys).length c') (xs ++ ys) → Below W.heap.size W w' → Kc (a.put o.dst (.slice A' (xs ++ ys).length c')) w') :
    if Region.wanted o (yielded ops a.tmps) = true then Oper.wp P o a W Kc Q else E := by
  have hw : Region.wanted o (yielded ops a.tmps) = true := by simp [Region.wanted, hgd]
  rw [if_pos hw]
  obtain ⟨A', c', w', hrun, h1, h2, h3⟩ := run_append_full d hKM t o.type e z bytes ht hinfo hz hs0 W A n xs HA B m c ys HY hm hb hl hnz
  unfold Oper.wp
  simp [execOp, ho, resolve, invoke, builtin, hs, hx, hrun, Result.andThen]
  have := h A' c' w' h1 h2 h3
  rw [List.length_append] at this
  exact this
theorem append_full_list (d : Kd α) (hKM : ∀ (w : World) (base : Nat) (ok : Nat → Prop) (x : α) (cs : List Value), d.K w x cs → d.M w base ok x cs) {ops : Array Oper} {rest : List Oper} {o : Oper} {a : Act} {W : World} {Q : Exit → Act → World → Prop} (hgd : o.guard = none) (s x : Operand) (t e : TypeId) (z : Value) (bytes : Nat)
    (ho : o.op = .call { callee := .builtin .append, args := #[s, x], argTypes := #[t, t] }) (ht : P.underlying t = some (.slice e))
    (hinfo : (P.info? e).map (fun i => (i.zero, i.size, i.bytes)) = some (some z, d.sz, bytes)) (hz : z.cells.size = d.sz) (hs0 : 0 < d.sz)
    (A : Option Addr) (n : Nat) (xs : List α) (B : Option Addr) (m c : Nat) (ys : List α) (hs : a.eval s = .slice A n n) (hx : a.eval x = .slice B m c) (HA : d.C W A n xs) (HY : d.C W B m ys) (hm : 0 < m) (hb : n + m ≤ maxLen) (hl : (n + m) * bytes ≤ 140737488355328) (hnz : A = none → n = 0)
    (h : ∀ A' c' w', (xs ++ ys).length ≤ c' → d.R e w' W.heap.size (fun k => W.heap.size ≤ k) (.slice A' (xs ++ ys).length c') (xs ++ ys) → Below W.heap.size W w' → wpList P ops Q rest (a.put o.dst (.slice A' (xs ++ ys).length c')) w') :
    wpList P ops Q (o :: rest) a W := by
  refine wpList_plain hgd fun K hK => ?_
  obtain ⟨A', c', w', hrun, h1, h2, h3⟩ := run_append_full d hKM t o.type e z bytes ht hinfo hz hs0 W A n xs HA B m c ys HY hm hb hl hnz
  unfold Oper.wp
  simp [execOp, ho, resolve, invoke, builtin, hs, hx, hrun, Result.andThen]
  have := hK _ _ (h A' c' w' h1 h2 h3)
  rw [List.length_append] at this
  exact this
end
theorem u8_KM (w : World) (base : Nat) (ok : Nat → Prop) (x : Int) (cs : List Value) (h : (Kd.int .u8).K w x cs) : (Kd.int .u8).M w base ok x cs := h
theorem C_cells (w : World) (g : Nat) (l : List Int) (fr : Nat × Nat) (h : w.heap[g]? = some (.cells (l.map (Value.int .u8)).toArray 5 fr)) (hm : l.length ≤ 9223372036854775807) : Kd.C (Kd.int .u8) w (some ⟨g, 0, none⟩) l.length l := by
  refine Kd.C_of_reads (d := 0) ⟨rfl, hm, fun _ => ⟨_, rfl, fun j hj => ?_⟩⟩
  have e : (⟨g, 0, none⟩ : Addr).add j = ⟨g, j, none⟩ := by simp [Addr.add]; omega
  rw [e, cell_of_row w g j _ _ fr h]
  simp [List.getElem?_eq_getElem hj]
theorem R_deep {w W w' : World} {v : Value} {xs : List Int} (h : (Kd.int .u8).R 5 w' W.heap.size (fun k => W.heap.size ≤ k) v xs) (hb : w.heap.size ≤ W.heap.size) : (Kd.int .u8).R 5 w' w.heap.size (fun _ => True) v xs := Kd.R_mono (Kd.R_lower h hb) (fun _ _ => trivial)
end Go.Proofs.YtodejilhgpejnaaGreat.Q
