-- By wip/tools/drive.py: the kit's print, with contracts of this session's own among the functions.
import Derived.Test.YtgjjcgemelafaaaPx0
import Derived.Test.YtgjjcgemelafaaaPx8
import Derived.Test.YtgjjcgemelafaaaPx11
namespace Go.Proofs.Ytgjjcgemelafaaa.P
open Go.RowKit Go.Proofs.YtgjjcgemelafaaaW.PrintWords Go.Proofs.YtgjjcgemelafaaaW.PrintLast Go.Proofs.YtgjjcgemelafaaaW.PrintMore
attribute [local go_sem] max2_int min2_int max_two min_two max_three min_three max_four min_four   -- for this text's walks alone
set_option linter.unusedVariables false
set_option linter.unusedSimpArgs false
section
variable {P : Program} {α : Type}
/-- append to a row that is full (cap = len), whoever owns it: a new row. -/
theorem run_append_full (d : Kd α) (hKM : ∀ (w : World) (base : Nat) (ok : Nat → Prop) (x : α) (cs : List Value), d.K w x cs → d.M w base ok x cs) (t ty e : TypeId) (z : Value) (bytes : Nat) (ht : P.underlying t = some (.slice e))
    (hinfo : (P.info? e).map (fun i => (i.zero, i.size, i.bytes)) = some (some z, d.sz, bytes)) (hz : z.cells.size = d.sz) (hs0 : 0 < d.sz)
    (W : World) (A : Option Addr) (n : Nat) (xs : List α) (HA : d.C W A n xs) (B : Option Addr) (m c : Nat) (ys : List α) (HY : d.C W B m ys) (hm : 0 < m) (hb : n + m ≤ maxLen) (hl : (n + m) * bytes ≤ 140737488355328) (hnz : A = none → n = 0) :
    ∃ A' c' w', (Builtin.append_ #[t, t] ty #[.slice A n n, .slice B m c]).run P W = .ok (.slice A' (xs ++ ys).length c') w' ∧ (xs ++ ys).length ≤ c' ∧ d.R e w' W.heap.size (fun k => W.heap.size ≤ k) (.slice A' (xs ++ ys).length c') (xs ++ ys) ∧ Below W.heap.size W w' := by
  cases hi : P.info? e with
  | none => rw [hi] at hinfo; simp at hinfo
  | some i =>
    rw [hi] at hinfo
    simp only [Option.map_some, Option.some.injEq, Prod.mk.injEq] at hinfo
    obtain ⟨hz0, hz1, hz2⟩ := hinfo
    obtain ⟨bd, rfl, _⟩ := HY.2.2 hm
    obtain ⟨news, hn1, hn2⟩ := ReadsRow.inner_ HY
    have hxl : xs.length = n := HA.1
    have hyl : ys.length = m := HY.1
    have hone : ∀ {zs : List α} {cs : List Value}, Reps (d.K W) d.sz zs cs → ∀ u ∈ cs, u.oneCell' = true := by
      intro zs cs h u hu
      obtain ⟨q, hq, rfl⟩ := List.mem_iff_getElem.1 hu
      have hql : q / d.sz < zs.length := by
        rw [Nat.div_lt_iff_lt_mul hs0, ← h.1]; exact hq
      have hc := h.2 (q / d.sz) _ (List.getElem?_eq_getElem hql)
      refine d.K_one hc _ ?_
      rw [List.mem_iff_getElem?]
      refine ⟨q % d.sz, ?_⟩
      rw [List.getElem?_take, if_pos (Nat.mod_lt _ hs0), List.getElem?_drop, Nat.mul_comm, Nat.div_add_mod, List.getElem?_eq_getElem hq]
    have fin : ∀ v' w' (olds : List Value), Reps (d.K W) d.sz xs olds → w'.ownsRow W.heap.size e d.sz v' (n + m) (olds ++ news) → W.grownBy w' none → ∃ A' c', v' = .slice A' (xs ++ ys).length c' ∧ (xs ++ ys).length ≤ c' ∧ d.R e w' W.heap.size (fun k => W.heap.size ≤ k) (.slice A' (xs ++ ys).length c') (xs ++ ys) ∧ Below W.heap.size W w' := by
      intro v' w' olds ho h1 h2
      have hbl : Below W.heap.size W w' := (Below.refl _ W).grown h2 (Nat.le_refl _) (fun k hk => by cases hk)
      have hrow : OwnRow (d.M w' W.heap.size (fun k => W.heap.size ≤ k ∧ some k ≠ v'.ownBlock)) e d.sz w' W.heap.size v' (xs ++ ys) := ⟨olds ++ news, by rw [List.length_append, hxl, hyl]; exact h1, (Kd.reps_append ho hn1).imp_ (fun p c hp => hKM _ _ _ _ _ (d.K_below hbl hp))⟩
      have hR : d.R e w' W.heap.size (fun k => W.heap.size ≤ k) v' (xs ++ ys) := ⟨fun k hk => own_base h1 k hk, hrow⟩
      obtain ⟨A', c', e1, e2, e3⟩ := OwnRow.reads hrow
      subst e1
      exact ⟨A', c', rfl, e2, hR, hbl⟩
    cases A with
    | some b =>
      obtain ⟨olds, ho1, ho2⟩ := ReadsRow.inner_ HA
      obtain ⟨v', w', hrun, r1, r2⟩ := run_append_arg_grows (P := P) W t ty e i z d.sz bytes ht hi hz0 hz1 hz2 hz hs0 b n n olds (by rw [ho1.1, hxl]) ho2 bd m c news (by rw [hn1.1, hyl]) hn2 (by omega) hb hl
      obtain ⟨A', c', rfl, h3, h4, h5⟩ := fin v' w' olds ho1 r1 r2
      exact ⟨A', c', w', hrun, h3, h4, h5⟩
    | none =>
      obtain rfl := hnz rfl
      obtain rfl : xs = [] := List.eq_nil_of_length_eq_zero hxl
      obtain ⟨v', w', hrun, r1, r2, _⟩ := run_append_own (P := P) W W.heap.size t ty e i z d.sz bytes ht hi hz0 hz1 hz2 hz hs0 (.slice none 0 0) 0 [] (World.ownsRow_nil W _ e d.sz) bd m c news (by rw [hn1.1, hyl]) hn2 (hone hn1) hb hl (Nat.le_refl _)
      obtain ⟨A', c', rfl, h3, h4, h5⟩ := fin v' w' [] (Reps.none _ _) r1 r2
      exact ⟨A', c', w', hrun, h3, h4, h5⟩
theorem append_full_step (d : Kd α) (hKM : ∀ (w : World) (base : Nat) (ok : Nat → Prop) (x : α) (cs : List Value), d.K w x cs → d.M w base ok x cs) {ops : Array Oper} {o : Oper} {a : Act} {W : World} {Kc : Act → World → Prop} {Q : Exit → Act → World → Prop} {E : Prop} (hgd : o.guard = none) (s x : Operand) (t e : TypeId) (z : Value) (bytes : Nat)
    (ho : o.op = .call { callee := .builtin .append, args := #[s, x], argTypes := #[t, t] }) (ht : P.underlying t = some (.slice e))
    (hinfo : (P.info? e).map (fun i => (i.zero, i.size, i.bytes)) = some (some z, d.sz, bytes)) (hz : z.cells.size = d.sz) (hs0 : 0 < d.sz)
    (A : Option Addr) (n : Nat) (xs : List α) (B : Option Addr) (m c : Nat) (ys : List α) (hs : a.eval s = .slice A n n) (hx : a.eval x = .slice B m c) (HA : d.C W A n xs) (HY : d.C W B m ys) (hm : 0 < m) (hb : n + m ≤ maxLen) (hl : (n + m) * bytes ≤ 140737488355328) (hnz : A = none → n = 0)
    (h : ∀ A' c' w', (xs ++ ys).length ≤ c' → d.R e w' W.heap.size (fun k => W.heap.size ≤ k) (.slice A' (xs ++ ys).length c') (xs ++ ys) → Below W.heap.size W w' → Kc (a.put o.dst (.slice A' (xs ++ ys).length c')) w') :
    if Region.wanted o (yielded ops a.tmps) = true then Oper.wp P o a W Kc Q else E := by
  have hw : Region.wanted o (yielded ops a.tmps) = true := by simp [Region.wanted, hgd]
  rw [if_pos hw]
  obtain ⟨A', c', w', hrun, h1, h2, h3⟩ := run_append_full d hKM t o.type e z bytes ht hinfo hz hs0 W A n xs HA B m c ys HY hm hb hl hnz
  unfold Oper.wp
  simp [execOp, ho, resolve, invoke, builtin, hs, hx, hrun, Result.andThen]
  have := h A' c' w' h1 h2 h3
  rw [List.length_append] at this
  exact this
end
theorem clip_walk (A : Option Addr) (n c : Nat) (w : World) (hc : n ≤ c) (hm : n ≤ 9223372036854775807) :
    Calls Try.prog 92 #[.slice A n c] w fun e w' => e = .returned (.slice A n n) ∧ w' = w := by
  go_enter Try.func92, Try.ntmps92
  go_wp2
  go_ret
  exact ⟨rfl, rfl⟩
theorem blk2 (w : World) (o1 o2 : Obj) : ((w.alloc o1).alloc o2).heap[w.heap.size + 1]? = some o2 := by
  have := blk_new (w.alloc o1) o2
  simpa using this
theorem blk3 (w : World) (o1 o2 o3 : Obj) : (((w.alloc o1).alloc o2).alloc o3).heap[w.heap.size + 1 + 1]? = some o3 := by
  have := blk_new ((w.alloc o1).alloc o2) o3
  simpa using this
theorem below_setc {B : Nat} {w0 w : World} (h : Below B w0 w) {g : Nat} (hg : B ≤ g) (j : Nat) (u : Value) : Below B w0 (w.setCell ⟨g, j, none⟩ u) := h.setCell hg _
theorem k79_KM (w : World) (base : Nat) (ok : Nat → Prop) (x : S79) (cs : List Value) (h : k79.K w x cs) : k79.M w base ok x cs := by
  obtain rfl := k79_open h
  exact k79_mkM w base ok x
theorem C_new79 (w : World) (x : S79) : Kd.C k79 (w.alloc (.cells #[.int .i64 x.f0, .string x.f1] 79)) (some ⟨w.heap.size, 0, none⟩) 1 [x] := by
  refine ⟨rfl, by omega, fun _ => ⟨_, rfl, fun j p hj => ?_⟩⟩
  have hj0 : j = 0 := by
    have := (List.getElem?_eq_some_iff.1 hj).1
    simp at this; exact this
  subst hj0
  obtain rfl : x = p := by simpa using hj
  refine ⟨[.int .i64 x.f0, .string x.f1], rfl, k79_mk _ _, fun i u hu => ?_⟩
  have h1 := blk_cell (blk_new w (.cells #[.int .i64 x.f0, .string x.f1] 79)) i
  have e : (⟨w.heap.size, 0, none⟩ : Addr).add (0 * k79.sz + i) = ⟨w.heap.size, i, none⟩ := by simp [Addr.add]; omega
  rw [e, h1]
  simpa using hu
theorem and_nil_true {a : Bool} {l : List UInt8} (h : (a && (l == ([] : List UInt8))) = true) : a = true ∧ l.isEmpty = true := by
  rw [Bool.and_eq_true] at h
  exact ⟨h.1, by simpa using h.2⟩
theorem and_nil_false {a : Bool} {l : List UInt8} (h : (a && (l == ([] : List UInt8))) = false) : (a && l.isEmpty) = false := by
  have e : (l == ([] : List UInt8)) = l.isEmpty := by cases l <;> rfl
  rwa [e] at h
def putF (b : List ByteArray) (l : List S79) (x : S79) : List S79 × Int := if fitsB b.length x then (l ++ [x], 0) else (l, 1)
set_option maxHeartbeats 4000000 in
set_option maxRecDepth 100000 in
theorem put_walk (A0 : Option Addr) (c0 : Nat) (l0 : List ByteArray) (A1 : Option Addr) (c1 : Nat) (l1 : List S79) (x : S79) (w : World) (hr0 : Kd.C Kd.string w A0 l0.length l0) (hc0 : l0.length ≤ c0) (hr1 : Kd.C k79 w A1 l1.length l1) (hc1 : l1.length ≤ c1) (hl : l1.length ≤ 1000000) (P1 : Nat → Prop) (hF1 : Kd.F k79 w P1 A1 l1.length l1) :
    Calls Try.prog 44 #[.agg #[.slice A0 l0.length c0, .slice A1 l1.length c1], .int .i64 x.f0, .string x.f1] w fun e w' => ∃ A c, e = .returned (.tuple #[.agg #[.slice A0 l0.length c0, .slice A (putF l0 l1 x).1.length c], .int .i64 (putF l0 l1 x).2]) ∧ (putF l0 l1 x).1.length ≤ c ∧ Kd.F k79 w' (fun k => P1 k ∨ w.heap.size ≤ k) A (putF l0 l1 x).1.length (putF l0 l1 x).1 ∧ Below w.heap.size w w' := by
  have HF := Aside0.mk (fits_f l0 l1 x)
  obtain ⟨r, hr⟩ : ∃ r, fitsB l0.length x = r := ⟨_, rfl⟩
  unfold putF
  rw [hr] at HF ⊢
  have HR0 := Aside0.mk hr0
  have HR1 := Aside0.mk hr1
  have HC0 := Aside0.mk hc0
  have HC1 := Aside0.mk hc1
  have HL := Aside0.mk hl
  have HF1 := Aside0.mk hF1
  obtain ⟨x0, x1⟩ := x
  clear hr hr0 hr1 hc0 hc1 hl hF1
  cases r
  · rw [if_neg (by decide)]
    go_enter Try.func44, Try.ntmps44
    go_wp2_with (first | (go_at_call 86; (with_reducible refine (disk_fits.calls A0 c0 l0 A1 c1 l1 x0 x1 false _ ?s1 HC0.out ?s2 HC1.out HF.out).mono ?_); (case s1 => repeat (first | exact HR0.out | refine Kd.C_alloc ?_ _)); (case s2 => repeat (first | exact HR1.out | refine Kd.C_alloc ?_ _)); rintro e w' ⟨rfl, hb⟩; have BK0 := Aside0.mk (blk_below (g := w.heap.size) (o := .cells #[.slice A0 l0.length c0, .slice A1 l1.length c1] 63 (0, 0)) (blk_alloc (blk_alloc (blk_new _ _) _) _) hb); have BK1 := Aside0.mk (blk_below (g := w.heap.size + 1) (o := .cells #[.slice none 0 0, .slice none 0 0] 63 (0, 0)) (blk_alloc (blk2 _ _ _) _) hb); have hx00 := (blk_cell BK0.out 0).trans rfl; have hx01 := (blk_cell BK0.out 1).trans rfl; have hx10 := (blk_cell BK1.out 0).trans rfl; have hx11 := (blk_cell BK1.out 1).trans rfl; have hf10 := blk_frozen BK1.out 0; have hf11 := blk_frozen BK1.out 1; have HB := Aside0.mk (show Below w.heap.size w w' from below_step (below_alloc (below_alloc (below_alloc (Below.refl _ _) _) _) _) hb); clear hb))
    refine bodyPost_ret (results_ct rfl _ _ (w.heap.size + 1) 63 #[.slice A0 l0.length c0, .slice A1 l1.length c1] (0, 0) _ rfl (by refine blk_put (cs := #[.slice A0 l0.length c0, .slice none 0 0]) ?_ 1 _ rfl; refine blk_put (cs := #[.slice none 0 0, .slice none 0 0]) ?_ 0 _ rfl; exact BK1.out) Try.underlying63 rfl (by kernel_rfl)) rfl ?_
    have hb := below_setc (below_setc HB.out (Nat.le_succ _) 0 (.slice A0 l0.length c0)) (Nat.le_succ _) 1 (.slice A1 l1.length c1)
    exact ⟨A1, c1, by first | rfl | simp, HC1.out, Kd.F_mono (Kd.F_below HF1.out hb) (fun _ h => .inl h), hb⟩
  · rw [if_pos rfl]
    go_enter Try.func44, Try.ntmps44
    go_upto_region 4 with (first | (go_at_call 86; (with_reducible refine (disk_fits.calls A0 c0 l0 A1 c1 l1 x0 x1 true _ ?s1 HC0.out ?s2 HC1.out HF.out).mono ?_); (case s1 => repeat (first | exact HR0.out | refine Kd.C_alloc ?_ _)); (case s2 => repeat (first | exact HR1.out | refine Kd.C_alloc ?_ _)); rintro e w' ⟨rfl, hb⟩; have BK0 := Aside0.mk (blk_below (g := w.heap.size) (o := .cells #[.slice A0 l0.length c0, .slice A1 l1.length c1] 63 (0, 0)) (blk_alloc (blk_alloc (blk_new _ _) _) _) hb); have BK1 := Aside0.mk (blk_below (g := w.heap.size + 1) (o := .cells #[.slice none 0 0, .slice none 0 0] 63 (0, 0)) (blk_alloc (blk2 _ _ _) _) hb); have BK2 := Aside0.mk (blk_below (g := w.heap.size + 1 + 1) (o := .cells #[.int .i64 x0, .string x1] 79 (0, 0)) (blk3 _ _ _ _) hb); have HB := Aside0.mk (show Below w.heap.size w w' from below_step (below_alloc (below_alloc (below_alloc (Below.refl _ _) _) _) _) hb); clear hb))
    have hx00 := (blk_cell BK0.out 0).trans (show _ = some (Value.slice A0 l0.length c0) from rfl)
    have hx01 := (blk_cell BK0.out 1).trans (show _ = some (Value.slice A1 l1.length c1) from rfl)
    have hx10 := (blk_cell BK1.out 0).trans (show _ = some (Value.slice none 0 0) from rfl)
    have hx11 := (blk_cell BK1.out 1).trans (show _ = some (Value.slice none 0 0) from rfl)
    have hf10 := blk_frozen BK1.out 0
    have hf11 := blk_frozen BK1.out 1
    have hx20 := (blk_cell BK2.out 0).trans (show _ = some (Value.int .i64 x0) from rfl)
    have hx21 := (blk_cell BK2.out 1).trans (show _ = some (Value.string x1) from rfl)
    have hnz : A1 = none → l1.length = 0 := fun e => by
      rcases Nat.eq_zero_or_pos l1.length with h | h
      · exact h
      · obtain ⟨ad, e2, _⟩ := HR1.out.2.2 h
        rw [e] at e2; cases e2
    go_region_held3 (fun w' => w'.cell? ⟨w.heap.size, 0, none⟩ = some (.slice A0 l0.length c0) ∧ w'.cell? ⟨w.heap.size, 1, none⟩ = some (.slice A1 l1.length c1) ∧ w'.cell? ⟨w.heap.size + 1 + 1, 0, none⟩ = some (.int .i64 x0) ∧ w'.cell? ⟨w.heap.size + 1 + 1, 1, none⟩ = some (.string x1)) (first | exact ⟨hx00, hx01, hx20, hx21⟩ | exact ⟨(blk_cell (blk_alloc BK0.out _) 0).trans rfl, (blk_cell (blk_alloc BK0.out _) 1).trans rfl, (blk_cell (blk_alloc BK2.out _) 0).trans rfl, (blk_cell (blk_alloc BK2.out _) 1).trans rfl⟩ | exact ⟨(blk_cell BK0a.out 0).trans rfl, (blk_cell BK0a.out 1).trans rfl, (blk_cell BK2a.out 0).trans rfl, (blk_cell BK2a.out 1).trans rfl⟩ | exact ⟨(blk_cell (blk_far (blk_far BK0a.out (by show w.heap.size ≠ w.heap.size + 1; omega) _) (by show w.heap.size ≠ w.heap.size + 1; omega) _) 0).trans rfl, (blk_cell (blk_far (blk_far BK0a.out (by show w.heap.size ≠ w.heap.size + 1; omega) _) (by show w.heap.size ≠ w.heap.size + 1; omega) _) 1).trans rfl, (blk_cell (blk_far (blk_far BK2a.out (by show w.heap.size + 1 + 1 ≠ w.heap.size + 1; omega) _) (by show w.heap.size + 1 + 1 ≠ w.heap.size + 1; omega) _) 0).trans rfl, (blk_cell (blk_far (blk_far BK2a.out (by show w.heap.size + 1 + 1 ≠ w.heap.size + 1; omega) _) (by show w.heap.size + 1 + 1 ≠ w.heap.size + 1; omega) _) 1).trans rfl⟩) (first | (go_at_call 92; (with_reducible refine (clip_walk A1 l1.length c1 _ HC1.out (by have := HL.out; omega)).mono ?_); rintro e w' ⟨rfl, rfl⟩) | (refine append_full_step k79 k79_KM rfl (.tmp 21) (.tmp 23) 61 79 (.agg #[(.int .i64 0), (.string ⟨#[]⟩)]) 24 rfl Try.underlying61 info79 rfl (by decide) A1 l1.length l1 (some ⟨w'.heap.size, 0, none⟩) 1 1 [(⟨x0, x1⟩ : S79)] rfl rfl (by repeat (first | (with_reducible exact Kd.C_below HR1.out HB.out) | (with_reducible refine Kd.C_alloc ?_ _) | (with_reducible refine Kd.C_drew ?_))) (by repeat (first | (with_reducible exact C_new79 w' (⟨x0, x1⟩ : S79)) | (with_reducible refine Kd.C_drew ?_))) (by decide) (by have := HL.out; simp only [maxLen]; omega) (by have := HL.out; omega) hnz ?_; intro A' c' w2 hc' hC' hb'; have BK0a := Aside0.mk (blk_below (w := (w'.alloc (.cells #[.int .i64 x0, .string x1] 79)).drew) (blk_drew (blk_alloc BK0.out _)) hb'); have BK1a := Aside0.mk (blk_below (w := (w'.alloc (.cells #[.int .i64 x0, .string x1] 79)).drew) (blk_drew (blk_alloc BK1.out _)) hb'); have BK2a := Aside0.mk (blk_below (w := (w'.alloc (.cells #[.int .i64 x0, .string x1] 79)).drew) (blk_drew (blk_alloc BK2.out _)) hb'); have hx10a := (blk_cell BK1a.out 0).trans (show _ = some (Value.slice none 0 0) from rfl); have hx11a := (blk_cell BK1a.out 1).trans (show _ = some (Value.slice none 0 0) from rfl); have hf10a := blk_frozen BK1a.out 0; have hf11a := blk_frozen BK1a.out 1; have HBa := Aside0.mk (show Below w.heap.size w w2 from below_step (below_drew1 (below_alloc HB.out _)) hb'); have HCa := Aside0.mk hC'; have HLa := Aside0.mk hc'; have HSa := Aside0.mk (show w.heap.size + 1 < (w'.alloc (.cells #[.int .i64 x0, .string x1] 79)).drew.heap.size from blk_lt (blk_drew (blk_alloc BK1.out _))); clear hb' hC' hc'))
    all_goals
      go_wp2
      refine bodyPost_ret (results_ct rfl _ _ (w.heap.size + 1) 63 #[.slice A0 l0.length c0, .slice A' (l1.length + 1) c'] (0, 0) _ rfl (by refine blk_put (cs := #[.slice A0 l0.length c0, .slice none 0 0]) ?_ 1 _ rfl; refine blk_put (cs := #[.slice none 0 0, .slice none 0 0]) ?_ 0 _ rfl; exact BK1a.out) Try.underlying63 rfl (by kernel_rfl)) rfl ?_
      have hb := below_setc (below_setc HBa.out (Nat.le_succ _) 0 (.slice A0 l0.length c0)) (Nat.le_succ _) 1 (.slice A' (l1.length + 1) c')
      have hR := Kd.R_far (p := ⟨w.heap.size + 1, 1, none⟩) (Kd.R_far (p := ⟨w.heap.size + 1, 0, none⟩) HCa.out (fun k hk => by have := HSa.out; show k ≠ w.heap.size + 1; omega) (.slice A0 l0.length c0)) (fun k hk => by have := HSa.out; show k ≠ w.heap.size + 1; omega) (.slice A' (l1.length + 1) c')
      exact ⟨A', c', by first | rfl | simp, HLa.out, Kd.F_mono (Kd.R_F hR) (fun k hk => .inr (by have := HSa.out; omega)), hb⟩
def disk_Put.f (l0_0 : List ByteArray) (l0_1 : List (S79)) (a1 : Int) (a2 : ByteArray) : Option (List ByteArray × (List (S79)) × Int) :=
  if l0_1.length ≤ 1000000 then (if fitsB l0_0.length ⟨a1, a2⟩ = true then some (l0_0, l0_1 ++ [⟨a1, a2⟩], 0) else some (l0_0, l0_1, 1)) else none
theorem disk_Put.calls (P0_0_ : Nat → Prop) (A0_0 : Option Addr) (c0_0 : Nat) (l0_0 : List ByteArray) (P0_1_ : Nat → Prop) (A0_1 : Option Addr) (c0_1 : Nat) (l0_1 : List (S79)) (a1 : Int) (a2 : ByteArray) (r1 : List ByteArray) (r2 : List (S79)) (r3 : Int) (w : World) (hs0_0 : Kd.V Kd.string 9 w w.heap.size (fun k_ => P0_0_ k_) (.slice A0_0 l0_0.length c0_0) l0_0) (hs0_1 : Kd.V k79 79 w w.heap.size (fun k_ => P0_1_ k_) (.slice A0_1 l0_1.length c0_1) l0_1) (h : disk_Put.f l0_0 l0_1 a1 a2 = some (r1, r2, r3)) :
    Calls Try.prog 44 #[.agg #[.slice A0_0 l0_0.length c0_0, .slice A0_1 l0_1.length c0_1], .int .i64 a1, .string a2] w fun e w' => ∃ v0_ v1_ : Value, e = .returned (.tuple #[.agg #[v0_, v1_], .int .i64 r3]) ∧ Kd.V Kd.string 9 w' w.heap.size (fun k_ => ((P0_0_ k_ ∨ P0_1_ k_) ∨ w.heap.size ≤ k_)) v0_ r1 ∧ Kd.V k79 79 w' w.heap.size (fun k_ => ((P0_0_ k_ ∨ P0_1_ k_) ∨ w.heap.size ≤ k_)) v1_ r2 ∧ Below w.heap.size w w' := by
  have q0 := Kd.V_at hs0_0
  have q1 := Kd.V_at hs0_1
  have e : r1 = l0_0 ∧ r2 = (putF l0_0 l0_1 ⟨a1, a2⟩).1 ∧ r3 = (putF l0_0 l0_1 ⟨a1, a2⟩).2 ∧ l0_1.length ≤ 1000000 := by
    unfold disk_Put.f at h
    unfold putF
    by_cases hl : l0_1.length ≤ 1000000
    · rw [if_pos hl] at h
      by_cases hf : fitsB l0_0.length ⟨a1, a2⟩ = true
      · rw [if_pos hf] at h ⊢
        simp only [Option.some.injEq, Prod.mk.injEq] at h
        exact ⟨h.1.symm, h.2.1.symm, h.2.2.symm, hl⟩
      · rw [if_neg hf] at h ⊢
        simp only [Option.some.injEq, Prod.mk.injEq] at h
        exact ⟨h.1.symm, h.2.1.symm, h.2.2.symm, hl⟩
    · rw [if_neg hl] at h; cases h
  obtain ⟨rfl, rfl, rfl, hl⟩ := e
  refine (put_walk A0_0 c0_0 r1 A0_1 c0_1 l0_1 ⟨a1, a2⟩ w (Kd.F_now q0.2.2) q0.2.1 (Kd.F_now q1.2.2) q1.2.1 hl P0_1_ q1.2.2).mono ?_
  rintro e w' ⟨A, c, rfl, h1, h2, hb⟩
  exact ⟨_, _, rfl, Kd.V_mono (Kd.V_below hs0_0 hb) (fun _ h => .inl (.inl h)), Kd.V_mk h1 (Kd.F_mono h2 (fun _ h => h.elim (fun h => .inl (.inr h)) .inr)), hb⟩
end Go.Proofs.Ytgjjcgemelafaaa.P
