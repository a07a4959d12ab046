import Derived.Test.YtopkoganfnabgaaG8
import Derived.Test.YtopkoganfnabgaaG7
import Derived.Test.YtopkoganfnabgaaG5
namespace Go.Proofs.Ytopkoganfnabgaa.H
theorem Gd.row {rows : List (List It)} (g : Gd rows.flatten) {r : List It} (hr : r ∈ rows) (hne : r ≠ []) : Gd r :=
  ⟨hne, g.up.sublist (List.sublist_flatten_of_mem hr), fun x hx => g.fit x (List.mem_flatten.mpr ⟨r, hr, hx⟩)⟩
theorem ky_trees {h : Hp} {d : Nat} {it : List It} {ls : List (List It)} (f : F2 (fun x li => x.k = ky li ∧ T h d x.v li) it ls) (hne : it ≠ []) : ky it = ky ls.flatten := by
  cases f with
  | nil => exact absurd rfl hne
  | cons r _ => rw [List.flatten_cons, ky_append r.2.gd.ne]; exact r.1
theorem fits_inB {h : Hp} {B : Int} (o : Ok h B) {p : Int} (e : inB h p = true) : fitsB p = true := by
  have := inB_iff.mp e; have := o.l2; exact fitsB_iff.mpr ⟨by omega, by omega⟩
/-- What a part of a put comes to. -/
structure Made (h g : Hp) (made : List It) (ls : List (List It)) (d : Nat) (B : Int) : Prop where
  ok : Ok g B
  ext : Ext h g
  tr : F2 (fun y li => y.k = ky li ∧ T g d y.v li) made ls
  new : ∀ y ∈ made, usedB h y.v = false
  hts : ∀ q, usedB g q = true → usedB h q = true ∨ ∃ d' l', d' ≤ d ∧ T g d' q l'
/-- Rows of leaves are laid. -/
theorem lay_leaf {h : Hp} {B : Int} (o : Ok h B) (hB1 : 1 ≤ B) (hB : B + 8 ≤ 1000000000000000) {rows : List (List It)} (hr : ∀ r ∈ rows, r ≠ [] ∧ r.length ≤ 4) (g : Gd rows.flatten) (h2 : rows.length ≤ 2) (hf : rows.length ≤ freeN h) :
    ∃ h' made, layO h true [] rows = some (h', made) ∧ Made h h' made rows 1 (B + 8) ∧ made.length = rows.length ∧ freeN h' + rows.length = freeN h ∧ (∀ R : Int → Int, Ct h R → Ct h' (fun q => R q + (cntV made q : Int))) := by
  obtain ⟨h', made, e, o2, x2, f2, fr, bk, ct⟩ := lay_spec true [] rows h B o hB1 (by omega) (fun r hr' => ⟨nodeRight_iff.mpr ⟨(hr r hr').2, g.row hr' (hr r hr').1⟩, leadsB_iff.mpr (fun h => by cases h)⟩) hf
  have ht : F2 (fun y li => y.k = ky li ∧ T h' 1 y.v li) made rows := f2.imp fun a b _ hb r => ⟨r.1, r.2.2.1, g.row hb (hr b hb).1, .inl ⟨by rw [r.2.1], rfl, by rw [r.2.1]⟩⟩
  refine ⟨h', made, e, ⟨o2.wide (by omega), x2, ht, fun y hy => ?_, fun q hq => ?_⟩, f2.len, fr, fun R hR => ct R _ hR fun q hq => ?_⟩
  · obtain ⟨b, _, r⟩ := f2.mem_l hy; exact r.2.2.2
  · rcases bk q hq with hu | ⟨y, hy, rfl⟩
    · exact .inl hu
    · obtain ⟨b, _, r⟩ := ht.mem_l hy; exact .inr ⟨1, b, Nat.le_refl _, r.2⟩
  · have : hpN ⟨true, rows.flatten⟩ [] q = 0 := rfl
    rw [this]; simp
/-- Rows of trees are laid. -/
theorem lay_inner {h : Hp} {B : Int} {d : Nat} (o : Ok h B) (hB1 : 1 ≤ B) (hB : B + 8 ≤ 1000000000000000) (held : List Int) {rows : List (List It)} {ls : List (List It)} (hr : ∀ r ∈ rows, r ≠ [] ∧ r.length ≤ 4) (h1 : 1 ≤ rows.length) (h2 : rows.length ≤ 2) (hf : rows.length ≤ freeN h) (f : F2 (fun x li => x.k = ky li ∧ T h d x.v li) rows.flatten ls) (up : ls.flatten.Pairwise fun a b => a.k < b.k) :
    ∃ h' made ls', layO h false held rows = some (h', made) ∧ Made h h' made ls' (d + 1) (B + 8) ∧ ls'.flatten = ls.flatten ∧ made.length = rows.length ∧ freeN h' + rows.length = freeN h ∧ (∀ R R' : Int → Int, Ct h R → (∀ q, inB h q = true → R' q + (hpN ⟨false, rows.flatten⟩ held q : Int) = R q + (cntV made q : Int)) → Ct h' R') := by
  have hne : rows.flatten ≠ [] := by
    cases rows with
    | nil => simp at h1
    | cons r rows => rw [List.flatten_cons]; intro e; exact (hr r List.mem_cons_self).1 (List.append_eq_nil_iff.mp e).1
  have hu : ∀ x ∈ rows.flatten, usedB h x.v = true := fun x hx => by obtain ⟨b, _, _, t⟩ := f.mem_l hx; exact t.used
  obtain ⟨g1, g2⟩ := Gd.of_trees f hne up (fun x hx => fits_inB o (used_iff.mp (hu x hx)).1)
  obtain ⟨h', made, e, o2, x2, f2, fr, bk, ct⟩ := lay_spec false held rows h B o hB1 (by omega) (fun r hr' => ⟨nodeRight_iff.mpr ⟨(hr r hr').2, g1.row hr' (hr r hr').1⟩, leadsB_iff.mpr (fun _ x hx => hu x (List.mem_flatten.mpr ⟨r, hr', hx⟩))⟩) hf
  obtain ⟨ms, rfl, fm⟩ := F2.rows rows f
  have fm' : F2 (fun r (li : List It) => ky r = ky li ∧ Gd li ∧ ∃ ls, li = ls.flatten ∧ F2 (fun x li => x.k = ky li ∧ T h' d x.v li) r ls) rows (ms.map List.flatten) := by
    refine fm.map_r fun a b ha hb r => ⟨ky_trees r (hr a ha).1, ?_, b, rfl, r.imp fun x y _ _ t => ⟨t.1, t.2.ext x2⟩⟩
    refine (Gd.of_trees r (hr a ha).1 (up.sublist ?_) (fun x hx => (g1.row ha (hr a ha).1).fit x hx |>.2)).2
    rw [← flatten_map_flatten]
    exact List.sublist_flatten_of_mem (List.mem_map.mpr ⟨b, hb, rfl⟩)
  have ht : F2 (fun y li => y.k = ky li ∧ T h' (d + 1) y.v li) made (ms.map List.flatten) := by
    refine f2.comp (fun y r li _ _ a b => ?_) fm'
    obtain ⟨b1, b2, b3⟩ := b
    refine ⟨a.1.trans b1, a.2.2.1, b2, .inr ?_⟩
    rw [a.2.1]
    exact ⟨rfl, b3⟩
  refine ⟨h', made, ms.map List.flatten, e, ⟨o2.wide (by omega), x2, ht, fun y hy => ?_, fun q hq => ?_⟩, flatten_map_flatten ms, f2.len, fr, ct⟩
  · obtain ⟨b, _, r⟩ := f2.mem_l hy; exact r.2.2.2
  · rcases bk q hq with hu | ⟨y, hy, rfl⟩
    · exact .inl hu
    · obtain ⟨b, _, r⟩ := ht.mem_l hy; exact .inr ⟨d + 1, b, Nat.le_refl _, r.2⟩
theorem itAt_split {l : List It} {i : Nat} (h : i < l.length) : l = l.take i ++ itAt l i :: l.drop (i + 1) := by
  rw [itAt_get h, ← List.drop_eq_getElem_cons h, List.take_append_drop]
theorem new_cnt {h : Hp} {made it : List It} (hn : ∀ y ∈ made, usedB h y.v = false) (hu : ∀ x ∈ it, usedB h x.v = true) {q : Int} (hq : inL (vL made) q = true) : cntV it q = 0 := by
  rw [cntV_zero]
  intro x hx e
  rw [inL_iff] at hq
  unfold vL at hq
  obtain ⟨y, hy, rfl⟩ := List.mem_map.mp hq
  have := hu x hx
  rw [e, hn y hy] at this; cases this
theorem anewO_leaf {f : Nat} {h : Hp} {p : Int} {x : It} {i : Nat} {is : Bool} {l : List It} {rows : List (List It)} {r : Hp × List It} (e0 : inB h p = true) (hl : (clAt h p).n.leaf = true) (e1 : atO true (clAt h p).n.it x.k = some (i, is)) (e2 : withO (clAt h p).n.it i (if is = true then 1 else 0) [x] = some l) (e3 : splitO l = some rows) (e4 : layO h true [] rows = some r) : anewO (f + 1) h p x = some r := by
  unfold anewO
  simp only [if_pos e0, hl, e1, e2, e3, e4, Option.bind_eq_bind, Option.bind_some, if_true]
theorem anewO_node {f : Nat} {h g : Hp} {p : Int} {x : It} {i : Nat} {is : Bool} {l more : List It} {rows : List (List It)} {r : Hp × List It} (e0 : inB h p = true) (hl : (clAt h p).n.leaf = false) (e1 : atO false (clAt h p).n.it x.k = some (i, is)) (hi : i < (clAt h p).n.it.length) (ea : anewO f h (itAt (clAt h p).n.it i).v x = some (g, more)) (e2 : withO (clAt h p).n.it i 1 more = some l) (e3 : splitO l = some rows) (e4 : layO g false (vL more) rows = some r) : anewO (f + 1) h p x = some r := by
  unfold anewO
  simp only [if_pos e0, hl, e1, ea, e2, e3, e4, Option.bind_eq_bind, Option.bind_some, if_pos hi, Bool.false_eq_true, if_false]
/-- A node made anew. -/
theorem anew_spec : ∀ (d f : Nat) (h : Hp) (p : Int) (l : List It) (x : It) (B : Int), d ≤ f → Ok h B → 1 ≤ B → B + 8 * d ≤ 1000000000000000 → T h d p l → fitsB x.k = true ∧ fitsB x.v = true → 2 * d ≤ freeN h →
    ∃ g made ls, anewO f h p x = some (g, made) ∧ Made h g made ls d (B + 8 * d) ∧ ls.flatten = ins l x ∧ 1 ≤ made.length ∧ made.length ≤ 2 ∧ freeN h ≤ freeN g + 2 * d ∧ freeN g + d ≤ freeN h ∧ (∀ R : Int → Int, Ct h R → Ct g (fun q => R q + (cntV made q : Int)))
  | 0, _, _, _, _, _, _, _, _, _, _, t, _, _ => t.elim
  | d + 1, 0, _, _, _, _, _, hd, _, _, _, _, _, _ => by omega
  | d + 1, f + 1, h, p, l, x, B, hd, o, hB1, hB, t, hx, hf => by
    have u := t.used
    obtain ⟨n4, ng⟩ := nodeRight_iff.mp (o.right p u)
    cases hl : (clAt h p).n.leaf with
    | true =>
      obtain ⟨h1, rfl⟩ := t.leaf hl
      obtain rfl : d = 0 := by omega
      obtain ⟨i, is, e1, e2, e3⟩ := at_leaf (x := x) ng n4
      have hlen := ins_len (clAt h p).n.it x
      have hgi := ins_gd ng.up ng.fit hx
      obtain ⟨rows, r1, r2, r3, r4, r5⟩ := split_spec (l := ins (clAt h p).n.it x) (List.length_pos_iff.mpr hgi.ne) (by omega)
      obtain ⟨g, made, l1, l2, l3, l4, l5⟩ := lay_leaf o hB1 (by omega) r3 (by rw [r2]; exact hgi) r5 (by omega)
      refine ⟨g, made, rows, anewO_leaf (used_iff.mp u).1 hl e1 (by unfold withO; rw [if_pos ⟨e2, by omega, by simp⟩, e3]) r1 l1, ⟨l2.ok.wide (by omega), l2.ext, l2.tr, l2.new, l2.hts⟩, r2, by omega, by omega, by omega, by omega, l5⟩
    | false =>
      obtain ⟨d', ed, ls, rfl, ff⟩ := t.inner hl
      obtain rfl : d = d' := by omega
      obtain ⟨i, is, e1, e2, e3, e4⟩ := at_inner (key := x.k) ng n4
      have hsp := itAt_split e2
      have hnode := fun (g : Hp) (more l : List It) (rows : List (List It)) (r : Hp × List It) => anewO_node (f := f) (g := g) (more := more) (l := l) (rows := rows) (r := r) (used_iff.mp u).1 hl e1 e2
      generalize (clAt h p).n.it = it at n4 ng e1 e2 e3 e4 ff hsp hnode
      have hu : ∀ y ∈ it, usedB h y.v = true := fun y hy => by obtain ⟨b, _, _, t⟩ := ff.mem_l hy; exact t.used
      have ff2 := ff
      rw [hsp] at ff2
      obtain ⟨la, lb', rfl, fa, fb⟩ := F2.split (m := ls) _ _ ff2
      cases fb with
      | cons rm fb =>
      rename_i lm lb
      obtain ⟨k1, tm⟩ := rm
      obtain ⟨g1, more, lsm, a1, a2, a3, a4, a5, a6, a7, a8⟩ := anew_spec d f h (itAt it i).v lm x B (by omega) o hB1 (by omega) tm hx (by omega)
      have tg := t.gd.up
      rw [List.flatten_append, List.flatten_cons, ← List.append_assoc] at tg
      rw [List.pairwise_append, List.pairwise_append] at tg
      obtain ⟨⟨tg1, tg2, tg3⟩, tg4, tg5⟩ := tg
      have hla : ∀ y ∈ la.flatten, y.k < x.k := by
        intro y hy
        obtain ⟨z, hz, ez⟩ := ky_mem tm.gd.ne
        have h1 := tg3 y hy z hz
        have h0 : 0 < i := by
          rcases Nat.eq_zero_or_pos i with h0 | h0
          · rw [h0] at fa; cases fa; cases hy
          · exact h0
        have := e4 h0
        omega
      have hlb : ∀ y ∈ lb.flatten, x.k < y.k := by
        intro y hy
        obtain ⟨li, hli, hyl⟩ := List.mem_flatten.mp hy
        obtain ⟨a, ha, ka, ta⟩ := fb.mem_r hli
        have h1 := e3 a ha
        have h2 := ky_le ta.gd.up hyl
        omega
      have hins : (la ++ lsm ++ lb).flatten = ins (la ++ lm :: lb).flatten x := by
        rw [List.flatten_append, List.flatten_append, a3, List.flatten_append, List.flatten_cons, ← List.append_assoc, ins_mid hla hlb]
      have fnew : F2 (fun x li => x.k = ky li ∧ T g1 d x.v li) (it.take i ++ more ++ it.drop (i + 1)) (la ++ lsm ++ lb) := ((fa.imp fun a b _ _ r => ⟨r.1, r.2.ext a2.ext⟩).append a2.tr).append (fb.imp fun a b _ _ r => ⟨r.1, r.2.ext a2.ext⟩)
      have hgi := ins_gd t.gd.up t.gd.fit hx
      have hlen : (it.take i ++ more ++ it.drop (i + 1)).length = it.length - 1 + more.length := by simp only [List.length_append, List.length_take, List.length_drop]; omega
      obtain ⟨rows, r1, r2, r3, r4, r5⟩ := split_spec (l := it.take i ++ more ++ it.drop (i + 1)) (by omega) (by omega)
      obtain ⟨g, made, ls', l1, l2, l3, l4, l5, l6⟩ := lay_inner a2.ok (by omega) (by omega) (vL more) r3 r4 r5 (by omega) (by rw [r2]; exact fnew) (by rw [hins]; exact hgi.up)
      refine ⟨g, made, ls', hnode g1 more _ rows (g, made) a1 (by unfold withO; rw [if_pos ⟨by omega, by omega, by omega⟩]) r1 l1, ⟨l2.ok.wide (by omega), a2.ext.trans l2.ext, l2.tr, fun y hy => ?_, fun q hq => ?_⟩, l3.trans hins, by omega, by omega, by omega, by omega, fun R hR => l6 _ _ (a8 R hR) fun q hq => ?_⟩
      · have := l2.new y hy
        cases hu : usedB h y.v with
        | false => rfl
        | true => rw [(a2.ext.use _ hu).1] at this; cases this
      · rcases l2.hts q hq with hu | hu
        · rcases a2.hts q hu with hu | ⟨d', l', h1, h2⟩
          · exact .inl hu
          · exact .inr ⟨d', l', by omega, h2.ext l2.ext⟩
        · exact .inr hu
      · rw [r2]
        have : hpN ⟨false, it.take i ++ more ++ it.drop (i + 1)⟩ (vL more) q = cntV more q := by
          unfold hpN
          rw [if_neg (by simp)]
          split
          · rename_i hq2
            show cntV (it.take i ++ more ++ it.drop (i + 1)) q = _
            rw [cntV_append, cntV_append, new_cnt a2.new (fun x hx => hu x (List.mem_of_mem_take hx)) hq2, new_cnt a2.new (fun x hx => hu x (List.mem_of_mem_drop hx)) hq2]
            omega
          · rename_i hq2
            exact (inL_vL.mp (by simpa using hq2)).symm
        rw [this]
        omega
end Go.Proofs.Ytopkoganfnabgaa.H
namespace Go.Proofs.Ytopkoganfnabgaa.H
/-- What becomes of a heap when Refs go. -/
structure Le (g g' : Hp) : Prop where
  len : g'.c.length = g.c.length
  keep : g'.keep = g.keep
  use : ∀ q, usedB g' q = true → usedB g q = true ∧ (clAt g' q).n = (clAt g q).n
  free : ∀ q, inB g q = true → freeB (clAt g' q) = freeB (clAt g q)
theorem Le.refl (h : Hp) : Le h h := ⟨rfl, rfl, fun _ e => ⟨e, rfl⟩, fun _ _ => rfl⟩
theorem Le.trans {a b c : Hp} (x : Le a b) (y : Le b c) : Le a c := ⟨y.len.trans x.len, y.keep.trans x.keep, fun q e => ⟨(x.use q (y.use q e).1).1, (y.use q e).2.trans (x.use q (y.use q e).1).2⟩, fun q hq => (y.free q (by rw [inB_len x.len]; exact hq)).trans (x.free q hq)⟩
/-- So many nodes down there are cells, used ones or not. -/
def Wk (h : Hp) : Nat → Int → Prop
  | 0, _ => False
  | d + 1, p => inB h p = true ∧ (usedB h p = false ∨ (clAt h p).n.leaf = true ∨ ∀ x ∈ (clAt h p).n.it, Wk h d x.v)
theorem Wk.le {g g' : Hp} (x : Le g g') : ∀ {d : Nat} {p : Int}, Wk g d p → Wk g' d p
  | 0, _, t => t.elim
  | d + 1, p, ⟨a, b⟩ => by
    refine ⟨by rw [inB_len x.len]; exact a, ?_⟩
    cases hu : usedB g' p with
    | false => exact .inl rfl
    | true =>
      obtain ⟨u, e⟩ := x.use p hu
      rw [e]
      rcases b with b | b | b
      · rw [u] at b; cases b
      · exact .inr (.inl b)
      · exact .inr (.inr fun y hy => Wk.le x (b y hy))
theorem T.wk {h : Hp} : ∀ {d : Nat} {p : Int} {l : List It}, T h d p l → Wk h d p
  | 0, _, _, t => t.elim
  | d + 1, p, l, t => by
    refine ⟨(used_iff.mp t.used).1, .inr ?_⟩
    cases hl : (clAt h p).n.leaf with
    | true => exact .inl rfl
    | false =>
      obtain ⟨e, ed, ls, rfl, f⟩ := t.inner hl
      obtain rfl : d = e := by omega
      exact .inr fun y hy => by obtain ⟨li, _, _, t⟩ := f.mem_l hy; exact T.wk t
/-- A cell that is let go, or has a Ref less. -/
theorem set_ok {g : Hp} {B : Int} {p : Int} {c : Cl} (o : Ok g B) (hu : usedB g p = true) (hc : (c.ref = 0 ∧ c.n = zNd ∧ c.pin = true) ∨ (0 < c.ref ∧ c.ref ≤ (clAt g p).ref ∧ c.pin = false ∧ c.n = (clAt g p).n)) : Ok (setH g p c) B ∧ Le g (setH g p c) := by
  obtain ⟨hp, hr⟩ := used_iff.mp hu
  have hat : ∀ q, inB g q = true → clAt (setH g p c) q = if q = p then c else clAt g q := fun q hq => clAt_setH hp hq
  have huse : ∀ q, usedB (setH g p c) q = true → usedB g q = true ∧ (clAt (setH g p c) q).n = (clAt g q).n := by
    intro q hq
    rw [used_iff, inB_setH] at hq
    rw [hat q hq.1] at hq ⊢
    by_cases e : q = p
    · subst e
      rw [if_pos rfl] at hq ⊢
      refine ⟨hu, ?_⟩
      rcases hc with hc | hc
      · omega
      · exact hc.2.2.2
    · rw [if_neg e] at hq ⊢
      exact ⟨used_iff.mpr hq, rfl⟩
  refine ⟨⟨by rw [len_setH]; exact o.l1, by rw [len_setH]; exact o.l2, o.k1, by rw [len_setH]; exact o.k2, fun q hq => ?_, fun q hq => ?_, fun q hq h0 => ?_, fun q hq => ?_, fun q hq => ?_, fun q hq hl x hx => ?_⟩, ⟨len_setH, rfl, huse, fun q hq => ?_⟩⟩
  · rw [inB_setH] at hq
    rw [hat q hq]
    split
    · rcases hc with hc | hc <;> omega
    · exact o.pos q hq
  · rw [inB_setH] at hq
    rw [hat q hq]
    have := o.le p hp
    split
    · rcases hc with hc | hc <;> omega
    · exact o.le q hq
  · rw [inB_setH] at hq
    rw [hat q hq] at h0 ⊢
    split at h0
    · rename_i e
      rw [if_pos e]
      rcases hc with hc | hc
      · exact hc.2.1
      · omega
    · rename_i e
      rw [if_neg e]
      exact o.zero q hq h0
  · have hb := used_iff.mp hq
    rw [inB_setH] at hb
    rw [hat q hb.1] at hb ⊢
    split
    · rename_i e
      rw [if_pos e] at hb
      rcases hc with hc | hc
      · omega
      · exact hc.2.2.1
    · rename_i e
      rw [if_neg e] at hb
      exact o.pin q (used_iff.mpr hb)
  · rw [(huse q hq).2]; exact o.right q (huse q hq).1
  · rw [(huse q hq).2] at hl hx
    rw [inB_setH]
    exact o.plc q (huse q hq).1 hl x hx
  · rw [hat q hq]
    split
    · rename_i e
      subst e
      have h1 : freeB (clAt g q) = false := by rw [← Bool.not_eq_true, freeB_iff]; omega
      rw [h1, ← Bool.not_eq_true, freeB_iff]
      rcases hc with hc | hc
      · rw [hc.2.2]; simp
      · omega
    · rfl
theorem tot_set {g : Hp} {B : Int} {p : Int} {c : Cl} (o : Ok g B) (o' : Ok (setH g p c) B) (hp : inB g p = true) (q : Int) : tot (setH g p c) q + tl (clAt g p).n q = tot g q + tl c.n q := by
  obtain ⟨k, rfl, hk⟩ := inB_nat' hp
  rw [tot_tl o', tot_tl o, len_setH]
  have := sumN_point (f := fun i : Nat => tl (clAt (setH g (k : Int) c) (i : Int)).n q) (g := fun i : Nat => tl (clAt g (i : Int)).n q) hk (fun i hi hne => by show tl _ q = tl _ q; rw [clAt_setH hp (inB_iff.mpr (by omega)), if_neg (by omega)])
  simp only [clAt_setH hp hp, if_pos] at this
  exact this
theorem loose_spec : ∀ (f d : Nat) (g : Hp) (p : Int) (B : Int), d ≤ f → Ok g B → B ≤ 1000000000000 → Wk g d p →
    ∃ g', looseO f g p = some g' ∧ Ok g' B ∧ Le g g' ∧ (∀ R : Int → Int, Ct g R → (∀ q, 0 ≤ R q) → 1 ≤ R p → Ct g' (fun q => R q - if q = p then 1 else 0))
  | _, 0, _, _, _, _, _, _, w => w.elim
  | 0, d + 1, _, _, _, hd, _, _, _ => by omega
  | f + 1, d + 1, g, p, B, hd, o, hB, ⟨w1, w2⟩ => by
    unfold looseO
    have h0 := o.pos p w1
    have h1 := o.le p w1
    by_cases hz : (clAt g p).ref = 0
    · rw [if_pos ⟨w1, h0, by omega, .inl hz⟩, if_pos hz]
      refine ⟨g, rfl, o, Le.refl g, fun R hR hR0 hRp => ?_⟩
      have := hR p w1
      omega
    · have hu : usedB g p = true := used_iff.mpr ⟨w1, by omega⟩
      rw [if_pos ⟨w1, h0, by omega, .inr (o.pin p hu)⟩, if_neg hz]
      by_cases h2 : 1 < (clAt g p).ref
      · rw [if_pos h2]
        obtain ⟨o', l'⟩ := set_ok (c := ⟨(clAt g p).ref - 1, false, (clAt g p).n⟩) o hu (.inr ⟨by show 0 < (clAt g p).ref - 1; omega, by show (clAt g p).ref - 1 ≤ _; omega, rfl, rfl⟩)
        refine ⟨_, rfl, o', l', fun R hR hR0 hRp q hq => ?_⟩
        rw [inB_setH] at hq
        have h3 := hR q hq
        have h4 := tot_set o o' w1 q
        rw [clAt_setH w1 hq]
        have h4' : tot (setH g p ⟨(clAt g p).ref - 1, false, (clAt g p).n⟩) q = tot g q := by have : tl (Cl.n ⟨(clAt g p).ref - 1, false, (clAt g p).n⟩) q = tl (clAt g p).n q := rfl; omega
        rw [h4']
        (try dsimp only)
        by_cases e : q = p
        · subst e; rw [if_pos rfl, if_pos rfl]; show (clAt g q).ref - 1 = _; omega
        · rw [if_neg e, if_neg e]; omega
      · rw [if_neg h2]
        obtain ⟨o', l'⟩ := set_ok (c := ⟨0, true, zNd⟩) o hu (.inl ⟨rfl, rfl, rfl⟩)
        have hct : ∀ R : Int → Int, Ct g R → (∀ q, 0 ≤ R q) → 1 ≤ R p → Ct (setH g p ⟨0, true, zNd⟩) (fun q => R q - (if q = p then 1 else 0) + (tl (clAt g p).n q : Int)) := by
          intro R hR hR0 hRp q hq
          rw [inB_setH] at hq
          have h3 := hR q hq
          have h4 := tot_set o o' w1 q
          have hz0 : tl (Cl.n ⟨0, true, zNd⟩) q = 0 := rfl
          rw [clAt_setH w1 hq]
          (try dsimp only)
          by_cases e : q = p
          · subst e; rw [if_pos rfl, if_pos rfl]; show (0 : Int) = _; omega
          · rw [if_neg e, if_neg e]; omega
        cases hl : (clAt g p).n.leaf with
        | true =>
          rw [if_pos rfl]
          refine ⟨_, rfl, o', l', fun R hR hR0 hRp q hq => ?_⟩
          have := hct R hR hR0 hRp q hq
          have h5 : tl (clAt g p).n q = 0 := by unfold tl; rw [hl, if_pos rfl]
          (try dsimp only at this); (try dsimp only)
          rw [h5] at this
          omega
        | false =>
          rw [if_neg (by simp)]
          have hw : ∀ x ∈ (clAt g p).n.it, Wk (setH g p ⟨0, true, zNd⟩) d x.v := by
            rcases w2 with w2 | w2 | w2
            · rw [hu] at w2; cases w2
            · rw [hl] at w2; cases w2
            · exact fun x hx => (w2 x hx).le l'
          have key : ∀ (it : List It) (g1 : Hp), Ok g1 B → (∀ x ∈ it, Wk g1 d x.v) → ∃ g', it.foldlM (fun h x => looseO f h x.v) g1 = some g' ∧ Ok g' B ∧ Le g1 g' ∧ (∀ R : Int → Int, Ct g1 R → (∀ q, 0 ≤ R q) → (∀ q, (cntV it q : Int) ≤ R q) → Ct g' (fun q => R q - (cntV it q : Int))) := by
            intro it
            induction it with
            | nil => intro g1 o1 _; exact ⟨g1, rfl, o1, Le.refl g1, fun R hR _ _ q hq => by have := hR q hq; dsimp only; rw [cntV_nil]; omega⟩
            | cons x it ih =>
              intro g1 o1 hw1
              obtain ⟨g2, e2, o2, l2, c2⟩ := loose_spec f d g1 x.v B (by omega) o1 hB (hw1 x List.mem_cons_self)
              obtain ⟨g3, e3, o3, l3, c3⟩ := ih g2 o2 (fun y hy => (hw1 y (List.mem_cons_of_mem _ hy)).le l2)
              refine ⟨g3, ?_, o3, l2.trans l3, fun R hR hR0 hRx q hq => ?_⟩
              · rw [List.foldlM_cons, e2]; exact e3
              · have hx1 := hRx x.v
                rw [cntV_cons, if_pos rfl] at hx1
                have := c3 _ (c2 R hR hR0 (by omega)) (fun q => by
                  have := hR0 q
                  (try dsimp only)
                  by_cases e : q = x.v
                  · rw [if_pos e, e]; omega
                  · rw [if_neg e]; omega) (fun q => by
                  have := hRx q
                  rw [cntV_cons] at this
                  (try dsimp only)
                  by_cases e : q = x.v
                  · rw [if_pos e.symm] at this; rw [if_pos e]; omega
                  · rw [if_neg (fun h => e h.symm)] at this; rw [if_neg e]; omega) q hq
                (try dsimp only at this); (try dsimp only)
                rw [cntV_cons]
                by_cases e : q = x.v
                · rw [if_pos e] at this; rw [if_pos e.symm]; omega
                · rw [if_neg e] at this; rw [if_neg (fun h => e h.symm)]; omega
          obtain ⟨g', e1, o1, l1, c1⟩ := key _ _ o' hw
          refine ⟨g', e1, o1, l'.trans l1, fun R hR hR0 hRp q hq => ?_⟩
          have htl : ∀ q, tl (clAt g p).n q = cntV (clAt g p).n.it q := fun q => by unfold tl; rw [hl, if_neg (by simp)]
          have hge : ∀ q, 0 ≤ R q - (if q = p then 1 else 0) := fun q => by
            have := hR0 q
            by_cases e : q = p
            · rw [if_pos e, e]; omega
            · rw [if_neg e]; omega
          have := c1 _ (hct R hR hR0 hRp) (fun q => by have := hge q; (try dsimp only); omega) (fun q => by have := hge q; (try dsimp only); rw [htl]; omega) q hq
          (try dsimp only at this); (try dsimp only)
          rw [htl] at this
          omega
end Go.Proofs.Ytopkoganfnabgaa.H
namespace Go.Proofs.Ytopkoganfnabgaa.H
def Hts (h : Hp) : Prop := ∀ q, usedB h q = true → ∃ d l, d ≤ 20 ∧ T h d q l
/-- A root's tree, or none. -/
def Rt (h : Hp) (root : Int) (d : Nat) (l : List It) : Prop := (root = -1 ∧ d = 0 ∧ l = []) ∨ (d ≤ 20 ∧ T h d root l)
def one (p q : Int) : Int := if q = p then 1 else 0
theorem one_nonneg (p q : Int) : 0 ≤ one p q := by unfold one; split <;> omega
theorem one_self (p : Int) : one p p = 1 := by unfold one; rw [if_pos rfl]
theorem cntI_one (p q : Int) : ((cntI [p] q : Nat) : Int) = one p q := by
  unfold cntI one
  rw [List.filter_cons]
  by_cases e : p = q
  · rw [if_pos (decide_eq_true e), if_pos e.symm]; rfl
  · rw [if_neg (by simpa using e), if_neg (fun h => e h.symm)]; rfl
theorem Ct.congr {h : Hp} {R S : Int → Int} (c : Ct h R) (e : ∀ q, inB h q = true → R q = S q) : Ct h S := fun q hq => by rw [c q hq, e q hq]
/-- What a tree's node tells is a tree, lower by one. -/
theorem T.child {h : Hp} {d : Nat} {p q : Int} {l : List It} (t : T h d p l) (e : 0 < tl (clAt h p).n q) : ∃ d' l', d = d' + 1 ∧ T h d' q l' := by
  unfold tl at e
  split at e
  · omega
  · rename_i hl
    obtain ⟨d', ed, ls, rfl, f⟩ := t.inner (by simpa using hl)
    have : ¬ cntV (clAt h p).n.it q = 0 := by omega
    rw [cntV_zero] at this
    have : ∃ x ∈ (clAt h p).n.it, x.v = q := Classical.byContradiction fun hn => this fun x hx hxq => hn ⟨x, hx, hxq⟩
    obtain ⟨x, hx, rfl⟩ := this
    obtain ⟨li, _, _, t'⟩ := f.mem_l hx
    exact ⟨d', li, ed, t'⟩
theorem tells_tot {h : Hp} {B : Int} (o : Ok h B) {p : Int} (hp : inB h p = true) (q : Int) : tl (clAt h p).n q ≤ tot h q := by
  obtain ⟨k, rfl, hk⟩ := inB_nat' hp
  rw [tot_tl o]
  exact sumN_pos (f := fun i : Nat => tl (clAt h (i : Int)).n q) hk
/-- A tree lives where what is used still is as it was, and everything adds up. -/
theorem T.keep {g g' : Hp} {B : Int} {R : Int → Int} (o : Ok g' B) (c : Ct g' R) (R0 : ∀ q, 0 ≤ R q) (x : Le g g') : ∀ {d : Nat} {p : Int} {l : List It}, T g d p l → usedB g' p = true → T g' d p l
  | 0, _, _, t, _ => t.elim
  | d + 1, p, l, ⟨u, g1, e⟩, u' => by
    have en := (x.use p u').2
    have hp := (used_iff.mp u').1
    refine ⟨u', g1, ?_⟩
    rw [en]
    rcases e with e | ⟨e1, ls, e2, e3⟩
    · exact .inl e
    · refine .inr ⟨e1, ls, e2, e3.imp fun a b ha _ r => ⟨r.1, T.keep o c R0 x r.2 ?_⟩⟩
      have hin : inB g' a.v = true := by rw [inB_len x.len]; exact (used_iff.mp r.2.used).1
      have h1 := tells_tot o hp a.v
      have h2 : 0 < tl (clAt g' p).n a.v := by
        rw [en]
        unfold tl
        rw [e1, if_neg (by simp)]
        exact Nat.pos_of_ne_zero fun hz => cntV_zero.mp hz a ha rfl
      have h3 := c a.v hin
      have := R0 a.v
      exact used_iff.mpr ⟨hin, by omega⟩
theorem sound_in {h : Hp} {B : Int} {root : Int} {d : Nat} {l : List It} (o : Ok h B) (s : soundB h [root] = true) (t : Rt h root d l) : Ct h (one root) ∧ Hts h := by
  unfold soundB at s
  rw [List.all_eq_true] at s
  have hs : ∀ q : Nat, q < h.c.length → (clAt h (q : Int)).ref = one root (q : Int) + (tot h (q : Int) : Int) ∧ (heldB h [root] 25 q = true ↔ 0 < (clAt h (q : Int)).ref) := by
    intro q hq
    have := s q (List.mem_range.mpr hq)
    unfold soundAt at this
    simp only [Bool.and_eq_true, decide_eq_true_eq, beq_iff_eq, ← clAt_nat'] at this
    refine ⟨?_, by rw [this.2]; simp⟩
    rw [this.1]
    unfold refsN tot
    rw [Int.natCast_add, cntI_one]
  refine ⟨fun q hq => ?_, fun q hu => ?_⟩
  · obtain ⟨k, rfl, hk⟩ := inB_nat' hq; exact (hs k hk).1
  · have key : ∀ (k : Nat) (q : Nat), q < h.c.length → heldB h [root] k q = true → ∃ d l, d ≤ 20 ∧ T h d (q : Int) l := by
      intro k
      induction k with
      | zero =>
        intro q hq hh
        have h0 : 0 < cntI [root] (q : Int) := by unfold heldB at hh; simpa using hh
        have h1 := cntI_one root (q : Int)
        unfold one at h1
        split at h1
        · rename_i e
          rcases t with ⟨t, _⟩ | ⟨t1, t2⟩
          · omega
          · rw [e]; exact ⟨d, l, t1, t2⟩
        · omega
      | succ k ih =>
        intro q hq hh
        unfold heldB at hh
        rw [Bool.or_eq_true, List.any_eq_true] at hh
        rcases hh with hh | ⟨p, hp, hh⟩
        · exact ih q hq hh
        · rw [List.mem_range] at hp
          simp only [Bool.and_eq_true, decide_eq_true_eq] at hh
          obtain ⟨d, l, hd, t⟩ := ih p hp hh.1
          rw [tellsN_tl o hp] at hh
          obtain ⟨d', l', e, t'⟩ := t.child hh.2
          exact ⟨d', l', by omega, t'⟩
    obtain ⟨k, rfl, hk⟩ := inB_nat' (used_iff.mp hu).1
    exact key 25 k hk ((hs k hk).2.mpr (used_iff.mp hu).2)
theorem heldB_mono (h : Hp) (roots : List Int) (q : Nat) : ∀ (m n : Nat), heldB h roots n q = true → heldB h roots (n + m) q = true
  | 0, _, e => e
  | m + 1, n, e => by
    show heldB h roots (n + m + 1) q = true
    unfold heldB
    rw [heldB_mono h roots q m n e]; rfl
theorem sound_out {g : Hp} {B : Int} {p : Int} (o : Ok g B) (c : Ct g (one p)) (ht : Hts g) : soundB g [p] = true := by
  have hup : ∀ (k : Nat) (q : Nat), q < g.c.length → heldB g [p] k q = true → usedB g (q : Int) = true := by
    intro k
    induction k with
    | zero =>
      intro q hq hh
      have h0 : 0 < cntI [p] (q : Int) := by unfold heldB at hh; simpa using hh
      have h1 := cntI_one p (q : Int)
      have hin : inB g (q : Int) = true := inB_iff.mpr (by omega)
      have := c _ hin
      exact used_iff.mpr ⟨hin, by omega⟩
    | succ k ih =>
      intro q hq hh
      unfold heldB at hh
      rw [Bool.or_eq_true, List.any_eq_true] at hh
      rcases hh with hh | ⟨r, hr, hh⟩
      · exact ih q hq hh
      · rw [List.mem_range] at hr
        simp only [Bool.and_eq_true, decide_eq_true_eq] at hh
        rw [tellsN_tl o hr] at hh
        have hin : inB g (q : Int) = true := inB_iff.mpr (by omega)
        have := c _ hin
        have := tells_tot o (inB_iff.mpr (by omega : 0 ≤ (r : Int) ∧ (r : Int) < g.c.length)) (q : Int)
        have := one_nonneg p (q : Int)
        exact used_iff.mpr ⟨hin, by omega⟩
  have hdown : ∀ (n : Nat) (q : Nat) (d : Nat) (l : List It), T g d (q : Int) l → d ≤ 20 → 20 ≤ d + n → heldB g [p] n q = true := by
    intro n
    induction n with
    | zero =>
      intro q d l t hd hn
      obtain ⟨hin, hr⟩ := used_iff.mp t.used
      have h1 := c _ hin
      have h2 := cntI_one p (q : Int)
      by_cases h0 : 0 < one p (q : Int)
      · unfold heldB; exact decide_eq_true (by omega)
      · have hz : 0 < tot g (q : Int) := by omega
        rw [tot_tl o] at hz
        obtain ⟨i, hi, e⟩ := sumN_ex hz
        have hui : usedB g (i : Int) = true := by
          refine used_iff.mpr ⟨inB_iff.mpr (by omega), ?_⟩
          have := o.pos (i : Int) (inB_iff.mpr (by omega))
          refine Classical.byContradiction fun hn => ?_
          have hz := o.zero (i : Int) (inB_iff.mpr (by omega)) (by omega)
          simp only [hz] at e
          exact absurd e (by simp [tl, zNd, cntV])
        obtain ⟨d', l', hd', t'⟩ := ht _ hui
        obtain ⟨d2, l2, e2, t2⟩ := t'.child e
        have := (t2.uniq t).1
        omega
    | succ n ih =>
      intro q d l t hd hn
      obtain ⟨hin, hr⟩ := used_iff.mp t.used
      have h1 := c _ hin
      have h2 := cntI_one p (q : Int)
      by_cases h0 : 0 < one p (q : Int)
      · have : heldB g [p] 0 q = true := by unfold heldB; exact decide_eq_true (by omega)
        have := heldB_mono g [p] q (n + 1) 0 this
        rwa [Nat.zero_add] at this
      · have hz : 0 < tot g (q : Int) := by omega
        rw [tot_tl o] at hz
        obtain ⟨i, hi, e⟩ := sumN_ex hz
        have hui : usedB g (i : Int) = true := by
          refine used_iff.mpr ⟨inB_iff.mpr (by omega), ?_⟩
          have := o.pos (i : Int) (inB_iff.mpr (by omega))
          refine Classical.byContradiction fun hn => ?_
          have hz := o.zero (i : Int) (inB_iff.mpr (by omega)) (by omega)
          simp only [hz] at e
          exact absurd e (by simp [tl, zNd, cntV])
        obtain ⟨d', l', hd', t'⟩ := ht _ hui
        obtain ⟨d2, l2, e2, t2⟩ := t'.child e
        have := (t2.uniq t).1
        unfold heldB
        rw [Bool.or_eq_true, List.any_eq_true]
        refine .inr ⟨i, List.mem_range.mpr hi, ?_⟩
        rw [ih i d' l' t' hd' (by omega), Bool.true_and, tellsN_tl o hi]
        exact decide_eq_true e
  unfold soundB
  rw [List.all_eq_true]
  intro q hq
  rw [List.mem_range] at hq
  have hin : inB g (q : Int) = true := inB_iff.mpr (by omega)
  unfold soundAt
  simp only [Bool.and_eq_true, decide_eq_true_eq, beq_iff_eq, ← clAt_nat']
  refine ⟨?_, ?_⟩
  · rw [c _ hin, ← cntI_one]; unfold refsN tot; rw [Int.natCast_add]
  · by_cases hr : 0 < (clAt g (q : Int)).ref
    · rw [decide_eq_true hr]
      obtain ⟨d, l, hd, t⟩ := ht _ (used_iff.mpr ⟨hin, hr⟩)
      have := hdown 20 q d l t hd (by omega)
      exact heldB_mono g [p] q 5 20 this
    · rw [decide_eq_false hr, ← Bool.not_eq_true]
      exact fun h => hr (used_iff.mp (hup 25 q hq h)).2
/-- Where everything adds up Refs are small. -/
theorem ct_small {g : Hp} {B : Int} {p : Int} (o : Ok g B) (c : Ct g (one p)) {q : Int} (hq : inB g q = true) : (clAt g q).ref ≤ 8001 := by
  have h1 := c q hq
  have h2 : tot g q ≤ g.c.length * 4 := by
    rw [tot_tl o, ← sumN_const 4]
    refine sumN_mono fun i hi => ?_
    have hin : inB g (i : Int) = true := inB_iff.mpr (by omega)
    by_cases hr : 0 < (clAt g (i : Int)).ref
    · have := (nodeRight_iff.mp (o.right _ (used_iff.mpr ⟨hin, hr⟩))).1
      unfold tl
      split
      · omega
      · have := cntV_le (clAt g (i : Int)).n.it q; omega
    · have := o.pos _ hin
      rw [o.zero _ hin (by omega)]
      simp [tl, zNd, cntV]
  have h3 : one p q ≤ 1 := by unfold one; split <;> omega
  have := o.l2
  omega
theorem fitsH_free {h : Hp} {B : Int} {n : Int} {deep : Bool} (o : Ok h B) (e : fitsH h n deep = true) : n ≤ (freeN h : Int) := by
  unfold fitsH at e
  have h1 : freeN h ≤ h.c.length := List.length_filter_le _ _
  have := o.l2; have := o.k1; have := o.k2
  split at e
  · simpa using e
  · rw [w64_id (by omega) (by omega)] at e
    have : n ≤ (freeN h : Int) - h.keep := by simpa using e
    omega
theorem freeN_le {g g' : Hp} (x : Le g g') : freeN g' = freeN g := freeN_congr x.len x.free
/-- A tree made anew over its old one. -/
structure Anew (h g : Hp) (p : Int) (d : Nat) (l : List It) (B : Int) : Prop where
  ok : Ok g B
  ext : Ext h g
  tr : T g d p l
  new : usedB h p = false
  hts : ∀ q, usedB g q = true → usedB h q = true ∨ ∃ d' l', d' ≤ d ∧ T g d' q l'
  ct : ∀ R : Int → Int, Ct h R → Ct g (fun q => R q + one p q)
theorem lay_one {h g : Hp} {held : List Int} {x : It} {r made : List It} (e : layO h false held [x :: r] = some (g, made)) : ∃ p er, allocO h ⟨false, x :: r⟩ held = some (g, p, er) ∧ made = [⟨x.k, p⟩] := by
  unfold layO at e
  cases ha : allocO h ⟨false, x :: r⟩ held with
  | none => rw [ha] at e; simp at e
  | some t =>
    obtain ⟨g1, p, er⟩ := t
    rw [ha] at e
    simp only [layO, Option.bind_eq_bind, Option.bind_some, Option.some.injEq, Prod.mk.injEq] at e
    obtain ⟨rfl, rfl⟩ := e
    exact ⟨p, er, rfl, rfl⟩
theorem cntV_one (k p q : Int) : ((cntV [⟨k, p⟩] q : Nat) : Int) = one p q := by
  rw [cntV_cons, cntV_nil]
  unfold one
  show ((0 + if p = q then 1 else 0 : Nat) : Int) = _
  by_cases e : p = q
  · rw [if_pos e, if_pos e.symm]; rfl
  · rw [if_neg e, if_neg (fun h => e h.symm)]; rfl
/-- What is made takes the old root's place. -/
def putM (f : Nat) (g : Hp) (root : Int) : List It → Option (Hp × Int × Int)
  | [] => none
  | [y] => settledO f g y.v root
  | y :: z :: r => (overO g (y :: z :: r)).bind fun x => settledO f x.1 x.2.1 root
theorem putO_made {f : Nat} {h g : Hp} {root key val : Int} {deep : Bool} {d : Nat} {made : List It} (hh : highO 21 h root = some d) (hd : d < 20) (hk : fitsB key = true) (hv : fitsB val = true) (hf : fitsH h (2 * (d : Int) + 1) deep = true) (hr : ¬ root < 0) (a : anewO 20 h root ⟨key, val⟩ = some (g, made)) : putO f h root key val deep = putM f g root made := by
  unfold putO
  rw [hh]
  simp only [Option.bind_eq_bind, Option.bind_some]
  rw [hk, hv, if_neg (by simp), hf, decide_eq_false (by omega), if_neg (by simp), if_neg hr, a]
  rcases made with _ | ⟨y, _ | ⟨z, r⟩⟩ <;> rfl
/-- What a put comes to, ahead of its old root's end. -/
theorem build_spec {h : Hp} {B : Int} {root : Int} {d : Nat} {l : List It} {key val : Int} {deep : Bool} (f : Nat) (o : Ok h B) (hB1 : 1 ≤ B) (hB : B ≤ 1000000000) (t : T h d root l) (hd : d < 20) (hk : fitsB key = true) (hv : fitsB val = true) (hf : fitsH h (2 * (d : Int) + 1) deep = true) :
    ∃ g p d', putO f h root key val deep = settledO f g p root ∧ Anew h g p d' (ins l ⟨key, val⟩) (B + 200) ∧ (d' = d ∨ d' = d + 1) ∧ freeN h ≤ freeN g + (2 * d + 1) ∧ freeN g + d ≤ freeN h := by
  have hfree := fitsH_free o hf
  obtain ⟨g, made, ls, a1, a2, a3, a4, a5, a6, a7, a8⟩ := anew_spec d 20 h root l ⟨key, val⟩ B (by omega) o hB1 (by omega) t ⟨hk, hv⟩ (by omega)
  rw [putO_made (f := f) (t.high 21 (by omega)) hd hk hv hf (neg_of_used t.used) a1]
  clear a1
  match made, ls, a2, a3, a4, a5, a8 with
  | [], _, _, _, a4, _, _ => simp at a4
  | [y], ls, a2, a3, _, _, a8 =>
    have tr := a2.tr
    cases tr with
    | cons r rest =>
      cases rest
      rename_i li
      have e : li = ins l ⟨key, val⟩ := by simpa using a3
      rw [e] at r
      refine ⟨g, y.v, d, rfl, ⟨a2.ok.wide (by omega), a2.ext, r.2, a2.new y (by simp), a2.hts, fun R hR => (a8 R hR).congr fun q _ => ?_⟩, .inl rfl, by omega, by omega⟩
      rcases y with ⟨k, v⟩
      dsimp only
      rw [cntV_one]
  | y :: z :: r, ls, a2, a3, _, a5, a8 =>
    have hins := ins_gd t.gd.up t.gd.fit (x := ⟨key, val⟩) ⟨hk, hv⟩
    obtain ⟨g2, m2, ls2, l1, l2, l3, l4, l5, l6⟩ := lay_inner (rows := [y :: z :: r]) (ls := ls) a2.ok (by omega) (by omega) (vL (y :: z :: r)) (fun r' hr' => by rw [List.mem_singleton.mp hr']; exact ⟨by simp, by omega⟩) (by simp) (by simp) (by simp only [List.length_cons, List.length_nil]; omega) (by simpa using a2.tr) (by rw [a3]; exact hins.up)
    obtain ⟨p, er, ea, rfl⟩ := lay_one l1
    have tr := l2.tr
    cases tr with
    | cons rr rest =>
      cases rest
      rename_i li
      have e : li = ins l ⟨key, val⟩ := by rw [← a3, ← l3]; simp
      rw [e] at rr
      simp only [List.length_cons, List.length_nil] at l5
      refine ⟨g2, p, d + 1, ?_, ⟨l2.ok.wide (by omega), a2.ext.trans l2.ext, rr.2, ?_, fun q hq => ?_, fun R hR => l6 _ _ (a8 R hR) fun q hq => ?_⟩, .inr rfl, by omega, by omega⟩
      · show (overO g (y :: z :: r)).bind _ = _
        unfold overO; rw [ea]; rfl
      · have := l2.new ⟨y.k, p⟩ (by simp)
        cases hu : usedB h p with
        | false => rfl
        | true => rw [(a2.ext.use _ hu).1] at this; cases this
      · rcases l2.hts q hq with hu | hu
        · rcases a2.hts q hu with hu | ⟨d', l', h1, h2⟩
          · exact .inl hu
          · exact .inr ⟨d', l', by omega, h2.ext l2.ext⟩
        · exact .inr hu
      · have : hpN ⟨false, [y :: z :: r].flatten⟩ (vL (y :: z :: r)) q = cntV (y :: z :: r) q := by
          unfold hpN
          rw [if_neg (by simp)]
          split
          · simp
          · rename_i hq2
            exact (inL_vL.mp (by simpa using hq2)).symm
        rw [this, cntV_one]
        (try dsimp only)
        omega
/-- The old root goes. -/
theorem settle_spec {h g : Hp} {B : Int} {root p : Int} {d d' : Nat} {l l' : List It} (hB : B ≤ 1000000000) (t : T h d root l) (hd : d ≤ 20) (hd' : d' ≤ 20) (a : Anew h g p d' l' B) :
    ∃ g', settledO 25 g p root = some (g', p, 0) ∧ Ok g' B ∧ g'.c.length = h.c.length ∧ g'.keep = h.keep ∧ freeN g' = freeN g ∧ (Ct h (one root) → Hts h → Ct g' (one p) ∧ Hts g' ∧ T g' d' p l') := by
  have u := (a.ext.use root t.used).1
  obtain ⟨g', e, o', x, c⟩ := loose_spec 25 d g root B (by omega) a.ok (by omega) (t.ext a.ext).wk
  refine ⟨g', ?_, o', x.len.trans a.ext.len, x.keep.trans a.ext.keep, freeN_le x, fun hc hh => ?_⟩
  · unfold settledO looseH
    have := neg_of_used t.used
    rw [if_pos (by omega), if_pos u, e]; rfl
  · have c1 := c _ (a.ct _ hc) (fun q => by have := one_nonneg root q; have := one_nonneg p q; (try dsimp only); omega) (by have := one_self root; have := one_nonneg p root; (try dsimp only); omega)
    have c2 : Ct g' (one p) := c1.congr fun q _ => by
      (try dsimp only)
      have : (if q = root then (1 : Int) else 0) = one root q := rfl
      omega
    have hk : ∀ {d : Nat} {p : Int} {l : List It}, T g d p l → usedB g' p = true → T g' d p l := T.keep o' c2 (one_nonneg p) x
    refine ⟨c2, fun q hq => ?_, hk a.tr ?_⟩
    · have hg := (x.use q hq).1
      rcases a.hts q hg with hu | ⟨d2, l2, h1, h2⟩
      · obtain ⟨d2, l2, h1, h2⟩ := hh q hu
        exact ⟨d2, l2, h1, hk (h2.ext a.ext) hq⟩
      · exact ⟨d2, l2, by omega, hk h2 hq⟩
    · have hin : inB g' p = true := by rw [inB_len x.len]; exact (used_iff.mp a.tr.used).1
      have := c2 p hin
      rw [one_self] at this
      exact used_iff.mpr ⟨hin, by omega⟩
/-- What a put that is done comes to. -/
structure PutOk (h g : Hp) (root p : Int) (d : Nat) (l l' : List It) (B : Int) : Prop where
  ok : Ok g B
  len : g.c.length = h.c.length
  keep : g.keep = h.keep
  pos : 0 ≤ p
  lo : freeN h ≤ freeN g + (2 * d + 1)
  hi : freeN g + max d 1 ≤ freeN h
  fine : Ct h (one root) → Hts h → Ct g (one p) ∧ Hts g ∧ ∃ d', (d' = d ∨ d' = d + 1) ∧ d' ≤ 20 ∧ T g d' p l'
theorem Rt.high {h : Hp} {root : Int} {d : Nat} {l : List It} (t : Rt h root d l) : highO 21 h root = some d := by
  rcases t with ⟨rfl, rfl, rfl⟩ | ⟨hd, t⟩
  · rfl
  · exact t.high 21 (by omega)
theorem Rt.list {h : Hp} {root : Int} {d : Nat} {l : List It} (t : Rt h root d l) : listO 21 h root = some l := by
  rcases t with ⟨rfl, rfl, rfl⟩ | ⟨hd, t⟩
  · rfl
  · exact t.list 21 (by omega)
theorem Rt.up {h : Hp} {root : Int} {d : Nat} {l : List It} (t : Rt h root d l) : l.Pairwise fun a b => a.k < b.k := by
  rcases t with ⟨rfl, rfl, rfl⟩ | ⟨hd, t⟩
  · exact .nil
  · exact t.gd.up
theorem put_spec {h : Hp} {B : Int} {root : Int} {d : Nat} {l : List It} (key val : Int) (deep : Bool) (o : Ok h B) (hB1 : 1 ≤ B) (hB : B ≤ 100000000) (t : Rt h root d l) :
    ∃ g p e, putO 25 h root key val deep = some (g, p, e) ∧
      ((e = 1 ∧ g = h ∧ p = root ∧ ¬ (fitsB key = true ∧ fitsB val = true)) ∨
       (e = 3 ∧ g = h ∧ p = root ∧ (fitsB key = true ∧ fitsB val = true) ∧ ¬ (fitsH h (2 * (d : Int) + 1) deep = true ∧ d < 20)) ∨
       (e = 0 ∧ (fitsB key = true ∧ fitsB val = true) ∧ (fitsH h (2 * (d : Int) + 1) deep = true ∧ d < 20) ∧ PutOk h g root p d l (ins l ⟨key, val⟩) (B + 200))) := by
  by_cases hargs : fitsB key = true ∧ fitsB val = true
  · obtain ⟨hk, hv⟩ := hargs
    have hd20 : d ≤ 20 := by rcases t with ⟨_, rfl, _⟩ | ⟨h, _⟩ <;> omega
    by_cases hroom : fitsH h (2 * (d : Int) + 1) deep = true ∧ d < 20
    · obtain ⟨hf, hd⟩ := hroom
      rcases t with ⟨rfl, rfl, rfl⟩ | ⟨_, t⟩
      · have hfree := fitsH_free o hf
        have hx : fitsB (It.mk key val).k = true ∧ fitsB (It.mk key val).v = true := ⟨hk, hv⟩
        have hg : Gd [It.mk key val] := by
          have := ins_gd (l := []) (x := ⟨key, val⟩) .nil (fun x hx => by cases hx) hx
          simpa [ins] using this
        obtain ⟨g, made, l1, l2, l3, l4, l5⟩ := lay_leaf (rows := [[⟨key, val⟩]]) o hB1 (by omega) (fun r hr => by rw [List.mem_singleton.mp hr]; exact ⟨by simp, by simp⟩) (by simpa using hg) (by simp) (by simp only [List.length_cons, List.length_nil]; omega)
        unfold layO at l1
        obtain ⟨g1, f, ea, -⟩ := alloc_step (n := ⟨true, [⟨key, val⟩]⟩) (held := []) o (by omega) (nodeRight_iff.mpr ⟨by simp, hg⟩) (leadsB_iff.mpr (fun h => by cases h)) (by omega)
        rw [ea] at l1
        simp only [layO, Option.bind_eq_bind, Option.bind_some, Option.some.injEq, Prod.mk.injEq] at l1
        obtain ⟨rfl, rfl⟩ := l1
        have tr := l2.tr
        cases tr with
        | cons rr rest =>
          cases rest
          refine ⟨g1, f, 0, ?_, .inr (.inr ⟨rfl, ⟨hk, hv⟩, ⟨hf, hd⟩, ⟨l2.ok.wide (by omega), l2.ext.len, l2.ext.keep, ?_, ?_, ?_, fun hc hh => ⟨?_, fun q hq => ?_, 1, .inr rfl, by omega, ?_⟩⟩⟩)⟩
          · unfold putO
            have : highO 21 h (-1) = some 0 := rfl
            rw [this]
            simp only [Option.bind_eq_bind, Option.bind_some]
            rw [hk, hv, if_neg (by simp), hf, decide_eq_false (by omega), if_neg (by simp), if_pos (by omega), ea]
            rfl
          · have := neg_of_used rr.2.used; dsimp only at this; omega
          · simp only [List.length_cons, List.length_nil] at l4; omega
          · simp only [List.length_cons, List.length_nil] at l4; omega
          · refine (l5 _ hc).congr fun q hq => ?_
            rw [cntV_one]
            have : one (-1) q = 0 := by unfold one; rw [if_neg (by have := (inB_iff.mp hq).1; omega)]
            omega
          · rcases l2.hts q hq with hu | ⟨d2, l2', h1, h2⟩
            · obtain ⟨d2, l2', h1, h2⟩ := hh q hu
              exact ⟨d2, l2', h1, h2.ext l2.ext⟩
            · exact ⟨d2, l2', by omega, h2⟩
          · have : ins [] (It.mk key val) = [⟨key, val⟩] := rfl
            rw [this]; exact rr.2
      · obtain ⟨g, p, d', e, a, h1, h2, h3⟩ := build_spec 25 o hB1 (by omega) t hd hk hv hf
        obtain ⟨g', e', o', b1, b2, b3, b4⟩ := settle_spec (by omega) t hd20 (by omega) a
        refine ⟨g', p, 0, by rw [e, e'], .inr (.inr ⟨rfl, ⟨hk, hv⟩, ⟨hf, hd⟩, ⟨o', b1, b2, ?_, by omega, ?_, fun hc hh => ?_⟩⟩)⟩
        · have := neg_of_used a.tr.used; omega
        · have := t.pos; omega
        · obtain ⟨x, y, z⟩ := b4 hc hh
          exact ⟨x, y, d', h1, by omega, z⟩
    · refine ⟨h, root, 3, ?_, .inr (.inl ⟨rfl, rfl, rfl, ⟨hk, hv⟩, hroom⟩)⟩
      unfold putO
      rw [t.high]
      simp only [Option.bind_eq_bind, Option.bind_some]
      rw [hk, hv, if_neg (by simp), if_pos]
      rw [Bool.or_eq_true, decide_eq_true_eq, Bool.not_eq_true']
      by_cases h20 : d = 20
      · exact .inl h20
      · right
        rw [← Bool.not_eq_true]
        exact fun hf => hroom ⟨hf, by omega⟩
  · refine ⟨h, root, 1, ?_, .inl ⟨rfl, rfl, rfl, hargs⟩⟩
    unfold putO
    rw [t.high]
    simp only [Option.bind_eq_bind, Option.bind_some]
    rw [if_pos]
    rw [Bool.or_eq_true, Bool.not_eq_true', Bool.not_eq_true']
    cases hk : fitsB key with
    | false => exact .inl rfl
    | true =>
      cases hv : fitsB val with
      | false => exact .inr rfl
      | true => exact absurd ⟨hk, hv⟩ hargs
end Go.Proofs.Ytopkoganfnabgaa.H
namespace Go.Proofs.Ytopkoganfnabgaa.H
theorem small_of {h : Hp} {most : Nat} (hl : h.c.length ≤ most) (H : ∀ p, inB h p = true → (clAt h p).n.it.length ≤ 10 ∧ (clAt h p).ref ≤ 1000000) : smallB h most = true := by
  unfold smallB
  rw [Bool.and_eq_true, decide_eq_true_eq, all_cells]
  refine ⟨hl, fun p hp => ?_⟩
  unfold smallC
  simpa using H p hp
theorem small_ok {h : Hp} {most : Nat} (hs : smallB h most = true) (hr : rightB h = true) : Ok h 1000000 ∧ h.c.length ≤ most := by
  have o := rightB_ok.mp hr
  obtain ⟨a, b⟩ := small_facts hs
  exact ⟨⟨o.l1, o.l2, o.k1, o.k2, o.pos, fun p hp => by obtain ⟨i, rfl, hi⟩ := inB_nat' hp; rw [clAt_nat']; exact (b i hi).2, o.zero, o.pin, o.right, o.plc⟩, a⟩
theorem Ok.it_len {h : Hp} {B : Int} (o : Ok h B) {p : Int} (hp : inB h p = true) : (clAt h p).n.it.length ≤ 4 := by
  by_cases hr : 0 < (clAt h p).ref
  · exact (nodeRight_iff.mp (o.right p (used_iff.mpr ⟨hp, hr⟩))).1
  · have := o.pos p hp
    rw [o.zero p hp (by omega)]; exact Nat.zero_le _
theorem Ok.cut {h : Hp} {B C : Int} (o : Ok h B) (H : ∀ p, inB h p = true → (clAt h p).ref ≤ C) : Ok h C := ⟨o.l1, o.l2, o.k1, o.k2, o.pos, H, o.zero, o.pin, o.right, o.plc⟩
theorem may7_some {h : Hp} {root : Int} (most : Nat) : ∃ b, may7O h root most = some b := by
  unfold may7O
  split
  · rename_i hm
    unfold mayB at hm
    rw [Bool.and_eq_true] at hm
    exact treeO_some (rightB_ok.mp hm.2) root
  · exact ⟨_, rfl⟩
theorem may7_facts {h : Hp} {root : Int} {most : Nat} (e : may7O h root most = some true) : Ok h 1000000 ∧ h.c.length ≤ most ∧ ∃ d l, Rt h root d l := by
  unfold may7O at e
  split at e
  · rename_i hm
    unfold mayB at hm
    rw [Bool.and_eq_true] at hm
    obtain ⟨o, hl⟩ := small_ok hm.1 hm.2
    refine ⟨o, hl, ?_⟩
    rcases treeO_T o e with rfl | ⟨d, l, hd, t⟩
    · exact ⟨0, [], .inl ⟨rfl, rfl, rfl⟩⟩
    · exact ⟨d, l, .inr ⟨hd, t⟩⟩
  · cases e
theorem Rt.tree {h : Hp} {root : Int} {d : Nat} {l : List It} (t : Rt h root d l) : treeO h root = some true := by
  rcases t with ⟨rfl, _⟩ | ⟨hd, t⟩
  · exact T_treeO (.inl rfl)
  · exact T_treeO (.inr ⟨d, l, hd, t⟩)
theorem fine_some {h : Hp} {root : Int} (most : Nat) : ∃ b, fineO h [root] most = some b := by
  have : ∃ b, may8O h [root] most = some b := by
    unfold may8O
    split
    · unfold anyO
      split
      · rename_i hr
        obtain ⟨b, hb⟩ := treeO_some (rightB_ok.mp hr) root
        unfold anyL
        rw [hb]
        cases b <;> simp [anyL]
      · exact ⟨_, rfl⟩
    · exact ⟨_, rfl⟩
  obtain ⟨b, hb⟩ := this
  unfold fineO
  rw [hb]
  cases b <;> simp
/-- A sound heap with a root. -/
structure FP (h : Hp) (root : Int) (d : Nat) (l : List It) : Prop where
  ok : Ok h 8001
  ct : Ct h (one root)
  ht : Hts h
  tr : Rt h root d l
theorem fine_facts {h : Hp} {root : Int} {most : Nat} (e : fineO h [root] most = some true) : h.c.length ≤ most ∧ ∃ d l, FP h root d l := by
  unfold fineO at e
  cases hm : may8O h [root] most with
  | none => rw [hm] at e; cases e
  | some b =>
    rw [hm] at e
    cases b with
    | false => simp at e
    | true =>
      obtain ⟨s1, _, s3, s4⟩ := may8_facts hm
      obtain ⟨o, hl⟩ := small_ok s1 s3
      have hs : soundB h [root] = true := by simpa using e
      have ht : treeO h root = some true := by
        unfold anyL at s4
        cases hq : treeO h root with
        | none => rw [hq] at s4; cases s4
        | some b =>
          rw [hq] at s4
          cases b with
          | true => rfl
          | false => simp at s4
      have : ∃ d l, Rt h root d l := by
        rcases treeO_T o ht with rfl | ⟨d, l, hd, t⟩
        · exact ⟨0, [], .inl ⟨rfl, rfl, rfl⟩⟩
        · exact ⟨d, l, .inr ⟨hd, t⟩⟩
      obtain ⟨d, l, t⟩ := this
      obtain ⟨c, hh⟩ := sound_in o hs t
      exact ⟨hl, d, l, o.cut fun p hp => ct_small o c hp, c, hh, t⟩
theorem FP.fine {h : Hp} {root : Int} {d : Nat} {l : List It} (f : FP h root d l) {most : Nat} (hl : h.c.length ≤ most) : fineO h [root] most = some true := by
  have hs := sound_out f.ok f.ct f.ht
  have h1 : smallB h most = true := small_of hl fun p hp => ⟨by have := f.ok.it_len hp; omega, by have := f.ok.le p hp; omega⟩
  have h2 : rightB h = true := rightB_ok.mpr (f.ok.wide (by decide))
  unfold fineO may8O anyO anyL
  rw [h1, h2, f.tr.tree, hs]
  rfl
/-- What a put comes to in a sound heap. -/
theorem FP.put {h : Hp} {root : Int} {d : Nat} {l : List It} (f : FP h root d l) (key val : Int) (deep : Bool) :
    ∃ g p e, putO 25 h root key val deep = some (g, p, e) ∧
      ((e = 1 ∧ g = h ∧ p = root ∧ ¬ (fitsB key = true ∧ fitsB val = true)) ∨
       (e = 3 ∧ g = h ∧ p = root ∧ (fitsB key = true ∧ fitsB val = true) ∧ ¬ (fitsH h (2 * (d : Int) + 1) deep = true ∧ d < 20)) ∨
       (e = 0 ∧ (fitsB key = true ∧ fitsB val = true) ∧ (fitsH h (2 * (d : Int) + 1) deep = true ∧ d < 20) ∧ 0 ≤ p ∧ g.c.length = h.c.length ∧ g.keep = h.keep ∧ freeN h ≤ freeN g + (2 * d + 1) ∧ freeN g + max d 1 ≤ freeN h ∧ ∃ d', (d' = d ∨ d' = d + 1) ∧ FP g p d' (ins l ⟨key, val⟩))) := by
  obtain ⟨g, p, e, h1, h2⟩ := put_spec key val deep f.ok (by decide) (by decide) f.tr
  refine ⟨g, p, e, h1, ?_⟩
  rcases h2 with h2 | h2 | ⟨a, b, c, k⟩
  · exact .inl h2
  · exact .inr (.inl h2)
  · obtain ⟨x, y, d', z1, z2, z3⟩ := k.fine f.ct f.ht
    exact .inr (.inr ⟨a, b, c, k.pos, k.len, k.keep, k.lo, k.hi, d', z1, ⟨k.ok.cut fun q hq => ct_small k.ok x hq, x, y, .inr ⟨z2, z3⟩⟩⟩)
end Go.Proofs.Ytopkoganfnabgaa.H
namespace Go.Proofs.Ytopkoganfnabgaa.H
open Go.RowKit Go.Proofs.YtopkoganfnabgaaW.PrintWords Go.Proofs.YtopkoganfnabgaaW.PrintLast Go.Proofs.YtopkoganfnabgaaW.PrintMore
attribute [local go_sem] max2_int min2_int max_two min_two max_three min_three max_four min_four
set_option linter.unusedVariables false
set_option linter.unusedSimpArgs false
theorem one_int (W : World) (x : Int) : (Kd.int .i64).C (W.alloc (.cells #[.int .i64 x] 3)) (some ⟨W.heap.size, 0, none⟩) 1 [x] := by
  refine ⟨rfl, by decide, fun _ => ⟨_, rfl, fun j p hj => ?_⟩⟩
  have hj0 : j = 0 := by
    have := (List.getElem?_eq_some_iff.1 hj).1
    simp at this
    exact this
  subst hj0
  cases hj
  refine ⟨[.int .i64 x], rfl, rfl, fun i u hu => ?_⟩
  have hi : i = 0 := by
    have := (List.getElem?_eq_some_iff.1 hu).1
    simpa using this
  subst hi
  rw [show (({ block := W.heap.size, off := 0 } : Addr).add (0 * (Kd.int .i64).sz + 0)) = ⟨W.heap.size, 0, none⟩ from rfl, blk_cell (blk_new W _) 0]
  exact hu
/-- Where a law of grow stands behind its first regions. -/
structure LwSt (w W : World) (A : Option Addr) (c : Nat) (h : Hp) (x : It) (n : Nat) : Prop where
  b0 : Below w.heap.size w W
  hh : W.heap[w.heap.size + n]? = some (.cells #[.slice A h.c.length c, .int .i64 h.keep] 24 (0, 0))
  hx : W.heap[w.heap.size + n + 1]? = some (.cells #[.int .i64 x.k, .int .i64 x.v] 26 (0, 0))
  cl : kCl.C W A h.c.length h.c
theorem LwSt.step {w W W' : World} {A : Option Addr} {c : Nat} {h : Hp} {x : It} {n : Nat} (s : LwSt w W A c h x n) (hb : Below W.heap.size W W') : LwSt w W' A c h x n := ⟨below_step s.b0 hb, blk_below s.hh hb, blk_below s.hx hb, Kd.C_below s.cl hb⟩
end Go.Proofs.Ytopkoganfnabgaa.H
namespace Go.Proofs.Ytopkoganfnabgaa.H
theorem ff (p q r : It → Bool) (l : List It) (h : ∀ a, (q a && p a) = r a) : (l.filter p).filter q = l.filter r := by
  rw [List.filter_filter]
  exact List.filter_congr fun a _ => by rw [← h a, Bool.and_comm]
theorem find_filter {l : List It} {p : It → Bool} {key : Int} (h : ∀ a, a.k = key → p a = true) : (l.filter p).find? (fun a => decide (a.k = key)) = l.find? (fun a => decide (a.k = key)) := by
  induction l with
  | nil => rfl
  | cons a l ih =>
    rw [List.filter_cons, List.find?_cons]
    by_cases hk : a.k = key
    · rw [if_pos (h a hk), List.find?_cons]
      simp [hk]
    · rw [decide_eq_false hk]
      split
      · rw [List.find?_cons, decide_eq_false hk]; exact ih
      · exact ih
theorem find_none' {l : List It} {p : It → Bool} {key : Int} (h : ∀ a, p a = true → a.k ≠ key) : (l.filter p).find? (fun a => decide (a.k = key)) = none := by
  rw [List.find?_eq_none]
  intro a ha
  simpa using h a (List.mem_filter.mp ha).2
theorem getL_ins (l : List It) (x : It) (key : Int) : getL (ins l x) key = if x.k = key then (x.v, 0) else getL l key := by
  unfold getL ins
  rw [List.find?_append, List.find?_cons]
  by_cases e : x.k = key
  · rw [if_pos e, find_none' (fun a ha => by simp at ha; omega), decide_eq_true e]; rfl
  · rw [if_neg e, decide_eq_false e]
    by_cases h1 : key < x.k
    · rw [find_filter (fun a ha => by simp; omega), find_none' (fun a ha => by simp at ha; omega)]
      simp
    · rw [find_none' (fun a ha => by simp at ha; omega), find_filter (fun a ha => by simp; omega)]
      simp
end Go.Proofs.Ytopkoganfnabgaa.H
namespace Go.Proofs.Ytopkoganfnabgaa.H
open Go.RowKit Go.Proofs.YtopkoganfnabgaaW.PrintWords Go.Proofs.YtopkoganfnabgaaW.PrintLast Go.Proofs.YtopkoganfnabgaaW.PrintMore
attribute [local go_sem] max2_int min2_int max_two min_two max_three min_three max_four min_four
set_option linter.unusedVariables false
set_option linter.unusedSimpArgs false
/-- A box that holds a heap. -/
structure Bx (W : World) (s : Nat) (B : Option Addr) (cb : Nat) (g : Hp) : Prop where
  bx : W.heap[s]? = some (.cells #[.slice B g.c.length cb, .int .i64 g.keep] 24 (0, 0))
  cl : kCl.C W B g.c.length g.c
  le : g.c.length ≤ cb
theorem Bx.step {W W' : World} {s : Nat} {B : Option Addr} {cb : Nat} {g : Hp} (b : Bx W s B cb g) (hb : Below W.heap.size W W') : Bx W' s B cb g := ⟨blk_below b.bx hb, Kd.C_below b.cl hb, b.le⟩
theorem Bx.new {W : World} {B : Option Addr} {cb : Nat} {g : Hp} (hc : kCl.C W B g.c.length g.c) (hl : g.c.length ≤ cb) : Bx (W.alloc (.cells #[.slice B g.c.length cb, .int .i64 g.keep] 24)) W.heap.size B cb g := ⟨blk_new W _, Kd.C_alloc hc _, hl⟩
theorem Bx.c0 {W : World} {s : Nat} {B : Option Addr} {cb : Nat} {g : Hp} (b : Bx W s B cb g) : W.cell? ⟨s, 0, none⟩ = some (.slice B g.c.length cb) := (blk_cell b.bx 0).trans rfl
theorem Bx.c1 {W : World} {s : Nat} {B : Option Addr} {cb : Nat} {g : Hp} (b : Bx W s B cb g) : W.cell? ⟨s, 1, none⟩ = some (.int .i64 g.keep) := (blk_cell b.bx 1).trans rfl
/-- A box that holds an item. -/
structure Ix (W : World) (s : Nat) (x : It) : Prop where
  bx : W.heap[s]? = some (.cells #[.int .i64 x.k, .int .i64 x.v] 26 (0, 0))
theorem Ix.step {W W' : World} {s : Nat} {x : It} (b : Ix W s x) (hb : Below W.heap.size W W') : Ix W' s x := ⟨blk_below b.bx hb⟩
theorem Ix.c0 {W : World} {s : Nat} {x : It} (b : Ix W s x) : W.cell? ⟨s, 0, none⟩ = some (.int .i64 x.k) := (blk_cell b.bx 0).trans rfl
theorem Ix.c1 {W : World} {s : Nat} {x : It} (b : Ix W s x) : W.cell? ⟨s, 1, none⟩ = some (.int .i64 x.v) := (blk_cell b.bx 1).trans rfl
structure TwSt (w W : World) (A : Option Addr) (c : Nat) (h : Hp) (x y : It) : Prop where
  b0 : Below w.heap.size w W
  hh : Bx W (w.heap.size + 1) A c h
  hx : Ix W (w.heap.size + 1 + 1) x
  hy : Ix W (w.heap.size + 1 + 1 + 1) y
theorem TwSt.step {w W W' : World} {A : Option Addr} {c : Nat} {h : Hp} {x y : It} (s : TwSt w W A c h x y) (hb : Below W.heap.size W W') : TwSt w W' A c h x y := ⟨below_step s.b0 hb, s.hh.step hb, s.hx.step hb, s.hy.step hb⟩
abbrev ListC (g : Hp) (r : Int) (l : List It) (n : Nat) : Prop := ∀ (B : Option Addr) (cb : Nat) (W : World), kCl.C W B g.c.length g.c → Calls Try.prog 24 #[.agg #[.slice B g.c.length cb, .int .i64 g.keep], .int .i64 r] W fun e w' => ∃ D d, e = .returned (.slice D n d) ∧ n ≤ d ∧ kIt.C w' D n l ∧ Below W.heap.size W w'
theorem listC {g : Hp} {r : Int} {d : Nat} {l : List It} {n : Nat} (f : Rt g r d l) (hn : l.length = n) : ListC g r l n := fun B cb W hcl => by subst hn; exact list_walk 21 B cb g r l W hcl f.list
abbrev FineC (A : Option Addr) (c : Nat) (h : Hp) (root : Int) (most : Int) (b : Bool) : Prop := ∀ (W : World) (Ar : Option Addr), (Kd.int .i64).C W Ar 1 [root] → kCl.C W A h.c.length h.c → Calls Try.prog 18 #[.agg #[.slice A h.c.length c, .int .i64 h.keep], .slice Ar 1 1, .slice none 0 0, .int .i64 most] W fun e w' => e = .returned (.bool b) ∧ Below W.heap.size W w'
theorem fineC {A : Option Addr} {c : Nat} {h : Hp} {root : Int} {b : Bool} (most : Nat) (hb : fineO h [root] most = some b) : FineC A c h root most b := fun W Ar hrr hcl => fine_walk A Ar c 1 h [root] most b W hcl hrr hb
end Go.Proofs.Ytopkoganfnabgaa.H
namespace Go.Proofs.Ytopkoganfnabgaa.H
theorem fill_spec : ∀ (L : List It) {h : Hp} {root : Int} {d : Nat} {l : List It}, FP h root d l → ∃ g p e d' l', fillO 25 h root L = some (g, p, e) ∧ g.c.length = h.c.length ∧ FP g p d' l' ∧ (e = 0 ∨ e = 1 ∨ e = 3) ∧ (e = 0 → l' = L.foldl ins l ∧ (L ≠ [] → 0 ≤ p) ∧ (L = [] → p = root))
  | [], h, root, d, l, f => ⟨h, root, 0, d, l, rfl, rfl, f, .inl rfl, fun _ => ⟨rfl, fun h => absurd rfl h, fun _ => rfl⟩⟩
  | x :: L, h, root, d, l, f => by
    obtain ⟨g, p, e, h1, h2⟩ := f.put x.k x.v false
    unfold fillO
    rw [h1]
    simp only [Option.bind_eq_bind, Option.bind_some]
    rcases h2 with ⟨rfl, _, _, _⟩ | ⟨rfl, _, _, _⟩ | ⟨rfl, _, _, hp, hl, _, _, _, d', _, f'⟩
    · exact ⟨h, root, 1, d, l, rfl, rfl, f, .inr (.inl rfl), fun h => by cases h⟩
    · exact ⟨h, root, 3, d, l, rfl, rfl, f, .inr (.inr rfl), fun h => by cases h⟩
    · obtain ⟨g2, p2, e2, d2, l2, a1, a2, a3, a4, a5⟩ := fill_spec L f'
      rw [if_pos rfl]
      refine ⟨g2, p2, e2, d2, l2, a1, a2.trans hl, a3, a4, fun h0 => ?_⟩
      obtain ⟨b1, b2, b3⟩ := a5 h0
      refine ⟨by rw [b1]; rfl, fun _ => ?_, fun h => by cases h⟩
      by_cases hL : L = []
      · rw [b3 hL]; exact hp
      · exact b2 hL
theorem fill_append {f : Nat} : ∀ (a b : List It) {h g : Hp} {root p : Int}, fillO f h root (a ++ b) = some (g, p, 0) → ∃ g1 p1, fillO f h root a = some (g1, p1, 0) ∧ fillO f g1 p1 b = some (g, p, 0)
  | [], b, h, g, root, p, e => ⟨h, root, rfl, e⟩
  | x :: a, b, h, g, root, p, e => by
    rw [List.cons_append] at e
    unfold fillO at e
    cases hq : putO f h root x.k x.v false with
    | none => rw [hq] at e; simp at e
    | some t =>
      obtain ⟨g0, p0, e0⟩ := t
      rw [hq] at e
      simp only [Option.bind_eq_bind, Option.bind_some] at e
      by_cases h0 : e0 = 0
      · rw [if_pos h0] at e
        obtain ⟨g1, p1, h1, h2⟩ := fill_append a b e
        refine ⟨g1, p1, ?_, h2⟩
        unfold fillO
        rw [hq]
        simp only [Option.bind_eq_bind, Option.bind_some]
        rw [if_pos h0]; exact h1
      · rw [if_neg h0] at e
        simp only [Option.some.injEq, Prod.mk.injEq] at e
        exact absurd e.2.2 h0
/-- What is found of a key behind items that are put one by one. -/
def stepV (key : Int) (cur : Int × Int) (x : It) : Int × Int := if x.k = key then (x.v, 0) else cur
theorem getL_fold (key : Int) : ∀ (L l : List It), getL (L.foldl ins l) key = L.foldl (stepV key) (getL l key)
  | [], l => rfl
  | x :: L, l => by
    rw [List.foldl_cons, List.foldl_cons, getL_fold key L, getL_ins]; rfl
theorem fold_len : ∀ (L l : List It), (L.foldl ins l).length ≤ l.length + L.length
  | [], l => by simp
  | x :: L, l => by
    rw [List.foldl_cons, List.length_cons]
    have := fold_len L (ins l x)
    have := ins_len l x
    omega
theorem fold_step (key : Int) (L : List It) (j : Nat) (hj : j < L.length) (cur : Int × Int) : (L.take (j + 1)).foldl (stepV key) cur = stepV key ((L.take j).foldl (stepV key) cur) (itAt L j) := by
  rw [List.take_add_one, List.getElem?_eq_getElem hj, itAt_get hj, List.foldl_append]
  rfl
theorem new_fp (n : Nat) (h1 : 1 ≤ n) (h2 : n ≤ 2000) : FP ⟨List.replicate n zCl, 0⟩ (-1) 0 [] := by
  have hl : (List.replicate n zCl).length = n := List.length_replicate
  have hc : ∀ q, clAt ⟨List.replicate n zCl, 0⟩ q = zCl := by
    intro q
    unfold clAt
    rw [List.getD_eq_getElem?_getD, List.getElem?_replicate]
    split <;> rfl
  have hu : ∀ q, usedB ⟨List.replicate n zCl, 0⟩ q = false := fun q => by
    rw [← Bool.not_eq_true, used_iff, hc]; exact fun h => absurd h.2 (by decide)
  have o : Ok ⟨List.replicate n zCl, 0⟩ 8001 := by
    refine ⟨by rw [hl]; exact h1, by rw [hl]; exact h2, Int.le_refl _, by rw [hl]; exact Int.natCast_nonneg _, fun q _ => ?_, fun q _ => ?_, fun q _ _ => ?_, fun q h => ?_, fun q h => ?_, fun q h => ?_⟩
    · rw [hc]; decide
    · rw [hc]; decide
    · rw [hc]; rfl
    · rw [hu] at h; cases h
    · rw [hu] at h; cases h
    · rw [hu] at h; cases h
  refine ⟨o, fun q hq => ?_, fun q h => ?_, .inl ⟨rfl, rfl, rfl⟩⟩
  · have h3 : tot ⟨List.replicate n zCl, 0⟩ q = 0 := by
      rw [tot_tl o]
      exact sumN_zero fun i _ => by rw [hc]; rfl
    have h4 : one (-1) q = 0 := by unfold one; rw [if_neg (by have := (inB_iff.mp hq).1; omega)]
    rw [hc, h3, h4]; rfl
  · rw [hu] at h; cases h
end Go.Proofs.Ytopkoganfnabgaa.H
namespace Go.Proofs.Ytopkoganfnabgaa.H
open Go.RowKit Go.Proofs.YtopkoganfnabgaaW.PrintWords Go.Proofs.YtopkoganfnabgaaW.PrintLast Go.Proofs.YtopkoganfnabgaaW.PrintMore
attribute [local go_sem] max2_int min2_int max_two min_two max_three min_three max_four min_four
set_option linter.unusedVariables false
set_option linter.unusedSimpArgs false
theorem cl_eq (x y : Cl) : decide (x = y) = (decide (x.n = y.n) && (decide (x.ref = y.ref) && decide (x.pin = y.pin))) := by
  rw [Bool.eq_iff_iff]
  cases x; cases y
  simp
  constructor
  · rintro ⟨a, b, c⟩; exact ⟨c, a, b⟩
  · rintro ⟨c, a, b⟩; exact ⟨a, b, c⟩
theorem listc_eq {a b : List Cl} (hl : a.length = b.length) (h : ∀ i, i < a.length → a.getD i zCl = b.getD i zCl) : a = b := by
  apply List.ext_getElem hl
  intro i h1 h2
  have := h i h1
  rw [List.getD_eq_getElem?_getD, List.getD_eq_getElem?_getD, List.getElem?_eq_getElem h1, List.getElem?_eq_getElem h2] at this
  exact this
set_option maxHeartbeats 4000000 in
set_option maxRecDepth 100000 in
theorem same05_walk (A1 A2 : Option Addr) (c1 c2 : Nat) (a b : Hp) (w : World) (h1 : kCl.C w A1 a.c.length a.c) (h2 : kCl.C w A2 b.c.length b.c) :
    Calls Try.prog 17 #[.agg #[.slice A1 a.c.length c1, .int .i64 a.keep], .agg #[.slice A2 b.c.length c2, .int .i64 b.keep]] w fun e w' => e = .returned (.bool (decide (a = b))) ∧ Below w.heap.size w w' := by
  have hm := Kd.C_max h1
  obtain ⟨W1, hW1⟩ : ∃ W1, W1 = (w.alloc (.cells #[.slice A1 a.c.length c1, .int .i64 a.keep] 24)).alloc (.cells #[.slice A2 b.c.length c2, .int .i64 b.keep] 24) := ⟨_, rfl⟩
  have HB0 := Aside0.mk (show Below w.heap.size w W1 by rw [hW1]; exact below_alloc (below_alloc (Below.refl _ _) _) _)
  have HBA := Aside0.mk (show W1.heap[w.heap.size]? = some (.cells #[.slice A1 a.c.length c1, .int .i64 a.keep] 24) by rw [hW1]; exact blk_alloc (blk_new w _) _)
  have HBB := Aside0.mk (show W1.heap[w.heap.size + 1]? = some (.cells #[.slice A2 b.c.length c2, .int .i64 b.keep] 24) by rw [hW1]; exact blk2 w _ _)
  have H1 := Aside0.mk (Kd.C_below h1 HB0.out)
  have H2 := Aside0.mk (Kd.C_below h2 HB0.out)
  have hW1' := Aside0.mk hW1
  have c0 := (blk_cell HBA.out 0).trans (show _ = some (Value.slice A1 a.c.length c1) from rfl)
  have c1' := (blk_cell HBA.out 1).trans (show _ = some (Value.int .i64 a.keep) from rfl)
  have d0 := (blk_cell HBB.out 0).trans (show _ = some (Value.slice A2 b.c.length c2) from rfl)
  have d1' := (blk_cell HBB.out 1).trans (show _ = some (Value.int .i64 b.keep) from rfl)
  clear h1 h2 hW1
  go_enter Try.func17, Try.ntmps17
  go_upto_region 1 with (fail)
  rw [← hW1'.out]
  by_cases hk : a.keep = b.keep
  · have q1 : (a.keep != b.keep) = false := bne_f hk
    by_cases hl : a.c.length = b.c.length
    · have q2 : ((a.c.length : Int) != (b.c.length : Int)) = false := bne_f (by omega)
      have q3 : (a.c.length != b.c.length) = false := bne_f hl
      have q4 : (a.c.length = b.c.length) = True := eq_true hl
      have HKL := Aside0.mk (And.intro hk hl)
      clear hk hl
      go_wp2
      clear q1 q2 q3 q4 c0 c1' d0 d1'
      go_loopg [5] a.c.length (fun g s5 wr => ∃ k : Nat, s5 = .int .i64 k ∧ k + g = a.c.length ∧ Aside0 (∀ i, i < k → a.c.getD i zCl = b.c.getD i zCl) ∧ Aside0 (Below W1.heap.size W1 wr))
      case atStart => exact ⟨0, rfl, by omega, ⟨fun i h => by omega⟩, ⟨Below.refl _ _⟩⟩
      case round =>
        obtain ⟨k, rfl, hk, HO, HB⟩ := hrel
        have b0 := (blk_cell (blk_below HBA.out HB.out) 0).trans (show _ = some (Value.slice A1 a.c.length c1) from rfl)
        have b1 := (blk_cell (blk_below HBB.out HB.out) 0).trans (show _ = some (Value.slice A2 b.c.length c2) from rfl)
        have HBW := Aside0.mk (below_step HB0.out HB.out)
        by_cases hlt : k < a.c.length
        · obtain ⟨g1, rfl⟩ : ∃ g1, gk = g1 + 1 := ⟨gk - 1, by omega⟩
          have hltb : k < b.c.length := by have := HKL.out.2; omega
          have r1 : decide (k < a.c.length) = true := decide_eq_true hlt
          have r2 : (k < a.c.length) = True := eq_true hlt
          have r3 : (k < b.c.length) = True := eq_true hltb
          obtain ⟨ad, B, cb, rfl, x0, x1, x2, x3, _, hB⟩ := at_cl (Kd.C_below H1.out HB.out) k hlt
          obtain ⟨ad2, B2, cb2, rfl, y0, y1, y2, y3, _, hB2⟩ := at_cl (Kd.C_below H2.out HB.out) k hltb
          obtain ⟨x, hx⟩ : ∃ x, x = a.c.getD k zCl := ⟨_, rfl⟩
          obtain ⟨y, hy⟩ : ∃ y, y = b.c.getD k zCl := ⟨_, rfl⟩
          rw [← hx] at x0 x1 x2 x3 hB
          rw [← hy] at y0 y1 y2 y3 hB2
          have HXY := Aside0.mk (And.intro hx hy)
          have HSW := Aside0.mk (fun (W : World) (hb : Below wr.heap.size wr W) => ndSame_walk B B2 cb cb2 x.n y.n W (Kd.C_below hB hb) (Kd.C_below hB2 hb))
          have HK := Aside0.mk (And.intro hlt hk)
          have HW := Aside0.mk (show wrap64 ((k : Int) + 1) = ((k + 1 : Nat) : Int) by unfold wrap64; omega)
          have hceq := cl_eq x y
          have HNE := Aside0.mk (fun (h : decide (x = y) = false) => (show decide (a = b) = false from decide_eq_false (fun e => by rw [hx, hy, e] at h; simp at h)))
          clear hx hy hlt hk hltb hB hB2
          obtain ⟨s, hs⟩ : ∃ s, s = decide (x.n = y.n) := ⟨_, rfl⟩
          rw [← hs] at HSW hceq
          clear hs
          cases s with
          | false =>
            have HF := Aside0.mk (HNE.out (by rw [hceq]; rfl))
            clear hceq
            go_wp2
            go_still_tail 12, (by kernel_rfl)
            go_wp2_with (first | (go_at_call 53; (with_reducible refine (HSW.out _ (by repeat (first | (with_reducible exact Below.refl _ _) | (with_reducible refine below_alloc ?_ _) | (with_reducible refine below_drew1 ?_) | (with_reducible refine pw_below_drewN ?_ _) | fail))).mono ?_); rintro e w2 ⟨rfl, hb2⟩; have HB2 := Aside0.mk (show Below wr.heap.size wr w2 from below_step (by repeat (first | (with_reducible exact Below.refl _ _) | (with_reducible refine below_alloc ?_ _) | (with_reducible refine below_drew1 ?_) | (with_reducible refine pw_below_drewN ?_ _) | fail)) hb2); clear hb2) | fail)
            go_quiet (fail)
            go_wp2
            go_ret
            exact ⟨ret_b HF.out.symm, by repeat (first | (with_reducible exact Below.refl _ _) | (with_reducible refine below_alloc ?_ _) | (with_reducible refine below_drew1 ?_) | (with_reducible refine pw_below_drewN ?_ _) | (with_reducible exact below_step HBW.out HB2.out))⟩
          | true =>
            by_cases e1 : x.ref = y.ref
            · have d1 : (x.ref != y.ref) = false := bne_f e1
              rw [decide_eq_true e1] at hceq
              obtain ⟨px, hpx⟩ : ∃ px, px = x.pin := ⟨_, rfl⟩
              obtain ⟨py, hpy⟩ : ∃ py, py = y.pin := ⟨_, rfl⟩
              rw [← hpx, ← hpy] at hceq
              rw [← hpx] at x1
              rw [← hpy] at y1
              clear hpx hpy e1
              cases px <;> cases py
              · have HEQ := Aside0.mk (show x = y from of_decide_eq_true hceq)
                clear hceq
                go_wp2
                go_still_tail 12, (by kernel_rfl)
                go_wp2_with (first | (go_at_call 53; (with_reducible refine (HSW.out _ (by repeat (first | (with_reducible exact Below.refl _ _) | (with_reducible refine below_alloc ?_ _) | (with_reducible refine below_drew1 ?_) | (with_reducible refine pw_below_drewN ?_ _) | fail))).mono ?_); rintro e w2 ⟨rfl, hb2⟩; have HB2 := Aside0.mk (show Below wr.heap.size wr w2 from below_step (by repeat (first | (with_reducible exact Below.refl _ _) | (with_reducible refine below_alloc ?_ _) | (with_reducible refine below_drew1 ?_) | (with_reducible refine pw_below_drewN ?_ _) | fail)) hb2); have b2 := bcell HB2.out b0; have b3 := bcell HB2.out b1; have x4 := bcell HB2.out x0; have x5 := bcell HB2.out x1; have y4 := bcell HB2.out y0; have y5 := bcell HB2.out y1; clear hb2) | fail)
                go_quiet (fail)
                go_wp2
                go_roundg g1
                case measure => omega
                case rel => exact ⟨k + 1, by rw [HW.out], by have := HK.out; omega, ⟨fun i hi => by rcases Nat.lt_or_ge i k with h | h; exact HO.out i h; obtain rfl : i = k := (by omega); rw [← HXY.out.1, ← HXY.out.2]; exact HEQ.out⟩, ⟨by repeat (first | (with_reducible exact Below.refl _ _) | (with_reducible refine below_alloc ?_ _) | (with_reducible refine below_drew1 ?_) | (with_reducible refine pw_below_drewN ?_ _) | (with_reducible exact below_step HB.out HB2.out))⟩⟩
              · have HF := Aside0.mk (HNE.out (by rw [hceq]; rfl))
                clear hceq
                go_wp2
                go_still_tail 12, (by kernel_rfl)
                go_wp2_with (first | (go_at_call 53; (with_reducible refine (HSW.out _ (by repeat (first | (with_reducible exact Below.refl _ _) | (with_reducible refine below_alloc ?_ _) | (with_reducible refine below_drew1 ?_) | (with_reducible refine pw_below_drewN ?_ _) | fail))).mono ?_); rintro e w2 ⟨rfl, hb2⟩; have HB2 := Aside0.mk (show Below wr.heap.size wr w2 from below_step (by repeat (first | (with_reducible exact Below.refl _ _) | (with_reducible refine below_alloc ?_ _) | (with_reducible refine below_drew1 ?_) | (with_reducible refine pw_below_drewN ?_ _) | fail)) hb2); have b2 := bcell HB2.out b0; have b3 := bcell HB2.out b1; have x4 := bcell HB2.out x0; have x5 := bcell HB2.out x1; have y4 := bcell HB2.out y0; have y5 := bcell HB2.out y1; clear hb2) | fail)
                go_quiet (fail)
                go_wp2
                go_ret
                exact ⟨ret_b HF.out.symm, by repeat (first | (with_reducible exact Below.refl _ _) | (with_reducible refine below_alloc ?_ _) | (with_reducible refine below_drew1 ?_) | (with_reducible refine pw_below_drewN ?_ _) | (with_reducible exact below_step HBW.out HB2.out))⟩
              · have HF := Aside0.mk (HNE.out (by rw [hceq]; rfl))
                clear hceq
                go_wp2
                go_still_tail 12, (by kernel_rfl)
                go_wp2_with (first | (go_at_call 53; (with_reducible refine (HSW.out _ (by repeat (first | (with_reducible exact Below.refl _ _) | (with_reducible refine below_alloc ?_ _) | (with_reducible refine below_drew1 ?_) | (with_reducible refine pw_below_drewN ?_ _) | fail))).mono ?_); rintro e w2 ⟨rfl, hb2⟩; have HB2 := Aside0.mk (show Below wr.heap.size wr w2 from below_step (by repeat (first | (with_reducible exact Below.refl _ _) | (with_reducible refine below_alloc ?_ _) | (with_reducible refine below_drew1 ?_) | (with_reducible refine pw_below_drewN ?_ _) | fail)) hb2); have b2 := bcell HB2.out b0; have b3 := bcell HB2.out b1; have x4 := bcell HB2.out x0; have x5 := bcell HB2.out x1; have y4 := bcell HB2.out y0; have y5 := bcell HB2.out y1; clear hb2) | fail)
                go_quiet (fail)
                go_wp2
                go_ret
                exact ⟨ret_b HF.out.symm, by repeat (first | (with_reducible exact Below.refl _ _) | (with_reducible refine below_alloc ?_ _) | (with_reducible refine below_drew1 ?_) | (with_reducible refine pw_below_drewN ?_ _) | (with_reducible exact below_step HBW.out HB2.out))⟩
              · have HEQ := Aside0.mk (show x = y from of_decide_eq_true hceq)
                clear hceq
                go_wp2
                go_still_tail 12, (by kernel_rfl)
                go_wp2_with (first | (go_at_call 53; (with_reducible refine (HSW.out _ (by repeat (first | (with_reducible exact Below.refl _ _) | (with_reducible refine below_alloc ?_ _) | (with_reducible refine below_drew1 ?_) | (with_reducible refine pw_below_drewN ?_ _) | fail))).mono ?_); rintro e w2 ⟨rfl, hb2⟩; have HB2 := Aside0.mk (show Below wr.heap.size wr w2 from below_step (by repeat (first | (with_reducible exact Below.refl _ _) | (with_reducible refine below_alloc ?_ _) | (with_reducible refine below_drew1 ?_) | (with_reducible refine pw_below_drewN ?_ _) | fail)) hb2); have b2 := bcell HB2.out b0; have b3 := bcell HB2.out b1; have x4 := bcell HB2.out x0; have x5 := bcell HB2.out x1; have y4 := bcell HB2.out y0; have y5 := bcell HB2.out y1; clear hb2) | fail)
                go_quiet (fail)
                go_wp2
                go_roundg g1
                case measure => omega
                case rel => exact ⟨k + 1, by rw [HW.out], by have := HK.out; omega, ⟨fun i hi => by rcases Nat.lt_or_ge i k with h | h; exact HO.out i h; obtain rfl : i = k := (by omega); rw [← HXY.out.1, ← HXY.out.2]; exact HEQ.out⟩, ⟨by repeat (first | (with_reducible exact Below.refl _ _) | (with_reducible refine below_alloc ?_ _) | (with_reducible refine below_drew1 ?_) | (with_reducible refine pw_below_drewN ?_ _) | (with_reducible exact below_step HB.out HB2.out))⟩⟩
            · have d1 : (x.ref != y.ref) = true := bne_t e1
              have HF := Aside0.mk (HNE.out (by rw [hceq, decide_eq_false e1]; rfl))
              clear hceq e1
              go_wp2
              go_still_tail 12, (by kernel_rfl)
              go_wp2_with (first | (go_at_call 53; (with_reducible refine (HSW.out _ (by repeat (first | (with_reducible exact Below.refl _ _) | (with_reducible refine below_alloc ?_ _) | (with_reducible refine below_drew1 ?_) | (with_reducible refine pw_below_drewN ?_ _) | fail))).mono ?_); rintro e w2 ⟨rfl, hb2⟩; have HB2 := Aside0.mk (show Below wr.heap.size wr w2 from below_step (by repeat (first | (with_reducible exact Below.refl _ _) | (with_reducible refine below_alloc ?_ _) | (with_reducible refine below_drew1 ?_) | (with_reducible refine pw_below_drewN ?_ _) | fail)) hb2); have b2 := bcell HB2.out b0; have b3 := bcell HB2.out b1; have x4 := bcell HB2.out x0; have y4 := bcell HB2.out y0; clear hb2) | fail)
              go_quiet (fail)
              go_wp2
              go_ret
              exact ⟨ret_b HF.out.symm, by repeat (first | (with_reducible exact Below.refl _ _) | (with_reducible refine below_alloc ?_ _) | (with_reducible refine below_drew1 ?_) | (with_reducible refine pw_below_drewN ?_ _) | (with_reducible exact below_step HBW.out HB2.out))⟩
        · have r1 : decide (k < a.c.length) = false := decide_eq_false hlt
          have r2 : (k < a.c.length) = False := eq_false hlt
          have HF := Aside0.mk (show decide (a = b) = true from decide_eq_true (by
            have h1 := listc_eq HKL.out.2 (fun i hi => HO.out i (by omega))
            have h2 := HKL.out.1
            cases a; cases b; simp only at h1 h2; rw [h1, h2]))
          clear hlt hk
          go_wp2
          go_ret
          exact ⟨ret_b HF.out.symm, HBW.out⟩
    · have q2 : ((a.c.length : Int) != (b.c.length : Int)) = true := bne_t (by omega)
      have q3 : (a.c.length != b.c.length) = true := bne_t hl
      have q4 : (a.c.length = b.c.length) = False := eq_false hl
      have HF := Aside0.mk (show decide (a = b) = false from decide_eq_false (fun e => hl (by rw [e])))
      clear hk hl
      go_wp2
      go_ret
      exact ⟨ret_b HF.out.symm, HB0.out⟩
  · have q1 : (a.keep != b.keep) = true := bne_t hk
    have HF := Aside0.mk (show decide (a = b) = false from decide_eq_false (fun e => hk (by rw [e])))
    clear hk
    go_wp2
    go_ret
    exact ⟨ret_b HF.out.symm, HB0.out⟩
end Go.Proofs.Ytopkoganfnabgaa.H
namespace Go.Proofs.Ytopkoganfnabgaa.H
open Go.RowKit Go.Proofs.YtopkoganfnabgaaW.PrintWords Go.Proofs.YtopkoganfnabgaaW.PrintLast Go.Proofs.YtopkoganfnabgaaW.PrintMore
attribute [local go_sem] max2_int min2_int max_two min_two max_three min_three max_four min_four
set_option linter.unusedVariables false
set_option linter.unusedSimpArgs false
structure TlSt (w W : World) (A : Option Addr) (c : Nat) (h : Hp) (x : It) (D : Option Addr) (l : List It) : Prop where
  b0 : Below w.heap.size w W
  hh : Bx W (w.heap.size + 1) A c h
  hx : Ix W (w.heap.size + 1 + 1) x
  hl : kIt.C W D l.length l
theorem TlSt.step {w W W' : World} {A D : Option Addr} {c : Nat} {h : Hp} {x : It} {l : List It} (s : TlSt w W A c h x D l) (hb : Below W.heap.size W W') : TlSt w W' A c h x D l := ⟨below_step s.b0 hb, s.hh.step hb, s.hx.step hb, Kd.C_below s.hl hb⟩
/-- What a call comes to that makes a heap, a place and an error. -/
abbrev Res3 (W : World) (g : Hp) (p e : Int) : Ending → World → Prop := fun e' w' => ∃ B' cb', e' = .returned (.tuple #[.agg #[.slice B' g.c.length cb', .int .i64 g.keep], .int .i64 p, .int .i64 e]) ∧ g.c.length ≤ cb' ∧ kCl.C w' B' g.c.length g.c ∧ Below W.heap.size W w'
abbrev SameC (g : Hp) : Prop := ∀ (B1 B2 : Option Addr) (c1 c2 : Nat) (W : World), kCl.C W B1 g.c.length g.c → kCl.C W B2 g.c.length g.c → Calls Try.prog 17 #[.agg #[.slice B1 g.c.length c1, .int .i64 g.keep], .agg #[.slice B2 g.c.length c2, .int .i64 g.keep]] W fun e w' => e = .returned (.bool true) ∧ Below W.heap.size W w'
theorem sameC (g : Hp) : SameC g := fun B1 B2 c1 c2 W h1 h2 => by
  have := same05_walk B1 B2 c1 c2 g g W h1 h2
  rw [decide_eq_true rfl] at this
  exact this
set_option maxHeartbeats 8000000 in
set_option maxRecDepth 100000 in
theorem tells_law (A : Option Addr) (c : Nat) (h : Hp) (root : Int) (x : It) (deep : Bool) (D : Option Addr) (dl : Nat) (l : List It) (w : World) (hr : kCl.C w A h.c.length h.c) (hcc : h.c.length ≤ c) (hn : kIt.C w D l.length l) (hdl : l.length ≤ dl) :
    Calls Try.prog 3 #[.agg #[.slice A h.c.length c, .int .i64 h.keep, .int .i64 root, .int .i64 x.k, .int .i64 x.v, .bool deep, .slice D l.length dl]] w fun e w' => e = .returned (.bool true) ∧ Below w.heap.size w w' := by
  obtain ⟨W1, hW1⟩ : ∃ W1, W1 = ((w.alloc (.cells #[.slice A h.c.length c, .int .i64 h.keep, .int .i64 root, .int .i64 x.k, .int .i64 x.v, .bool deep, .slice D l.length dl] 29)).alloc (.cells #[.slice A h.c.length c, .int .i64 h.keep] 24)).alloc (.cells #[.int .i64 x.k, .int .i64 x.v] 26) := ⟨_, rfl⟩
  have S0 := Aside0.mk (show TlSt w W1 A c h x D l by
    rw [hW1]
    exact ⟨below_alloc (below_alloc (below_alloc (Below.refl _ _) _) _) _, ⟨blk_alloc (blk2 w _ _) _, Kd.C_alloc (Kd.C_alloc (Kd.C_alloc hr _) _) _, hcc⟩, ⟨blk3 w _ _ _⟩, Kd.C_alloc (Kd.C_alloc (Kd.C_alloc hn _) _) _⟩)
  have hW1' := Aside0.mk hW1
  obtain ⟨b, hb⟩ := may7_some (h := h) (root := root) 60
  have HMA := Aside0.mk (show ∀ (W : World), kCl.C W A h.c.length h.c → Calls Try.prog 12 #[.agg #[.slice A h.c.length c, .int .i64 h.keep], .int .i64 root, .int .i64 60] W fun e w' => e = .returned (.bool b) ∧ Below W.heap.size W w' from fun W hcl => may07_walk A c h root 60 b W hcl hb)
  have HCC := Aside0.mk (And.intro hcc hdl)
  clear hW1 hr hcc hn hdl
  cases b with
  | false =>
    clear hb
    (go_enter Try.func3, Try.ntmps3; go_upto_region 6 with (fail); rw [← hW1'.out]; go_upto_region 7 with (first | (go_at_call 11; (with_reducible refine (shown9_walk _).mono ?_); rintro e w1 ⟨rfl, hb1⟩; have S1 := Aside0.mk (S0.out.step hb1); have c0 := S1.out.hh.c0; have c1 := S1.out.hh.c1; clear hb1) | fail))
    go_wp2_with (first | (go_at_call 12; (with_reducible refine (HMA.out _ (Kd.C_below S1.out.hh.cl (by repeat (first | (with_reducible exact Below.refl _ _) | (with_reducible refine below_alloc ?_ _) | (with_reducible refine below_drew1 ?_) | (with_reducible refine pw_below_drewN ?_ _) | (with_reducible exact Below.refl _ _))))).mono ?_); rintro e w2 ⟨rfl, hb2⟩; have S2 := Aside0.mk (S1.out.step (below_step (show Below w1.heap.size w1 _ from (by repeat (first | (with_reducible exact Below.refl _ _) | (with_reducible refine below_alloc ?_ _) | (with_reducible refine below_drew1 ?_) | (with_reducible refine pw_below_drewN ?_ _) | (with_reducible exact Below.refl _ _)))) hb2)); have y0 := S2.out.hh.c0; have y1 := S2.out.hh.c1; have x0 := S2.out.hx.c0; have x1 := S2.out.hx.c1; clear hb2) | fail)
    go_ret
    exact ⟨rfl, S2.out.b0⟩
  | true =>
    by_cases h10 : 10 < l.length
    · have q1 : decide ((10 : Int) < (l.length : Int)) = true := decide_eq_true (by omega)
      have q2 : decide (10 < l.length) = true := decide_eq_true h10
      clear hb h10
      (go_enter Try.func3, Try.ntmps3; go_upto_region 6 with (fail); rw [← hW1'.out]; go_upto_region 7 with (first | (go_at_call 11; (with_reducible refine (shown9_walk _).mono ?_); rintro e w1 ⟨rfl, hb1⟩; have S1 := Aside0.mk (S0.out.step hb1); have c0 := S1.out.hh.c0; have c1 := S1.out.hh.c1; clear hb1) | fail))
      go_wp2_with (first | (go_at_call 12; (with_reducible refine (HMA.out _ (Kd.C_below S1.out.hh.cl (by repeat (first | (with_reducible exact Below.refl _ _) | (with_reducible refine below_alloc ?_ _) | (with_reducible refine below_drew1 ?_) | (with_reducible refine pw_below_drewN ?_ _) | (with_reducible exact Below.refl _ _))))).mono ?_); rintro e w2 ⟨rfl, hb2⟩; have S2 := Aside0.mk (S1.out.step (below_step (show Below w1.heap.size w1 _ from (by repeat (first | (with_reducible exact Below.refl _ _) | (with_reducible refine below_alloc ?_ _) | (with_reducible refine below_drew1 ?_) | (with_reducible refine pw_below_drewN ?_ _) | (with_reducible exact Below.refl _ _)))) hb2)); have y0 := S2.out.hh.c0; have y1 := S2.out.hh.c1; have x0 := S2.out.hx.c0; have x1 := S2.out.hx.c1; clear hb2) | fail)
      go_ret
      exact ⟨rfl, S2.out.b0⟩
    have q1 : decide ((10 : Int) < (l.length : Int)) = false := decide_eq_false (by omega)
    have q2 : decide (10 < l.length) = false := decide_eq_false h10
    obtain ⟨o, hl60, d, li, tr⟩ := may7_facts hb
    obtain ⟨a, p, e, hput, _⟩ := put_spec x.k x.v deep o (by decide) (by decide) tr
    obtain ⟨⟨c', r, g⟩, hov⟩ := alloc_some ⟨false, l⟩ (vL l) o
    have hov' : overO h l = some (c', r, g) := hov
    have HP1 := Aside0.mk (show ∀ W : World, kCl.C W A h.c.length h.c → Calls Try.prog 13 #[.agg #[.slice A h.c.length c, .int .i64 h.keep], .int .i64 root, .int .i64 x.k, .int .i64 x.v, .bool deep] W (Res3 W a p e) from fun W hcl => growPut_walk A c h a root x.k x.v p e deep 25 W hcl HCC.out.1 hput)
    have HP2 := Aside0.mk (show ∀ W : World, kCl.C W A h.c.length h.c → Calls Try.prog 14 #[.agg #[.slice A h.c.length c, .int .i64 h.keep], .int .i64 root, .int .i64 x.k, .int .i64 x.v, .bool deep] W (Res3 W a p e) from fun W hcl => refPut_walk A c h a root x.k x.v p e deep 25 W hcl HCC.out.1 hput)
    have HP3 := Aside0.mk (show ∀ W : World, kCl.C W A h.c.length h.c → kIt.C W D l.length l → Calls Try.prog 15 #[.agg #[.slice A h.c.length c, .int .i64 h.keep], .slice D l.length dl] W (Res3 W c' r g) from fun W hcl hnl => growOver_walk A D c dl h c' l r g W hcl HCC.out.1 hnl HCC.out.2 (by omega) hov')
    have HP4 := Aside0.mk (show ∀ W : World, kCl.C W A h.c.length h.c → kIt.C W D l.length l → Calls Try.prog 16 #[.agg #[.slice A h.c.length c, .int .i64 h.keep], .slice D l.length dl] W (Res3 W c' r g) from fun W hcl hnl => refOver_walk A D c dl h c' l r g W hcl HCC.out.1 hnl HCC.out.2 (by omega) hov')
    have HS1 := Aside0.mk (sameC a)
    have HS2 := Aside0.mk (sameC c')
    clear hput hov hov' h10 hl60 tr o hb
    (go_enter Try.func3, Try.ntmps3; go_upto_region 6 with (fail); rw [← hW1'.out]; go_upto_region 7 with (first | (go_at_call 11; (with_reducible refine (shown9_walk _).mono ?_); rintro e w1 ⟨rfl, hb1⟩; have S1 := Aside0.mk (S0.out.step hb1); have c0 := S1.out.hh.c0; have c1 := S1.out.hh.c1; clear hb1) | fail))
    go_upto_region 9 with (first | (go_at_call 12; (with_reducible refine (HMA.out _ (Kd.C_below S1.out.hh.cl (by repeat (first | (with_reducible exact Below.refl _ _) | (with_reducible refine below_alloc ?_ _) | (with_reducible refine below_drew1 ?_) | (with_reducible refine pw_below_drewN ?_ _) | (with_reducible exact Below.refl _ _))))).mono ?_); rintro e w2 ⟨rfl, hb2⟩; have S2 := Aside0.mk (S1.out.step (below_step (show Below w1.heap.size w1 _ from (by repeat (first | (with_reducible exact Below.refl _ _) | (with_reducible refine below_alloc ?_ _) | (with_reducible refine below_drew1 ?_) | (with_reducible refine pw_below_drewN ?_ _) | (with_reducible exact Below.refl _ _)))) hb2)); have y0 := S2.out.hh.c0; have y1 := S2.out.hh.c1; have x0 := S2.out.hx.c0; have x1 := S2.out.hx.c1; clear hb2) | fail)
    clear c0 c1
    go_upto_region 10 with (first | (go_at_call 13; (with_reducible refine (HP1.out _ (Kd.C_below S2.out.hh.cl (by repeat (first | (with_reducible exact Below.refl _ _) | (with_reducible refine below_alloc ?_ _) | (with_reducible refine below_drew1 ?_) | (with_reducible refine pw_below_drewN ?_ _) | (with_reducible exact Below.refl _ _))))).mono ?_); rintro e w3 ⟨E1, k1, rfl, hc3, hr3, hb3⟩; have HR3 := Aside0.mk (And.intro hc3 hr3); have HB3 := Aside0.mk hb3; clear hc3 hr3 hb3) | fail)
    obtain ⟨s3, hs3⟩ : ∃ s, s = w3.heap.size := ⟨_, rfl⟩
    (obtain ⟨W4, hW4⟩ : ∃ W, W = w3.alloc (.cells #[.slice E1 a.c.length k1, .int .i64 a.keep] 24) := ⟨_, rfl⟩; have hb4 : Below w2.heap.size w2 W4 := (by rw [hW4]; exact below_alloc HB3.out _); have BA0 := Aside0.mk (show Bx W4 w3.heap.size E1 k1 a by rw [hW4]; exact Bx.new HR3.out.2 HR3.out.1); rw [← hW4]; clear hW4)
    rw [← hs3] at BA0 ⊢
    have S4 := Aside0.mk (S2.out.step hb4)
    clear hb4 hs3 x0 x1 y0 y1
    have x0 := S4.out.hx.c0
    have x1 := S4.out.hx.c1
    have y0 := S4.out.hh.c0
    have y1 := S4.out.hh.c1
    go_upto_region 11 with (first | (go_at_call 14; (with_reducible refine (HP2.out _ (Kd.C_below S4.out.hh.cl (by repeat (first | (with_reducible exact Below.refl _ _) | (with_reducible refine below_alloc ?_ _) | (with_reducible refine below_drew1 ?_) | (with_reducible refine pw_below_drewN ?_ _) | (with_reducible exact Below.refl _ _))))).mono ?_); rintro e w3 ⟨E2, k2, rfl, hc3, hr3, hb3⟩; have HR3 := Aside0.mk (And.intro hc3 hr3); have HB3 := Aside0.mk hb3; clear hc3 hr3 hb3) | fail)
    obtain ⟨s5, hs5⟩ : ∃ s, s = w3.heap.size := ⟨_, rfl⟩
    (obtain ⟨W6, hW6⟩ : ∃ W, W = w3.alloc (.cells #[.slice E2 a.c.length k2, .int .i64 a.keep] 24) := ⟨_, rfl⟩; have hb4 : Below W4.heap.size W4 W6 := (by rw [hW6]; exact below_alloc HB3.out _); have BB0 := Aside0.mk (show Bx W6 w3.heap.size E2 k2 a by rw [hW6]; exact Bx.new HR3.out.2 HR3.out.1); rw [← hW6]; clear hW6)
    rw [← hs5] at BB0 ⊢
    have S6 := Aside0.mk (S4.out.step hb4)
    have BA1 := Aside0.mk (BA0.out.step hb4)
    clear hb4 hs5 x0 x1 y0 y1
    have y0 := S6.out.hh.c0
    have y1 := S6.out.hh.c1
    go_upto_region 12 with (first | (go_at_call 15; (with_reducible refine (HP3.out _ (Kd.C_below S6.out.hh.cl (by repeat (first | (with_reducible exact Below.refl _ _) | (with_reducible refine below_alloc ?_ _) | (with_reducible refine below_drew1 ?_) | (with_reducible refine pw_below_drewN ?_ _) | (with_reducible exact Below.refl _ _)))) (Kd.C_below S6.out.hl (by repeat (first | (with_reducible exact Below.refl _ _) | (with_reducible refine below_alloc ?_ _) | (with_reducible refine below_drew1 ?_) | (with_reducible refine pw_below_drewN ?_ _) | (with_reducible exact Below.refl _ _))))).mono ?_); rintro e w3 ⟨E3, k3, rfl, hc3, hr3, hb3⟩; have HR3 := Aside0.mk (And.intro hc3 hr3); have HB3 := Aside0.mk hb3; clear hc3 hr3 hb3) | fail)
    obtain ⟨s7, hs7⟩ : ∃ s, s = w3.heap.size := ⟨_, rfl⟩
    (obtain ⟨W8, hW8⟩ : ∃ W, W = w3.alloc (.cells #[.slice E3 c'.c.length k3, .int .i64 c'.keep] 24) := ⟨_, rfl⟩; have hb4 : Below W6.heap.size W6 W8 := (by rw [hW8]; exact below_alloc HB3.out _); have BC0 := Aside0.mk (show Bx W8 w3.heap.size E3 k3 c' by rw [hW8]; exact Bx.new HR3.out.2 HR3.out.1); rw [← hW8]; clear hW8)
    rw [← hs7] at BC0 ⊢
    have S8 := Aside0.mk (S6.out.step hb4)
    have BA2 := Aside0.mk (BA1.out.step hb4)
    have BB1 := Aside0.mk (BB0.out.step hb4)
    clear hb4 hs7 y0 y1
    have y0 := S8.out.hh.c0
    have y1 := S8.out.hh.c1
    go_upto_region 13 with (first | (go_at_call 16; (with_reducible refine (HP4.out _ (Kd.C_below S8.out.hh.cl (by repeat (first | (with_reducible exact Below.refl _ _) | (with_reducible refine below_alloc ?_ _) | (with_reducible refine below_drew1 ?_) | (with_reducible refine pw_below_drewN ?_ _) | (with_reducible exact Below.refl _ _)))) (Kd.C_below S8.out.hl (by repeat (first | (with_reducible exact Below.refl _ _) | (with_reducible refine below_alloc ?_ _) | (with_reducible refine below_drew1 ?_) | (with_reducible refine pw_below_drewN ?_ _) | (with_reducible exact Below.refl _ _))))).mono ?_); rintro e w3 ⟨E4, k4, rfl, hc3, hr3, hb3⟩; have HR3 := Aside0.mk (And.intro hc3 hr3); have HB3 := Aside0.mk hb3; clear hc3 hr3 hb3) | fail)
    obtain ⟨s9, hs9⟩ : ∃ s, s = w3.heap.size := ⟨_, rfl⟩
    (obtain ⟨W12, hW12⟩ : ∃ W, W = w3.alloc (.cells #[.slice E4 c'.c.length k4, .int .i64 c'.keep] 24) := ⟨_, rfl⟩; have hb4 : Below W8.heap.size W8 W12 := (by rw [hW12]; exact below_alloc HB3.out _); have BD := Aside0.mk (show Bx W12 w3.heap.size E4 k4 c' by rw [hW12]; exact Bx.new HR3.out.2 HR3.out.1); rw [← hW12]; clear hW12)
    rw [← hs9] at BD ⊢
    have S12 := Aside0.mk (S8.out.step hb4)
    have BA := Aside0.mk (BA2.out.step hb4)
    have BB := Aside0.mk (BB1.out.step hb4)
    have BC := Aside0.mk (BC0.out.step hb4)
    clear hb4 hs9 y0 y1
    have a0 := BA.out.c0
    have a1 := BA.out.c1
    have b0 := BB.out.c0
    have b1 := BB.out.c1
    go_upto_region 15 with (first | (go_at_call 17; (with_reducible refine (HS1.out _ _ _ _ _ (Kd.C_below BA.out.cl (by repeat (first | (with_reducible exact Below.refl _ _) | (with_reducible refine below_alloc ?_ _) | (with_reducible refine below_drew1 ?_) | (with_reducible refine pw_below_drewN ?_ _) | (with_reducible exact Below.refl _ _)))) (Kd.C_below BB.out.cl (by repeat (first | (with_reducible exact Below.refl _ _) | (with_reducible refine below_alloc ?_ _) | (with_reducible refine below_drew1 ?_) | (with_reducible refine pw_below_drewN ?_ _) | (with_reducible exact Below.refl _ _))))).mono ?_); rintro e w13 ⟨rfl, hb5⟩; have HS3 := Aside0.mk (show Below W12.heap.size W12 _ from below_step (show Below W12.heap.size W12 _ from (by repeat (first | (with_reducible exact Below.refl _ _) | (with_reducible refine below_alloc ?_ _) | (with_reducible refine below_drew1 ?_) | (with_reducible refine pw_below_drewN ?_ _) | (with_reducible exact Below.refl _ _)))) hb5); clear hb5; have u0 := (BC.out.step HS3.out).c0; have u1 := (BC.out.step HS3.out).c1; have u2 := (BD.out.step HS3.out).c0; have u3 := (BD.out.step HS3.out).c1) | (go_at_call 17; (with_reducible refine (HS2.out _ _ _ _ _ (Kd.C_below BC.out.cl (by repeat (first | (with_reducible exact Below.refl _ _) | (with_reducible refine below_alloc ?_ _) | (with_reducible refine below_drew1 ?_) | (with_reducible refine pw_below_drewN ?_ _) | (with_reducible exact HS3.out)))) (Kd.C_below BD.out.cl (by repeat (first | (with_reducible exact Below.refl _ _) | (with_reducible refine below_alloc ?_ _) | (with_reducible refine below_drew1 ?_) | (with_reducible refine pw_below_drewN ?_ _) | (with_reducible exact HS3.out))))).mono ?_); rintro e w14 ⟨rfl, hb5⟩; have HS4 := Aside0.mk (show Below W12.heap.size W12 _ from below_step (show Below W12.heap.size W12 _ from (by repeat (first | (with_reducible exact Below.refl _ _) | (with_reducible refine below_alloc ?_ _) | (with_reducible refine below_drew1 ?_) | (with_reducible refine pw_below_drewN ?_ _) | (with_reducible exact HS3.out)))) hb5); clear hb5) | fail)
    clear a0 a1 b0 b1 u0 u1 u2 u3
    have S14 := Aside0.mk (S12.out.step HS4.out)
    have y0 := S14.out.hh.c0
    have y1 := S14.out.hh.c1
    obtain ⟨b, hb⟩ := fine_some (h := h) (root := root) 60
    have HFI := Aside0.mk (show FineC A c h root 60 b from fineC 60 hb)
    cases b with
    | false =>
      clear hb
      go_wp2_with (first | (go_at_call 18; (with_reducible refine (HFI.out _ _ (one_int _ root) (Kd.C_below S14.out.hh.cl (by repeat (first | (with_reducible exact Below.refl _ _) | (with_reducible refine below_alloc ?_ _) | (with_reducible refine below_drew1 ?_) | (with_reducible refine pw_below_drewN ?_ _) | (with_reducible exact Below.refl _ _))))).mono ?_); rintro e w15 ⟨rfl, hb5⟩; have S15 := Aside0.mk (S14.out.step (below_step (show Below w14.heap.size w14 _ from (by repeat (first | (with_reducible exact Below.refl _ _) | (with_reducible refine below_alloc ?_ _) | (with_reducible refine below_drew1 ?_) | (with_reducible refine pw_below_drewN ?_ _) | (with_reducible exact Below.refl _ _)))) hb5)); clear hb5) | fail)
      go_ret
      exact ⟨rfl, S15.out.b0⟩
    | true =>
      obtain ⟨-, d1, l1, fp⟩ := fine_facts hb
      obtain ⟨t, u, j, -, -, hfill, -⟩ := fill_spec l fp
      have HF1 := Aside0.mk (show ∀ W : World, kCl.C W A h.c.length h.c → kIt.C W D l.length l → Calls Try.prog 19 #[.agg #[.slice A h.c.length c, .int .i64 h.keep], .int .i64 root, .slice D l.length dl] W (Res3 W t u j) from fun W hcl hnl => growFill_walk A D c dl 25 h t root u j l W hcl HCC.out.1 hnl hfill)
      have HF2 := Aside0.mk (show ∀ W : World, kCl.C W A h.c.length h.c → kIt.C W D l.length l → Calls Try.prog 20 #[.agg #[.slice A h.c.length c, .int .i64 h.keep], .int .i64 root, .slice D l.length dl] W (Res3 W t u j) from fun W hcl hnl => refFill_walk A D c dl 25 h t root u j l W hcl HCC.out.1 hnl hfill)
      have HS5 := Aside0.mk (sameC t)
      clear hb fp hfill
      go_upto_region 17 with (first | (go_at_call 18; (with_reducible refine (HFI.out _ _ (one_int _ root) (Kd.C_below S14.out.hh.cl (by repeat (first | (with_reducible exact Below.refl _ _) | (with_reducible refine below_alloc ?_ _) | (with_reducible refine below_drew1 ?_) | (with_reducible refine pw_below_drewN ?_ _) | (with_reducible exact Below.refl _ _))))).mono ?_); rintro e w15 ⟨rfl, hb5⟩; have S15 := Aside0.mk (S14.out.step (below_step (show Below w14.heap.size w14 _ from (by repeat (first | (with_reducible exact Below.refl _ _) | (with_reducible refine below_alloc ?_ _) | (with_reducible refine below_drew1 ?_) | (with_reducible refine pw_below_drewN ?_ _) | (with_reducible exact Below.refl _ _)))) hb5)); clear hb5) | fail)
      clear y0 y1
      have y0 := S15.out.hh.c0
      have y1 := S15.out.hh.c1
      go_upto_region 18 with (first | (go_at_call 19; (with_reducible refine (HF1.out _ (Kd.C_below S15.out.hh.cl (by repeat (first | (with_reducible exact Below.refl _ _) | (with_reducible refine below_alloc ?_ _) | (with_reducible refine below_drew1 ?_) | (with_reducible refine pw_below_drewN ?_ _) | (with_reducible exact Below.refl _ _)))) (Kd.C_below S15.out.hl (by repeat (first | (with_reducible exact Below.refl _ _) | (with_reducible refine below_alloc ?_ _) | (with_reducible refine below_drew1 ?_) | (with_reducible refine pw_below_drewN ?_ _) | (with_reducible exact Below.refl _ _))))).mono ?_); rintro e w3 ⟨E5, k5, rfl, hc3, hr3, hb3⟩; have HR3 := Aside0.mk (And.intro hc3 hr3); have HB3 := Aside0.mk hb3; clear hc3 hr3 hb3) | fail)
      obtain ⟨s16, hs16⟩ : ∃ s, s = w3.heap.size := ⟨_, rfl⟩
      (obtain ⟨W16, hW16⟩ : ∃ W, W = w3.alloc (.cells #[.slice E5 t.c.length k5, .int .i64 t.keep] 24) := ⟨_, rfl⟩; have hb4 : Below w15.heap.size w15 W16 := (by rw [hW16]; exact below_alloc HB3.out _); have BT0 := Aside0.mk (show Bx W16 w3.heap.size E5 k5 t by rw [hW16]; exact Bx.new HR3.out.2 HR3.out.1); rw [← hW16]; clear hW16)
      rw [← hs16] at BT0 ⊢
      have S16 := Aside0.mk (S15.out.step hb4)
      clear hb4 hs16 y0 y1
      have y0 := S16.out.hh.c0
      have y1 := S16.out.hh.c1
      go_upto_region 19 with (first | (go_at_call 20; (with_reducible refine (HF2.out _ (Kd.C_below S16.out.hh.cl (by repeat (first | (with_reducible exact Below.refl _ _) | (with_reducible refine below_alloc ?_ _) | (with_reducible refine below_drew1 ?_) | (with_reducible refine pw_below_drewN ?_ _) | (with_reducible exact Below.refl _ _)))) (Kd.C_below S16.out.hl (by repeat (first | (with_reducible exact Below.refl _ _) | (with_reducible refine below_alloc ?_ _) | (with_reducible refine below_drew1 ?_) | (with_reducible refine pw_below_drewN ?_ _) | (with_reducible exact Below.refl _ _))))).mono ?_); rintro e w3 ⟨E6, k6, rfl, hc3, hr3, hb3⟩; have HR3 := Aside0.mk (And.intro hc3 hr3); have HB3 := Aside0.mk hb3; clear hc3 hr3 hb3) | fail)
      obtain ⟨s18, hs18⟩ : ∃ s, s = w3.heap.size := ⟨_, rfl⟩
      (obtain ⟨W18, hW18⟩ : ∃ W, W = w3.alloc (.cells #[.slice E6 t.c.length k6, .int .i64 t.keep] 24) := ⟨_, rfl⟩; have hb4 : Below W16.heap.size W16 W18 := (by rw [hW18]; exact below_alloc HB3.out _); have BV := Aside0.mk (show Bx W18 w3.heap.size E6 k6 t by rw [hW18]; exact Bx.new HR3.out.2 HR3.out.1); rw [← hW18]; clear hW18)
      rw [← hs18] at BV ⊢
      have S18 := Aside0.mk (S16.out.step hb4)
      have BT := Aside0.mk (BT0.out.step hb4)
      clear hb4 hs18 y0 y1
      have a0 := BT.out.c0
      have a1 := BT.out.c1
      have b0 := BV.out.c0
      have b1 := BV.out.c1
      go_wp2_with (first | (go_at_call 17; (with_reducible refine (HS5.out _ _ _ _ _ (Kd.C_below BT.out.cl (by repeat (first | (with_reducible exact Below.refl _ _) | (with_reducible refine below_alloc ?_ _) | (with_reducible refine below_drew1 ?_) | (with_reducible refine pw_below_drewN ?_ _) | (with_reducible exact Below.refl _ _)))) (Kd.C_below BV.out.cl (by repeat (first | (with_reducible exact Below.refl _ _) | (with_reducible refine below_alloc ?_ _) | (with_reducible refine below_drew1 ?_) | (with_reducible refine pw_below_drewN ?_ _) | (with_reducible exact Below.refl _ _))))).mono ?_); rintro e w18 ⟨rfl, hb5⟩; have HS6 := Aside0.mk (show Below W18.heap.size W18 _ from below_step (show Below W18.heap.size W18 _ from (by repeat (first | (with_reducible exact Below.refl _ _) | (with_reducible refine below_alloc ?_ _) | (with_reducible refine below_drew1 ?_) | (with_reducible refine pw_below_drewN ?_ _) | (with_reducible exact Below.refl _ _)))) hb5); clear hb5) | fail)
      go_ret
      exact ⟨rfl, below_step S18.out.b0 HS6.out⟩
end Go.Proofs.Ytopkoganfnabgaa.H
