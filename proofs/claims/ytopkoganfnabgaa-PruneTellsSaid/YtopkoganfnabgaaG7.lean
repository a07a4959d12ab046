import Derived.Test.YtopkoganfnabgaaG6
import Derived.Test.YtopkoganfnabgaaG1
import Derived.Test.YtopkoganfnabgaaG2
namespace Go.Proofs.Ytopkoganfnabgaa.H
theorem Gd.row {rows : List (List It)} (g : Gd rows.flatten) {r : List It} (hr : r ∈ rows) (hne : r ≠ []) : Gd r :=
  ⟨hne, g.up.sublist (List.sublist_flatten_of_mem hr), fun x hx => g.fit x (List.mem_flatten.mpr ⟨r, hr, hx⟩)⟩
theorem ky_trees {h : Hp} {d : Nat} {it : List It} {ls : List (List It)} (f : F2 (fun x li => x.k = ky li ∧ T h d x.v li) it ls) (hne : it ≠ []) : ky it = ky ls.flatten := by
  cases f with
  | nil => exact absurd rfl hne
  | cons r _ => rw [List.flatten_cons, ky_append r.2.gd.ne]; exact r.1
theorem fits_inB {h : Hp} {B : Int} (o : Ok h B) {p : Int} (e : inB h p = true) : fitsB p = true := by
  have := inB_iff.mp e; have := o.l2; exact fitsB_iff.mpr ⟨by omega, by omega⟩
/-- What a part of a put comes to. -/
structure Made (h g : Hp) (made : List It) (ls : List (List It)) (d : Nat) (B : Int) : Prop where
  ok : Ok g B
  ext : Ext h g
  tr : F2 (fun y li => y.k = ky li ∧ T g d y.v li) made ls
  new : ∀ y ∈ made, usedB h y.v = false
  hts : ∀ q, usedB g q = true → usedB h q = true ∨ ∃ d' l', d' ≤ d ∧ T g d' q l'
/-- Rows of leaves are laid. -/
theorem lay_leaf {h : Hp} {B : Int} (o : Ok h B) (hB1 : 1 ≤ B) (hB : B + 8 ≤ 1000000000000000) {rows : List (List It)} (hr : ∀ r ∈ rows, r ≠ [] ∧ r.length ≤ 4) (g : Gd rows.flatten) (h2 : rows.length ≤ 2) (hf : rows.length ≤ freeN h) :
    ∃ h' made, layO h true [] rows = some (h', made) ∧ Made h h' made rows 1 (B + 8) ∧ made.length = rows.length ∧ freeN h' + rows.length = freeN h ∧ (∀ R : Int → Int, Ct h R → Ct h' (fun q => R q + (cntV made q : Int))) := by
  obtain ⟨h', made, e, o2, x2, f2, fr, bk, ct⟩ := lay_spec true [] rows h B o hB1 (by omega) (fun r hr' => ⟨nodeRight_iff.mpr ⟨(hr r hr').2, g.row hr' (hr r hr').1⟩, leadsB_iff.mpr (fun h => by cases h)⟩) hf
  have ht : F2 (fun y li => y.k = ky li ∧ T h' 1 y.v li) made rows := f2.imp fun a b _ hb r => ⟨r.1, r.2.2.1, g.row hb (hr b hb).1, .inl ⟨by rw [r.2.1], rfl, by rw [r.2.1]⟩⟩
  refine ⟨h', made, e, ⟨o2.wide (by omega), x2, ht, fun y hy => ?_, fun q hq => ?_⟩, f2.len, fr, fun R hR => ct R _ hR fun q hq => ?_⟩
  · obtain ⟨b, _, r⟩ := f2.mem_l hy; exact r.2.2.2
  · rcases bk q hq with hu | ⟨y, hy, rfl⟩
    · exact .inl hu
    · obtain ⟨b, _, r⟩ := ht.mem_l hy; exact .inr ⟨1, b, Nat.le_refl _, r.2⟩
  · have : hpN ⟨true, rows.flatten⟩ [] q = 0 := rfl
    rw [this]; simp
/-- Rows of trees are laid. -/
theorem lay_inner {h : Hp} {B : Int} {d : Nat} (o : Ok h B) (hB1 : 1 ≤ B) (hB : B + 8 ≤ 1000000000000000) (held : List Int) {rows : List (List It)} {ls : List (List It)} (hr : ∀ r ∈ rows, r ≠ [] ∧ r.length ≤ 4) (h1 : 1 ≤ rows.length) (h2 : rows.length ≤ 2) (hf : rows.length ≤ freeN h) (f : F2 (fun x li => x.k = ky li ∧ T h d x.v li) rows.flatten ls) (up : ls.flatten.Pairwise fun a b => a.k < b.k) :
    ∃ h' made ls', layO h false held rows = some (h', made) ∧ Made h h' made ls' (d + 1) (B + 8) ∧ ls'.flatten = ls.flatten ∧ made.length = rows.length ∧ freeN h' + rows.length = freeN h ∧ (∀ R R' : Int → Int, Ct h R → (∀ q, inB h q = true → R' q + (hpN ⟨false, rows.flatten⟩ held q : Int) = R q + (cntV made q : Int)) → Ct h' R') := by
  have hne : rows.flatten ≠ [] := by
    cases rows with
    | nil => simp at h1
    | cons r rows => rw [List.flatten_cons]; intro e; exact (hr r List.mem_cons_self).1 (List.append_eq_nil_iff.mp e).1
  have hu : ∀ x ∈ rows.flatten, usedB h x.v = true := fun x hx => by obtain ⟨b, _, _, t⟩ := f.mem_l hx; exact t.used
  obtain ⟨g1, g2⟩ := Gd.of_trees f hne up (fun x hx => fits_inB o (used_iff.mp (hu x hx)).1)
  obtain ⟨h', made, e, o2, x2, f2, fr, bk, ct⟩ := lay_spec false held rows h B o hB1 (by omega) (fun r hr' => ⟨nodeRight_iff.mpr ⟨(hr r hr').2, g1.row hr' (hr r hr').1⟩, leadsB_iff.mpr (fun _ x hx => hu x (List.mem_flatten.mpr ⟨r, hr', hx⟩))⟩) hf
  obtain ⟨ms, rfl, fm⟩ := F2.rows rows f
  have fm' : F2 (fun r (li : List It) => ky r = ky li ∧ Gd li ∧ ∃ ls, li = ls.flatten ∧ F2 (fun x li => x.k = ky li ∧ T h' d x.v li) r ls) rows (ms.map List.flatten) := by
    refine fm.map_r fun a b ha hb r => ⟨ky_trees r (hr a ha).1, ?_, b, rfl, r.imp fun x y _ _ t => ⟨t.1, t.2.ext x2⟩⟩
    refine (Gd.of_trees r (hr a ha).1 (up.sublist ?_) (fun x hx => (g1.row ha (hr a ha).1).fit x hx |>.2)).2
    rw [← flatten_map_flatten]
    exact List.sublist_flatten_of_mem (List.mem_map.mpr ⟨b, hb, rfl⟩)
  have ht : F2 (fun y li => y.k = ky li ∧ T h' (d + 1) y.v li) made (ms.map List.flatten) := by
    refine f2.comp (fun y r li _ _ a b => ?_) fm'
    obtain ⟨b1, b2, b3⟩ := b
    refine ⟨a.1.trans b1, a.2.2.1, b2, .inr ?_⟩
    rw [a.2.1]
    exact ⟨rfl, b3⟩
  refine ⟨h', made, ms.map List.flatten, e, ⟨o2.wide (by omega), x2, ht, fun y hy => ?_, fun q hq => ?_⟩, flatten_map_flatten ms, f2.len, fr, ct⟩
  · obtain ⟨b, _, r⟩ := f2.mem_l hy; exact r.2.2.2
  · rcases bk q hq with hu | ⟨y, hy, rfl⟩
    · exact .inl hu
    · obtain ⟨b, _, r⟩ := ht.mem_l hy; exact .inr ⟨d + 1, b, Nat.le_refl _, r.2⟩
theorem itAt_split {l : List It} {i : Nat} (h : i < l.length) : l = l.take i ++ itAt l i :: l.drop (i + 1) := by
  rw [itAt_get h, ← List.drop_eq_getElem_cons h, List.take_append_drop]
theorem new_cnt {h : Hp} {made it : List It} (hn : ∀ y ∈ made, usedB h y.v = false) (hu : ∀ x ∈ it, usedB h x.v = true) {q : Int} (hq : inL (vL made) q = true) : cntV it q = 0 := by
  rw [cntV_zero]
  intro x hx e
  rw [inL_iff] at hq
  unfold vL at hq
  obtain ⟨y, hy, rfl⟩ := List.mem_map.mp hq
  have := hu x hx
  rw [e, hn y hy] at this; cases this
theorem anewO_leaf {f : Nat} {h : Hp} {p : Int} {x : It} {i : Nat} {is : Bool} {l : List It} {rows : List (List It)} {r : Hp × List It} (e0 : inB h p = true) (hl : (clAt h p).n.leaf = true) (e1 : atO true (clAt h p).n.it x.k = some (i, is)) (e2 : withO (clAt h p).n.it i (if is = true then 1 else 0) [x] = some l) (e3 : splitO l = some rows) (e4 : layO h true [] rows = some r) : anewO (f + 1) h p x = some r := by
  unfold anewO
  simp only [if_pos e0, hl, e1, e2, e3, e4, Option.bind_eq_bind, Option.bind_some, if_true]
theorem anewO_node {f : Nat} {h g : Hp} {p : Int} {x : It} {i : Nat} {is : Bool} {l more : List It} {rows : List (List It)} {r : Hp × List It} (e0 : inB h p = true) (hl : (clAt h p).n.leaf = false) (e1 : atO false (clAt h p).n.it x.k = some (i, is)) (hi : i < (clAt h p).n.it.length) (ea : anewO f h (itAt (clAt h p).n.it i).v x = some (g, more)) (e2 : withO (clAt h p).n.it i 1 more = some l) (e3 : splitO l = some rows) (e4 : layO g false (vL more) rows = some r) : anewO (f + 1) h p x = some r := by
  unfold anewO
  simp only [if_pos e0, hl, e1, ea, e2, e3, e4, Option.bind_eq_bind, Option.bind_some, if_pos hi, Bool.false_eq_true, if_false]
/-- A node made anew. -/
theorem anew_spec : ∀ (d f : Nat) (h : Hp) (p : Int) (l : List It) (x : It) (B : Int), d ≤ f → Ok h B → 1 ≤ B → B + 8 * d ≤ 1000000000000000 → T h d p l → fitsB x.k = true ∧ fitsB x.v = true → 2 * d ≤ freeN h →
    ∃ g made ls, anewO f h p x = some (g, made) ∧ Made h g made ls d (B + 8 * d) ∧ ls.flatten = ins l x ∧ 1 ≤ made.length ∧ made.length ≤ 2 ∧ freeN h ≤ freeN g + 2 * d ∧ freeN g + d ≤ freeN h ∧ (∀ R : Int → Int, Ct h R → Ct g (fun q => R q + (cntV made q : Int)))
  | 0, _, _, _, _, _, _, _, _, _, _, t, _, _ => t.elim
  | d + 1, 0, _, _, _, _, _, hd, _, _, _, _, _, _ => by omega
  | d + 1, f + 1, h, p, l, x, B, hd, o, hB1, hB, t, hx, hf => by
    have u := t.used
    obtain ⟨n4, ng⟩ := nodeRight_iff.mp (o.right p u)
    cases hl : (clAt h p).n.leaf with
    | true =>
      obtain ⟨h1, rfl⟩ := t.leaf hl
      obtain rfl : d = 0 := by omega
      obtain ⟨i, is, e1, e2, e3⟩ := at_leaf (x := x) ng n4
      have hlen := ins_len (clAt h p).n.it x
      have hgi := ins_gd ng.up ng.fit hx
      obtain ⟨rows, r1, r2, r3, r4, r5⟩ := split_spec (l := ins (clAt h p).n.it x) (List.length_pos_iff.mpr hgi.ne) (by omega)
      obtain ⟨g, made, l1, l2, l3, l4, l5⟩ := lay_leaf o hB1 (by omega) r3 (by rw [r2]; exact hgi) r5 (by omega)
      refine ⟨g, made, rows, anewO_leaf (used_iff.mp u).1 hl e1 (by unfold withO; rw [if_pos ⟨e2, by omega, by simp⟩, e3]) r1 l1, ⟨l2.ok.wide (by omega), l2.ext, l2.tr, l2.new, l2.hts⟩, r2, by omega, by omega, by omega, by omega, l5⟩
    | false =>
      obtain ⟨d', ed, ls, rfl, ff⟩ := t.inner hl
      obtain rfl : d = d' := by omega
      obtain ⟨i, is, e1, e2, e3, e4⟩ := at_inner (key := x.k) ng n4
      have hsp := itAt_split e2
      have hnode := fun (g : Hp) (more l : List It) (rows : List (List It)) (r : Hp × List It) => anewO_node (f := f) (g := g) (more := more) (l := l) (rows := rows) (r := r) (used_iff.mp u).1 hl e1 e2
      generalize (clAt h p).n.it = it at n4 ng e1 e2 e3 e4 ff hsp hnode
      have hu : ∀ y ∈ it, usedB h y.v = true := fun y hy => by obtain ⟨b, _, _, t⟩ := ff.mem_l hy; exact t.used
      have ff2 := ff
      rw [hsp] at ff2
      obtain ⟨la, lb', rfl, fa, fb⟩ := F2.split (m := ls) _ _ ff2
      cases fb with
      | cons rm fb =>
      rename_i lm lb
      obtain ⟨k1, tm⟩ := rm
      obtain ⟨g1, more, lsm, a1, a2, a3, a4, a5, a6, a7, a8⟩ := anew_spec d f h (itAt it i).v lm x B (by omega) o hB1 (by omega) tm hx (by omega)
      have tg := t.gd.up
      rw [List.flatten_append, List.flatten_cons, ← List.append_assoc] at tg
      rw [List.pairwise_append, List.pairwise_append] at tg
      obtain ⟨⟨tg1, tg2, tg3⟩, tg4, tg5⟩ := tg
      have hla : ∀ y ∈ la.flatten, y.k < x.k := by
        intro y hy
        obtain ⟨z, hz, ez⟩ := ky_mem tm.gd.ne
        have h1 := tg3 y hy z hz
        have h0 : 0 < i := by
          rcases Nat.eq_zero_or_pos i with h0 | h0
          · rw [h0] at fa; cases fa; cases hy
          · exact h0
        have := e4 h0
        omega
      have hlb : ∀ y ∈ lb.flatten, x.k < y.k := by
        intro y hy
        obtain ⟨li, hli, hyl⟩ := List.mem_flatten.mp hy
        obtain ⟨a, ha, ka, ta⟩ := fb.mem_r hli
        have h1 := e3 a ha
        have h2 := ky_le ta.gd.up hyl
        omega
      have hins : (la ++ lsm ++ lb).flatten = ins (la ++ lm :: lb).flatten x := by
        rw [List.flatten_append, List.flatten_append, a3, List.flatten_append, List.flatten_cons, ← List.append_assoc, ins_mid hla hlb]
      have fnew : F2 (fun x li => x.k = ky li ∧ T g1 d x.v li) (it.take i ++ more ++ it.drop (i + 1)) (la ++ lsm ++ lb) := ((fa.imp fun a b _ _ r => ⟨r.1, r.2.ext a2.ext⟩).append a2.tr).append (fb.imp fun a b _ _ r => ⟨r.1, r.2.ext a2.ext⟩)
      have hgi := ins_gd t.gd.up t.gd.fit hx
      have hlen : (it.take i ++ more ++ it.drop (i + 1)).length = it.length - 1 + more.length := by simp only [List.length_append, List.length_take, List.length_drop]; omega
      obtain ⟨rows, r1, r2, r3, r4, r5⟩ := split_spec (l := it.take i ++ more ++ it.drop (i + 1)) (by omega) (by omega)
      obtain ⟨g, made, ls', l1, l2, l3, l4, l5, l6⟩ := lay_inner a2.ok (by omega) (by omega) (vL more) r3 r4 r5 (by omega) (by rw [r2]; exact fnew) (by rw [hins]; exact hgi.up)
      refine ⟨g, made, ls', hnode g1 more _ rows (g, made) a1 (by unfold withO; rw [if_pos ⟨by omega, by omega, by omega⟩]) r1 l1, ⟨l2.ok.wide (by omega), a2.ext.trans l2.ext, l2.tr, fun y hy => ?_, fun q hq => ?_⟩, l3.trans hins, by omega, by omega, by omega, by omega, fun R hR => l6 _ _ (a8 R hR) fun q hq => ?_⟩
      · have := l2.new y hy
        cases hu : usedB h y.v with
        | false => rfl
        | true => rw [(a2.ext.use _ hu).1] at this; cases this
      · rcases l2.hts q hq with hu | hu
        · rcases a2.hts q hu with hu | ⟨d', l', h1, h2⟩
          · exact .inl hu
          · exact .inr ⟨d', l', by omega, h2.ext l2.ext⟩
        · exact .inr hu
      · rw [r2]
        have : hpN ⟨false, it.take i ++ more ++ it.drop (i + 1)⟩ (vL more) q = cntV more q := by
          unfold hpN
          rw [if_neg (by simp)]
          split
          · rename_i hq2
            show cntV (it.take i ++ more ++ it.drop (i + 1)) q = _
            rw [cntV_append, cntV_append, new_cnt a2.new (fun x hx => hu x (List.mem_of_mem_take hx)) hq2, new_cnt a2.new (fun x hx => hu x (List.mem_of_mem_drop hx)) hq2]
            omega
          · rename_i hq2
            exact (inL_vL.mp (by simpa using hq2)).symm
        rw [this]
        omega
end Go.Proofs.Ytopkoganfnabgaa.H
namespace Go.Proofs.Ytopkoganfnabgaa.H
/-- What becomes of a heap when Refs go. -/
structure Le (g g' : Hp) : Prop where
  len : g'.c.length = g.c.length
  keep : g'.keep = g.keep
  use : ∀ q, usedB g' q = true → usedB g q = true ∧ (clAt g' q).n = (clAt g q).n
  free : ∀ q, inB g q = true → freeB (clAt g' q) = freeB (clAt g q)
theorem Le.refl (h : Hp) : Le h h := ⟨rfl, rfl, fun _ e => ⟨e, rfl⟩, fun _ _ => rfl⟩
theorem Le.trans {a b c : Hp} (x : Le a b) (y : Le b c) : Le a c := ⟨y.len.trans x.len, y.keep.trans x.keep, fun q e => ⟨(x.use q (y.use q e).1).1, (y.use q e).2.trans (x.use q (y.use q e).1).2⟩, fun q hq => (y.free q (by rw [inB_len x.len]; exact hq)).trans (x.free q hq)⟩
/-- So many nodes down there are cells, used ones or not. -/
def Wk (h : Hp) : Nat → Int → Prop
  | 0, _ => False
  | d + 1, p => inB h p = true ∧ (usedB h p = false ∨ (clAt h p).n.leaf = true ∨ ∀ x ∈ (clAt h p).n.it, Wk h d x.v)
theorem Wk.le {g g' : Hp} (x : Le g g') : ∀ {d : Nat} {p : Int}, Wk g d p → Wk g' d p
  | 0, _, t => t.elim
  | d + 1, p, ⟨a, b⟩ => by
    refine ⟨by rw [inB_len x.len]; exact a, ?_⟩
    cases hu : usedB g' p with
    | false => exact .inl rfl
    | true =>
      obtain ⟨u, e⟩ := x.use p hu
      rw [e]
      rcases b with b | b | b
      · rw [u] at b; cases b
      · exact .inr (.inl b)
      · exact .inr (.inr fun y hy => Wk.le x (b y hy))
theorem T.wk {h : Hp} : ∀ {d : Nat} {p : Int} {l : List It}, T h d p l → Wk h d p
  | 0, _, _, t => t.elim
  | d + 1, p, l, t => by
    refine ⟨(used_iff.mp t.used).1, .inr ?_⟩
    cases hl : (clAt h p).n.leaf with
    | true => exact .inl rfl
    | false =>
      obtain ⟨e, ed, ls, rfl, f⟩ := t.inner hl
      obtain rfl : d = e := by omega
      exact .inr fun y hy => by obtain ⟨li, _, _, t⟩ := f.mem_l hy; exact T.wk t
/-- A cell that is let go, or has a Ref less. -/
theorem set_ok {g : Hp} {B : Int} {p : Int} {c : Cl} (o : Ok g B) (hu : usedB g p = true) (hc : (c.ref = 0 ∧ c.n = zNd ∧ c.pin = true) ∨ (0 < c.ref ∧ c.ref ≤ (clAt g p).ref ∧ c.pin = false ∧ c.n = (clAt g p).n)) : Ok (setH g p c) B ∧ Le g (setH g p c) := by
  obtain ⟨hp, hr⟩ := used_iff.mp hu
  have hat : ∀ q, inB g q = true → clAt (setH g p c) q = if q = p then c else clAt g q := fun q hq => clAt_setH hp hq
  have huse : ∀ q, usedB (setH g p c) q = true → usedB g q = true ∧ (clAt (setH g p c) q).n = (clAt g q).n := by
    intro q hq
    rw [used_iff, inB_setH] at hq
    rw [hat q hq.1] at hq ⊢
    by_cases e : q = p
    · subst e
      rw [if_pos rfl] at hq ⊢
      refine ⟨hu, ?_⟩
      rcases hc with hc | hc
      · omega
      · exact hc.2.2.2
    · rw [if_neg e] at hq ⊢
      exact ⟨used_iff.mpr hq, rfl⟩
  refine ⟨⟨by rw [len_setH]; exact o.l1, by rw [len_setH]; exact o.l2, o.k1, by rw [len_setH]; exact o.k2, fun q hq => ?_, fun q hq => ?_, fun q hq h0 => ?_, fun q hq => ?_, fun q hq => ?_, fun q hq hl x hx => ?_⟩, ⟨len_setH, rfl, huse, fun q hq => ?_⟩⟩
  · rw [inB_setH] at hq
    rw [hat q hq]
    split
    · rcases hc with hc | hc <;> omega
    · exact o.pos q hq
  · rw [inB_setH] at hq
    rw [hat q hq]
    have := o.le p hp
    split
    · rcases hc with hc | hc <;> omega
    · exact o.le q hq
  · rw [inB_setH] at hq
    rw [hat q hq] at h0 ⊢
    split at h0
    · rename_i e
      rw [if_pos e]
      rcases hc with hc | hc
      · exact hc.2.1
      · omega
    · rename_i e
      rw [if_neg e]
      exact o.zero q hq h0
  · have hb := used_iff.mp hq
    rw [inB_setH] at hb
    rw [hat q hb.1] at hb ⊢
    split
    · rename_i e
      rw [if_pos e] at hb
      rcases hc with hc | hc
      · omega
      · exact hc.2.2.1
    · rename_i e
      rw [if_neg e] at hb
      exact o.pin q (used_iff.mpr hb)
  · rw [(huse q hq).2]; exact o.right q (huse q hq).1
  · rw [(huse q hq).2] at hl hx
    rw [inB_setH]
    exact o.plc q (huse q hq).1 hl x hx
  · rw [hat q hq]
    split
    · rename_i e
      subst e
      have h1 : freeB (clAt g q) = false := by rw [← Bool.not_eq_true, freeB_iff]; omega
      rw [h1, ← Bool.not_eq_true, freeB_iff]
      rcases hc with hc | hc
      · rw [hc.2.2]; simp
      · omega
    · rfl
theorem tot_set {g : Hp} {B : Int} {p : Int} {c : Cl} (o : Ok g B) (o' : Ok (setH g p c) B) (hp : inB g p = true) (q : Int) : tot (setH g p c) q + tl (clAt g p).n q = tot g q + tl c.n q := by
  obtain ⟨k, rfl, hk⟩ := inB_nat' hp
  rw [tot_tl o', tot_tl o, len_setH]
  have := sumN_point (f := fun i : Nat => tl (clAt (setH g (k : Int) c) (i : Int)).n q) (g := fun i : Nat => tl (clAt g (i : Int)).n q) hk (fun i hi hne => by show tl _ q = tl _ q; rw [clAt_setH hp (inB_iff.mpr (by omega)), if_neg (by omega)])
  simp only [clAt_setH hp hp, if_pos] at this
  exact this
theorem loose_spec : ∀ (f d : Nat) (g : Hp) (p : Int) (B : Int), d ≤ f → Ok g B → B ≤ 1000000000000 → Wk g d p →
    ∃ g', looseO f g p = some g' ∧ Ok g' B ∧ Le g g' ∧ (∀ R : Int → Int, Ct g R → (∀ q, 0 ≤ R q) → 1 ≤ R p → Ct g' (fun q => R q - if q = p then 1 else 0))
  | _, 0, _, _, _, _, _, _, w => w.elim
  | 0, d + 1, _, _, _, hd, _, _, _ => by omega
  | f + 1, d + 1, g, p, B, hd, o, hB, ⟨w1, w2⟩ => by
    unfold looseO
    have h0 := o.pos p w1
    have h1 := o.le p w1
    by_cases hz : (clAt g p).ref = 0
    · rw [if_pos ⟨w1, h0, by omega, .inl hz⟩, if_pos hz]
      refine ⟨g, rfl, o, Le.refl g, fun R hR hR0 hRp => ?_⟩
      have := hR p w1
      omega
    · have hu : usedB g p = true := used_iff.mpr ⟨w1, by omega⟩
      rw [if_pos ⟨w1, h0, by omega, .inr (o.pin p hu)⟩, if_neg hz]
      by_cases h2 : 1 < (clAt g p).ref
      · rw [if_pos h2]
        obtain ⟨o', l'⟩ := set_ok (c := ⟨(clAt g p).ref - 1, false, (clAt g p).n⟩) o hu (.inr ⟨by show 0 < (clAt g p).ref - 1; omega, by show (clAt g p).ref - 1 ≤ _; omega, rfl, rfl⟩)
        refine ⟨_, rfl, o', l', fun R hR hR0 hRp q hq => ?_⟩
        rw [inB_setH] at hq
        have h3 := hR q hq
        have h4 := tot_set o o' w1 q
        rw [clAt_setH w1 hq]
        have h4' : tot (setH g p ⟨(clAt g p).ref - 1, false, (clAt g p).n⟩) q = tot g q := by have : tl (Cl.n ⟨(clAt g p).ref - 1, false, (clAt g p).n⟩) q = tl (clAt g p).n q := rfl; omega
        rw [h4']
        (try dsimp only)
        by_cases e : q = p
        · subst e; rw [if_pos rfl, if_pos rfl]; show (clAt g q).ref - 1 = _; omega
        · rw [if_neg e, if_neg e]; omega
      · rw [if_neg h2]
        obtain ⟨o', l'⟩ := set_ok (c := ⟨0, true, zNd⟩) o hu (.inl ⟨rfl, rfl, rfl⟩)
        have hct : ∀ R : Int → Int, Ct g R → (∀ q, 0 ≤ R q) → 1 ≤ R p → Ct (setH g p ⟨0, true, zNd⟩) (fun q => R q - (if q = p then 1 else 0) + (tl (clAt g p).n q : Int)) := by
          intro R hR hR0 hRp q hq
          rw [inB_setH] at hq
          have h3 := hR q hq
          have h4 := tot_set o o' w1 q
          have hz0 : tl (Cl.n ⟨0, true, zNd⟩) q = 0 := rfl
          rw [clAt_setH w1 hq]
          (try dsimp only)
          by_cases e : q = p
          · subst e; rw [if_pos rfl, if_pos rfl]; show (0 : Int) = _; omega
          · rw [if_neg e, if_neg e]; omega
        cases hl : (clAt g p).n.leaf with
        | true =>
          rw [if_pos rfl]
          refine ⟨_, rfl, o', l', fun R hR hR0 hRp q hq => ?_⟩
          have := hct R hR hR0 hRp q hq
          have h5 : tl (clAt g p).n q = 0 := by unfold tl; rw [hl, if_pos rfl]
          (try dsimp only at this); (try dsimp only)
          rw [h5] at this
          omega
        | false =>
          rw [if_neg (by simp)]
          have hw : ∀ x ∈ (clAt g p).n.it, Wk (setH g p ⟨0, true, zNd⟩) d x.v := by
            rcases w2 with w2 | w2 | w2
            · rw [hu] at w2; cases w2
            · rw [hl] at w2; cases w2
            · exact fun x hx => (w2 x hx).le l'
          have key : ∀ (it : List It) (g1 : Hp), Ok g1 B → (∀ x ∈ it, Wk g1 d x.v) → ∃ g', it.foldlM (fun h x => looseO f h x.v) g1 = some g' ∧ Ok g' B ∧ Le g1 g' ∧ (∀ R : Int → Int, Ct g1 R → (∀ q, 0 ≤ R q) → (∀ q, (cntV it q : Int) ≤ R q) → Ct g' (fun q => R q - (cntV it q : Int))) := by
            intro it
            induction it with
            | nil => intro g1 o1 _; exact ⟨g1, rfl, o1, Le.refl g1, fun R hR _ _ q hq => by have := hR q hq; dsimp only; rw [cntV_nil]; omega⟩
            | cons x it ih =>
              intro g1 o1 hw1
              obtain ⟨g2, e2, o2, l2, c2⟩ := loose_spec f d g1 x.v B (by omega) o1 hB (hw1 x List.mem_cons_self)
              obtain ⟨g3, e3, o3, l3, c3⟩ := ih g2 o2 (fun y hy => (hw1 y (List.mem_cons_of_mem _ hy)).le l2)
              refine ⟨g3, ?_, o3, l2.trans l3, fun R hR hR0 hRx q hq => ?_⟩
              · rw [List.foldlM_cons, e2]; exact e3
              · have hx1 := hRx x.v
                rw [cntV_cons, if_pos rfl] at hx1
                have := c3 _ (c2 R hR hR0 (by omega)) (fun q => by
                  have := hR0 q
                  (try dsimp only)
                  by_cases e : q = x.v
                  · rw [if_pos e, e]; omega
                  · rw [if_neg e]; omega) (fun q => by
                  have := hRx q
                  rw [cntV_cons] at this
                  (try dsimp only)
                  by_cases e : q = x.v
                  · rw [if_pos e.symm] at this; rw [if_pos e]; omega
                  · rw [if_neg (fun h => e h.symm)] at this; rw [if_neg e]; omega) q hq
                (try dsimp only at this); (try dsimp only)
                rw [cntV_cons]
                by_cases e : q = x.v
                · rw [if_pos e] at this; rw [if_pos e.symm]; omega
                · rw [if_neg e] at this; rw [if_neg (fun h => e h.symm)]; omega
          obtain ⟨g', e1, o1, l1, c1⟩ := key _ _ o' hw
          refine ⟨g', e1, o1, l'.trans l1, fun R hR hR0 hRp q hq => ?_⟩
          have htl : ∀ q, tl (clAt g p).n q = cntV (clAt g p).n.it q := fun q => by unfold tl; rw [hl, if_neg (by simp)]
          have hge : ∀ q, 0 ≤ R q - (if q = p then 1 else 0) := fun q => by
            have := hR0 q
            by_cases e : q = p
            · rw [if_pos e, e]; omega
            · rw [if_neg e]; omega
          have := c1 _ (hct R hR hR0 hRp) (fun q => by have := hge q; (try dsimp only); omega) (fun q => by have := hge q; (try dsimp only); rw [htl]; omega) q hq
          (try dsimp only at this); (try dsimp only)
          rw [htl] at this
          omega
end Go.Proofs.Ytopkoganfnabgaa.H
namespace Go.Proofs.Ytopkoganfnabgaa.H
def Hts (h : Hp) : Prop := ∀ q, usedB h q = true → ∃ d l, d ≤ 20 ∧ T h d q l
/-- A root's tree, or none. -/
def Rt (h : Hp) (root : Int) (d : Nat) (l : List It) : Prop := (root = -1 ∧ d = 0 ∧ l = []) ∨ (d ≤ 20 ∧ T h d root l)
def one (p q : Int) : Int := if q = p then 1 else 0
theorem one_nonneg (p q : Int) : 0 ≤ one p q := by unfold one; split <;> omega
theorem one_self (p : Int) : one p p = 1 := by unfold one; rw [if_pos rfl]
theorem cntI_one (p q : Int) : ((cntI [p] q : Nat) : Int) = one p q := by
  unfold cntI one
  rw [List.filter_cons]
  by_cases e : p = q
  · rw [if_pos (decide_eq_true e), if_pos e.symm]; rfl
  · rw [if_neg (by simpa using e), if_neg (fun h => e h.symm)]; rfl
theorem Ct.congr {h : Hp} {R S : Int → Int} (c : Ct h R) (e : ∀ q, inB h q = true → R q = S q) : Ct h S := fun q hq => by rw [c q hq, e q hq]
/-- What a tree's node tells is a tree, lower by one. -/
theorem T.child {h : Hp} {d : Nat} {p q : Int} {l : List It} (t : T h d p l) (e : 0 < tl (clAt h p).n q) : ∃ d' l', d = d' + 1 ∧ T h d' q l' := by
  unfold tl at e
  split at e
  · omega
  · rename_i hl
    obtain ⟨d', ed, ls, rfl, f⟩ := t.inner (by simpa using hl)
    have : ¬ cntV (clAt h p).n.it q = 0 := by omega
    rw [cntV_zero] at this
    have : ∃ x ∈ (clAt h p).n.it, x.v = q := Classical.byContradiction fun hn => this fun x hx hxq => hn ⟨x, hx, hxq⟩
    obtain ⟨x, hx, rfl⟩ := this
    obtain ⟨li, _, _, t'⟩ := f.mem_l hx
    exact ⟨d', li, ed, t'⟩
theorem tells_tot {h : Hp} {B : Int} (o : Ok h B) {p : Int} (hp : inB h p = true) (q : Int) : tl (clAt h p).n q ≤ tot h q := by
  obtain ⟨k, rfl, hk⟩ := inB_nat' hp
  rw [tot_tl o]
  exact sumN_pos (f := fun i : Nat => tl (clAt h (i : Int)).n q) hk
/-- A tree lives where what is used still is as it was, and everything adds up. -/
theorem T.keep {g g' : Hp} {B : Int} {R : Int → Int} (o : Ok g' B) (c : Ct g' R) (R0 : ∀ q, 0 ≤ R q) (x : Le g g') : ∀ {d : Nat} {p : Int} {l : List It}, T g d p l → usedB g' p = true → T g' d p l
  | 0, _, _, t, _ => t.elim
  | d + 1, p, l, ⟨u, g1, e⟩, u' => by
    have en := (x.use p u').2
    have hp := (used_iff.mp u').1
    refine ⟨u', g1, ?_⟩
    rw [en]
    rcases e with e | ⟨e1, ls, e2, e3⟩
    · exact .inl e
    · refine .inr ⟨e1, ls, e2, e3.imp fun a b ha _ r => ⟨r.1, T.keep o c R0 x r.2 ?_⟩⟩
      have hin : inB g' a.v = true := by rw [inB_len x.len]; exact (used_iff.mp r.2.used).1
      have h1 := tells_tot o hp a.v
      have h2 : 0 < tl (clAt g' p).n a.v := by
        rw [en]
        unfold tl
        rw [e1, if_neg (by simp)]
        exact Nat.pos_of_ne_zero fun hz => cntV_zero.mp hz a ha rfl
      have h3 := c a.v hin
      have := R0 a.v
      exact used_iff.mpr ⟨hin, by omega⟩
theorem sound_in {h : Hp} {B : Int} {root : Int} {d : Nat} {l : List It} (o : Ok h B) (s : soundB h [root] = true) (t : Rt h root d l) : Ct h (one root) ∧ Hts h := by
  unfold soundB at s
  rw [List.all_eq_true] at s
  have hs : ∀ q : Nat, q < h.c.length → (clAt h (q : Int)).ref = one root (q : Int) + (tot h (q : Int) : Int) ∧ (heldB h [root] 25 q = true ↔ 0 < (clAt h (q : Int)).ref) := by
    intro q hq
    have := s q (List.mem_range.mpr hq)
    unfold soundAt at this
    simp only [Bool.and_eq_true, decide_eq_true_eq, beq_iff_eq, ← clAt_nat'] at this
    refine ⟨?_, by rw [this.2]; simp⟩
    rw [this.1]
    unfold refsN tot
    rw [Int.natCast_add, cntI_one]
  refine ⟨fun q hq => ?_, fun q hu => ?_⟩
  · obtain ⟨k, rfl, hk⟩ := inB_nat' hq; exact (hs k hk).1
  · have key : ∀ (k : Nat) (q : Nat), q < h.c.length → heldB h [root] k q = true → ∃ d l, d ≤ 20 ∧ T h d (q : Int) l := by
      intro k
      induction k with
      | zero =>
        intro q hq hh
        have h0 : 0 < cntI [root] (q : Int) := by unfold heldB at hh; simpa using hh
        have h1 := cntI_one root (q : Int)
        unfold one at h1
        split at h1
        · rename_i e
          rcases t with ⟨t, _⟩ | ⟨t1, t2⟩
          · omega
          · rw [e]; exact ⟨d, l, t1, t2⟩
        · omega
      | succ k ih =>
        intro q hq hh
        unfold heldB at hh
        rw [Bool.or_eq_true, List.any_eq_true] at hh
        rcases hh with hh | ⟨p, hp, hh⟩
        · exact ih q hq hh
        · rw [List.mem_range] at hp
          simp only [Bool.and_eq_true, decide_eq_true_eq] at hh
          obtain ⟨d, l, hd, t⟩ := ih p hp hh.1
          rw [tellsN_tl o hp] at hh
          obtain ⟨d', l', e, t'⟩ := t.child hh.2
          exact ⟨d', l', by omega, t'⟩
    obtain ⟨k, rfl, hk⟩ := inB_nat' (used_iff.mp hu).1
    exact key 25 k hk ((hs k hk).2.mpr (used_iff.mp hu).2)
theorem heldB_mono (h : Hp) (roots : List Int) (q : Nat) : ∀ (m n : Nat), heldB h roots n q = true → heldB h roots (n + m) q = true
  | 0, _, e => e
  | m + 1, n, e => by
    show heldB h roots (n + m + 1) q = true
    unfold heldB
    rw [heldB_mono h roots q m n e]; rfl
theorem sound_out {g : Hp} {B : Int} {p : Int} (o : Ok g B) (c : Ct g (one p)) (ht : Hts g) : soundB g [p] = true := by
  have hup : ∀ (k : Nat) (q : Nat), q < g.c.length → heldB g [p] k q = true → usedB g (q : Int) = true := by
    intro k
    induction k with
    | zero =>
      intro q hq hh
      have h0 : 0 < cntI [p] (q : Int) := by unfold heldB at hh; simpa using hh
      have h1 := cntI_one p (q : Int)
      have hin : inB g (q : Int) = true := inB_iff.mpr (by omega)
      have := c _ hin
      exact used_iff.mpr ⟨hin, by omega⟩
    | succ k ih =>
      intro q hq hh
      unfold heldB at hh
      rw [Bool.or_eq_true, List.any_eq_true] at hh
      rcases hh with hh | ⟨r, hr, hh⟩
      · exact ih q hq hh
      · rw [List.mem_range] at hr
        simp only [Bool.and_eq_true, decide_eq_true_eq] at hh
        rw [tellsN_tl o hr] at hh
        have hin : inB g (q : Int) = true := inB_iff.mpr (by omega)
        have := c _ hin
        have := tells_tot o (inB_iff.mpr (by omega : 0 ≤ (r : Int) ∧ (r : Int) < g.c.length)) (q : Int)
        have := one_nonneg p (q : Int)
        exact used_iff.mpr ⟨hin, by omega⟩
  have hdown : ∀ (n : Nat) (q : Nat) (d : Nat) (l : List It), T g d (q : Int) l → d ≤ 20 → 20 ≤ d + n → heldB g [p] n q = true := by
    intro n
    induction n with
    | zero =>
      intro q d l t hd hn
      obtain ⟨hin, hr⟩ := used_iff.mp t.used
      have h1 := c _ hin
      have h2 := cntI_one p (q : Int)
      by_cases h0 : 0 < one p (q : Int)
      · unfold heldB; exact decide_eq_true (by omega)
      · have hz : 0 < tot g (q : Int) := by omega
        rw [tot_tl o] at hz
        obtain ⟨i, hi, e⟩ := sumN_ex hz
        have hui : usedB g (i : Int) = true := by
          refine used_iff.mpr ⟨inB_iff.mpr (by omega), ?_⟩
          have := o.pos (i : Int) (inB_iff.mpr (by omega))
          refine Classical.byContradiction fun hn => ?_
          have hz := o.zero (i : Int) (inB_iff.mpr (by omega)) (by omega)
          simp only [hz] at e
          exact absurd e (by simp [tl, zNd, cntV])
        obtain ⟨d', l', hd', t'⟩ := ht _ hui
        obtain ⟨d2, l2, e2, t2⟩ := t'.child e
        have := (t2.uniq t).1
        omega
    | succ n ih =>
      intro q d l t hd hn
      obtain ⟨hin, hr⟩ := used_iff.mp t.used
      have h1 := c _ hin
      have h2 := cntI_one p (q : Int)
      by_cases h0 : 0 < one p (q : Int)
      · have : heldB g [p] 0 q = true := by unfold heldB; exact decide_eq_true (by omega)
        have := heldB_mono g [p] q (n + 1) 0 this
        rwa [Nat.zero_add] at this
      · have hz : 0 < tot g (q : Int) := by omega
        rw [tot_tl o] at hz
        obtain ⟨i, hi, e⟩ := sumN_ex hz
        have hui : usedB g (i : Int) = true := by
          refine used_iff.mpr ⟨inB_iff.mpr (by omega), ?_⟩
          have := o.pos (i : Int) (inB_iff.mpr (by omega))
          refine Classical.byContradiction fun hn => ?_
          have hz := o.zero (i : Int) (inB_iff.mpr (by omega)) (by omega)
          simp only [hz] at e
          exact absurd e (by simp [tl, zNd, cntV])
        obtain ⟨d', l', hd', t'⟩ := ht _ hui
        obtain ⟨d2, l2, e2, t2⟩ := t'.child e
        have := (t2.uniq t).1
        unfold heldB
        rw [Bool.or_eq_true, List.any_eq_true]
        refine .inr ⟨i, List.mem_range.mpr hi, ?_⟩
        rw [ih i d' l' t' hd' (by omega), Bool.true_and, tellsN_tl o hi]
        exact decide_eq_true e
  unfold soundB
  rw [List.all_eq_true]
  intro q hq
  rw [List.mem_range] at hq
  have hin : inB g (q : Int) = true := inB_iff.mpr (by omega)
  unfold soundAt
  simp only [Bool.and_eq_true, decide_eq_true_eq, beq_iff_eq, ← clAt_nat']
  refine ⟨?_, ?_⟩
  · rw [c _ hin, ← cntI_one]; unfold refsN tot; rw [Int.natCast_add]
  · by_cases hr : 0 < (clAt g (q : Int)).ref
    · rw [decide_eq_true hr]
      obtain ⟨d, l, hd, t⟩ := ht _ (used_iff.mpr ⟨hin, hr⟩)
      have := hdown 20 q d l t hd (by omega)
      exact heldB_mono g [p] q 5 20 this
    · rw [decide_eq_false hr, ← Bool.not_eq_true]
      exact fun h => hr (used_iff.mp (hup 25 q hq h)).2
/-- Where everything adds up Refs are small. -/
theorem ct_small {g : Hp} {B : Int} {p : Int} (o : Ok g B) (c : Ct g (one p)) {q : Int} (hq : inB g q = true) : (clAt g q).ref ≤ 8001 := by
  have h1 := c q hq
  have h2 : tot g q ≤ g.c.length * 4 := by
    rw [tot_tl o, ← sumN_const 4]
    refine sumN_mono fun i hi => ?_
    have hin : inB g (i : Int) = true := inB_iff.mpr (by omega)
    by_cases hr : 0 < (clAt g (i : Int)).ref
    · have := (nodeRight_iff.mp (o.right _ (used_iff.mpr ⟨hin, hr⟩))).1
      unfold tl
      split
      · omega
      · have := cntV_le (clAt g (i : Int)).n.it q; omega
    · have := o.pos _ hin
      rw [o.zero _ hin (by omega)]
      simp [tl, zNd, cntV]
  have h3 : one p q ≤ 1 := by unfold one; split <;> omega
  have := o.l2
  omega
theorem fitsH_free {h : Hp} {B : Int} {n : Int} {deep : Bool} (o : Ok h B) (e : fitsH h n deep = true) : n ≤ (freeN h : Int) := by
  unfold fitsH at e
  have h1 : freeN h ≤ h.c.length := List.length_filter_le _ _
  have := o.l2; have := o.k1; have := o.k2
  split at e
  · simpa using e
  · rw [w64_id (by omega) (by omega)] at e
    have : n ≤ (freeN h : Int) - h.keep := by simpa using e
    omega
theorem freeN_le {g g' : Hp} (x : Le g g') : freeN g' = freeN g := freeN_congr x.len x.free
/-- A tree made anew over its old one. -/
structure Anew (h g : Hp) (p : Int) (d : Nat) (l : List It) (B : Int) : Prop where
  ok : Ok g B
  ext : Ext h g
  tr : T g d p l
  new : usedB h p = false
  hts : ∀ q, usedB g q = true → usedB h q = true ∨ ∃ d' l', d' ≤ d ∧ T g d' q l'
  ct : ∀ R : Int → Int, Ct h R → Ct g (fun q => R q + one p q)
theorem lay_one {h g : Hp} {held : List Int} {x : It} {r made : List It} (e : layO h false held [x :: r] = some (g, made)) : ∃ p er, allocO h ⟨false, x :: r⟩ held = some (g, p, er) ∧ made = [⟨x.k, p⟩] := by
  unfold layO at e
  cases ha : allocO h ⟨false, x :: r⟩ held with
  | none => rw [ha] at e; simp at e
  | some t =>
    obtain ⟨g1, p, er⟩ := t
    rw [ha] at e
    simp only [layO, Option.bind_eq_bind, Option.bind_some, Option.some.injEq, Prod.mk.injEq] at e
    obtain ⟨rfl, rfl⟩ := e
    exact ⟨p, er, rfl, rfl⟩
theorem cntV_one (k p q : Int) : ((cntV [⟨k, p⟩] q : Nat) : Int) = one p q := by
  rw [cntV_cons, cntV_nil]
  unfold one
  show ((0 + if p = q then 1 else 0 : Nat) : Int) = _
  by_cases e : p = q
  · rw [if_pos e, if_pos e.symm]; rfl
  · rw [if_neg e, if_neg (fun h => e h.symm)]; rfl
/-- What is made takes the old root's place. -/
def putM (f : Nat) (g : Hp) (root : Int) : List It → Option (Hp × Int × Int)
  | [] => none
  | [y] => settledO f g y.v root
  | y :: z :: r => (overO g (y :: z :: r)).bind fun x => settledO f x.1 x.2.1 root
theorem putO_made {f : Nat} {h g : Hp} {root key val : Int} {deep : Bool} {d : Nat} {made : List It} (hh : highO 21 h root = some d) (hd : d < 20) (hk : fitsB key = true) (hv : fitsB val = true) (hf : fitsH h (2 * (d : Int) + 1) deep = true) (hr : ¬ root < 0) (a : anewO 20 h root ⟨key, val⟩ = some (g, made)) : putO f h root key val deep = putM f g root made := by
  unfold putO
  rw [hh]
  simp only [Option.bind_eq_bind, Option.bind_some]
  rw [hk, hv, if_neg (by simp), hf, decide_eq_false (by omega), if_neg (by simp), if_neg hr, a]
  rcases made with _ | ⟨y, _ | ⟨z, r⟩⟩ <;> rfl
/-- What a put comes to, ahead of its old root's end. -/
theorem build_spec {h : Hp} {B : Int} {root : Int} {d : Nat} {l : List It} {key val : Int} {deep : Bool} (f : Nat) (o : Ok h B) (hB1 : 1 ≤ B) (hB : B ≤ 1000000000) (t : T h d root l) (hd : d < 20) (hk : fitsB key = true) (hv : fitsB val = true) (hf : fitsH h (2 * (d : Int) + 1) deep = true) :
    ∃ g p d', putO f h root key val deep = settledO f g p root ∧ Anew h g p d' (ins l ⟨key, val⟩) (B + 200) ∧ (d' = d ∨ d' = d + 1) ∧ freeN h ≤ freeN g + (2 * d + 1) ∧ freeN g + d ≤ freeN h := by
  have hfree := fitsH_free o hf
  obtain ⟨g, made, ls, a1, a2, a3, a4, a5, a6, a7, a8⟩ := anew_spec d 20 h root l ⟨key, val⟩ B (by omega) o hB1 (by omega) t ⟨hk, hv⟩ (by omega)
  rw [putO_made (f := f) (t.high 21 (by omega)) hd hk hv hf (neg_of_used t.used) a1]
  clear a1
  match made, ls, a2, a3, a4, a5, a8 with
  | [], _, _, _, a4, _, _ => simp at a4
  | [y], ls, a2, a3, _, _, a8 =>
    have tr := a2.tr
    cases tr with
    | cons r rest =>
      cases rest
      rename_i li
      have e : li = ins l ⟨key, val⟩ := by simpa using a3
      rw [e] at r
      refine ⟨g, y.v, d, rfl, ⟨a2.ok.wide (by omega), a2.ext, r.2, a2.new y (by simp), a2.hts, fun R hR => (a8 R hR).congr fun q _ => ?_⟩, .inl rfl, by omega, by omega⟩
      rcases y with ⟨k, v⟩
      dsimp only
      rw [cntV_one]
  | y :: z :: r, ls, a2, a3, _, a5, a8 =>
    have hins := ins_gd t.gd.up t.gd.fit (x := ⟨key, val⟩) ⟨hk, hv⟩
    obtain ⟨g2, m2, ls2, l1, l2, l3, l4, l5, l6⟩ := lay_inner (rows := [y :: z :: r]) (ls := ls) a2.ok (by omega) (by omega) (vL (y :: z :: r)) (fun r' hr' => by rw [List.mem_singleton.mp hr']; exact ⟨by simp, by omega⟩) (by simp) (by simp) (by simp only [List.length_cons, List.length_nil]; omega) (by simpa using a2.tr) (by rw [a3]; exact hins.up)
    obtain ⟨p, er, ea, rfl⟩ := lay_one l1
    have tr := l2.tr
    cases tr with
    | cons rr rest =>
      cases rest
      rename_i li
      have e : li = ins l ⟨key, val⟩ := by rw [← a3, ← l3]; simp
      rw [e] at rr
      simp only [List.length_cons, List.length_nil] at l5
      refine ⟨g2, p, d + 1, ?_, ⟨l2.ok.wide (by omega), a2.ext.trans l2.ext, rr.2, ?_, fun q hq => ?_, fun R hR => l6 _ _ (a8 R hR) fun q hq => ?_⟩, .inr rfl, by omega, by omega⟩
      · show (overO g (y :: z :: r)).bind _ = _
        unfold overO; rw [ea]; rfl
      · have := l2.new ⟨y.k, p⟩ (by simp)
        cases hu : usedB h p with
        | false => rfl
        | true => rw [(a2.ext.use _ hu).1] at this; cases this
      · rcases l2.hts q hq with hu | hu
        · rcases a2.hts q hu with hu | ⟨d', l', h1, h2⟩
          · exact .inl hu
          · exact .inr ⟨d', l', by omega, h2.ext l2.ext⟩
        · exact .inr hu
      · have : hpN ⟨false, [y :: z :: r].flatten⟩ (vL (y :: z :: r)) q = cntV (y :: z :: r) q := by
          unfold hpN
          rw [if_neg (by simp)]
          split
          · simp
          · rename_i hq2
            exact (inL_vL.mp (by simpa using hq2)).symm
        rw [this, cntV_one]
        (try dsimp only)
        omega
/-- The old root goes. -/
theorem settle_spec {h g : Hp} {B : Int} {root p : Int} {d d' : Nat} {l l' : List It} (hB : B ≤ 1000000000) (t : T h d root l) (hd : d ≤ 20) (hd' : d' ≤ 20) (a : Anew h g p d' l' B) :
    ∃ g', settledO 25 g p root = some (g', p, 0) ∧ Ok g' B ∧ g'.c.length = h.c.length ∧ g'.keep = h.keep ∧ freeN g' = freeN g ∧ (Ct h (one root) → Hts h → Ct g' (one p) ∧ Hts g' ∧ T g' d' p l') := by
  have u := (a.ext.use root t.used).1
  obtain ⟨g', e, o', x, c⟩ := loose_spec 25 d g root B (by omega) a.ok (by omega) (t.ext a.ext).wk
  refine ⟨g', ?_, o', x.len.trans a.ext.len, x.keep.trans a.ext.keep, freeN_le x, fun hc hh => ?_⟩
  · unfold settledO looseH
    have := neg_of_used t.used
    rw [if_pos (by omega), if_pos u, e]; rfl
  · have c1 := c _ (a.ct _ hc) (fun q => by have := one_nonneg root q; have := one_nonneg p q; (try dsimp only); omega) (by have := one_self root; have := one_nonneg p root; (try dsimp only); omega)
    have c2 : Ct g' (one p) := c1.congr fun q _ => by
      (try dsimp only)
      have : (if q = root then (1 : Int) else 0) = one root q := rfl
      omega
    have hk : ∀ {d : Nat} {p : Int} {l : List It}, T g d p l → usedB g' p = true → T g' d p l := T.keep o' c2 (one_nonneg p) x
    refine ⟨c2, fun q hq => ?_, hk a.tr ?_⟩
    · have hg := (x.use q hq).1
      rcases a.hts q hg with hu | ⟨d2, l2, h1, h2⟩
      · obtain ⟨d2, l2, h1, h2⟩ := hh q hu
        exact ⟨d2, l2, h1, hk (h2.ext a.ext) hq⟩
      · exact ⟨d2, l2, by omega, hk h2 hq⟩
    · have hin : inB g' p = true := by rw [inB_len x.len]; exact (used_iff.mp a.tr.used).1
      have := c2 p hin
      rw [one_self] at this
      exact used_iff.mpr ⟨hin, by omega⟩
/-- What a put that is done comes to. -/
structure PutOk (h g : Hp) (root p : Int) (d : Nat) (l l' : List It) (B : Int) : Prop where
  ok : Ok g B
  len : g.c.length = h.c.length
  keep : g.keep = h.keep
  pos : 0 ≤ p
  lo : freeN h ≤ freeN g + (2 * d + 1)
  hi : freeN g + max d 1 ≤ freeN h
  fine : Ct h (one root) → Hts h → Ct g (one p) ∧ Hts g ∧ ∃ d', (d' = d ∨ d' = d + 1) ∧ d' ≤ 20 ∧ T g d' p l'
theorem Rt.high {h : Hp} {root : Int} {d : Nat} {l : List It} (t : Rt h root d l) : highO 21 h root = some d := by
  rcases t with ⟨rfl, rfl, rfl⟩ | ⟨hd, t⟩
  · rfl
  · exact t.high 21 (by omega)
theorem Rt.list {h : Hp} {root : Int} {d : Nat} {l : List It} (t : Rt h root d l) : listO 21 h root = some l := by
  rcases t with ⟨rfl, rfl, rfl⟩ | ⟨hd, t⟩
  · rfl
  · exact t.list 21 (by omega)
theorem Rt.up {h : Hp} {root : Int} {d : Nat} {l : List It} (t : Rt h root d l) : l.Pairwise fun a b => a.k < b.k := by
  rcases t with ⟨rfl, rfl, rfl⟩ | ⟨hd, t⟩
  · exact .nil
  · exact t.gd.up
theorem put_spec {h : Hp} {B : Int} {root : Int} {d : Nat} {l : List It} (key val : Int) (deep : Bool) (o : Ok h B) (hB1 : 1 ≤ B) (hB : B ≤ 100000000) (t : Rt h root d l) :
    ∃ g p e, putO 25 h root key val deep = some (g, p, e) ∧
      ((e = 1 ∧ g = h ∧ p = root ∧ ¬ (fitsB key = true ∧ fitsB val = true)) ∨
       (e = 3 ∧ g = h ∧ p = root ∧ (fitsB key = true ∧ fitsB val = true) ∧ ¬ (fitsH h (2 * (d : Int) + 1) deep = true ∧ d < 20)) ∨
       (e = 0 ∧ (fitsB key = true ∧ fitsB val = true) ∧ (fitsH h (2 * (d : Int) + 1) deep = true ∧ d < 20) ∧ PutOk h g root p d l (ins l ⟨key, val⟩) (B + 200))) := by
  by_cases hargs : fitsB key = true ∧ fitsB val = true
  · obtain ⟨hk, hv⟩ := hargs
    have hd20 : d ≤ 20 := by rcases t with ⟨_, rfl, _⟩ | ⟨h, _⟩ <;> omega
    by_cases hroom : fitsH h (2 * (d : Int) + 1) deep = true ∧ d < 20
    · obtain ⟨hf, hd⟩ := hroom
      rcases t with ⟨rfl, rfl, rfl⟩ | ⟨_, t⟩
      · have hfree := fitsH_free o hf
        have hx : fitsB (It.mk key val).k = true ∧ fitsB (It.mk key val).v = true := ⟨hk, hv⟩
        have hg : Gd [It.mk key val] := by
          have := ins_gd (l := []) (x := ⟨key, val⟩) .nil (fun x hx => by cases hx) hx
          simpa [ins] using this
        obtain ⟨g, made, l1, l2, l3, l4, l5⟩ := lay_leaf (rows := [[⟨key, val⟩]]) o hB1 (by omega) (fun r hr => by rw [List.mem_singleton.mp hr]; exact ⟨by simp, by simp⟩) (by simpa using hg) (by simp) (by simp only [List.length_cons, List.length_nil]; omega)
        unfold layO at l1
        obtain ⟨g1, f, ea, -⟩ := alloc_step (n := ⟨true, [⟨key, val⟩]⟩) (held := []) o (by omega) (nodeRight_iff.mpr ⟨by simp, hg⟩) (leadsB_iff.mpr (fun h => by cases h)) (by omega)
        rw [ea] at l1
        simp only [layO, Option.bind_eq_bind, Option.bind_some, Option.some.injEq, Prod.mk.injEq] at l1
        obtain ⟨rfl, rfl⟩ := l1
        have tr := l2.tr
        cases tr with
        | cons rr rest =>
          cases rest
          refine ⟨g1, f, 0, ?_, .inr (.inr ⟨rfl, ⟨hk, hv⟩, ⟨hf, hd⟩, ⟨l2.ok.wide (by omega), l2.ext.len, l2.ext.keep, ?_, ?_, ?_, fun hc hh => ⟨?_, fun q hq => ?_, 1, .inr rfl, by omega, ?_⟩⟩⟩)⟩
          · unfold putO
            have : highO 21 h (-1) = some 0 := rfl
            rw [this]
            simp only [Option.bind_eq_bind, Option.bind_some]
            rw [hk, hv, if_neg (by simp), hf, decide_eq_false (by omega), if_neg (by simp), if_pos (by omega), ea]
            rfl
          · have := neg_of_used rr.2.used; dsimp only at this; omega
          · simp only [List.length_cons, List.length_nil] at l4; omega
          · simp only [List.length_cons, List.length_nil] at l4; omega
          · refine (l5 _ hc).congr fun q hq => ?_
            rw [cntV_one]
            have : one (-1) q = 0 := by unfold one; rw [if_neg (by have := (inB_iff.mp hq).1; omega)]
            omega
          · rcases l2.hts q hq with hu | ⟨d2, l2', h1, h2⟩
            · obtain ⟨d2, l2', h1, h2⟩ := hh q hu
              exact ⟨d2, l2', h1, h2.ext l2.ext⟩
            · exact ⟨d2, l2', by omega, h2⟩
          · have : ins [] (It.mk key val) = [⟨key, val⟩] := rfl
            rw [this]; exact rr.2
      · obtain ⟨g, p, d', e, a, h1, h2, h3⟩ := build_spec 25 o hB1 (by omega) t hd hk hv hf
        obtain ⟨g', e', o', b1, b2, b3, b4⟩ := settle_spec (by omega) t hd20 (by omega) a
        refine ⟨g', p, 0, by rw [e, e'], .inr (.inr ⟨rfl, ⟨hk, hv⟩, ⟨hf, hd⟩, ⟨o', b1, b2, ?_, by omega, ?_, fun hc hh => ?_⟩⟩)⟩
        · have := neg_of_used a.tr.used; omega
        · have := t.pos; omega
        · obtain ⟨x, y, z⟩ := b4 hc hh
          exact ⟨x, y, d', h1, by omega, z⟩
    · refine ⟨h, root, 3, ?_, .inr (.inl ⟨rfl, rfl, rfl, ⟨hk, hv⟩, hroom⟩)⟩
      unfold putO
      rw [t.high]
      simp only [Option.bind_eq_bind, Option.bind_some]
      rw [hk, hv, if_neg (by simp), if_pos]
      rw [Bool.or_eq_true, decide_eq_true_eq, Bool.not_eq_true']
      by_cases h20 : d = 20
      · exact .inl h20
      · right
        rw [← Bool.not_eq_true]
        exact fun hf => hroom ⟨hf, by omega⟩
  · refine ⟨h, root, 1, ?_, .inl ⟨rfl, rfl, rfl, hargs⟩⟩
    unfold putO
    rw [t.high]
    simp only [Option.bind_eq_bind, Option.bind_some]
    rw [if_pos]
    rw [Bool.or_eq_true, Bool.not_eq_true', Bool.not_eq_true']
    cases hk : fitsB key with
    | false => exact .inl rfl
    | true =>
      cases hv : fitsB val with
      | false => exact .inr rfl
      | true => exact absurd ⟨hk, hv⟩ hargs
end Go.Proofs.Ytopkoganfnabgaa.H
namespace Go.Proofs.Ytopkoganfnabgaa.H
theorem ff (p q r : It → Bool) (l : List It) (h : ∀ a, (q a && p a) = r a) : (l.filter p).filter q = l.filter r := by
  rw [List.filter_filter]
  exact List.filter_congr fun a _ => by rw [← h a, Bool.and_comm]
end Go.Proofs.Ytopkoganfnabgaa.H
namespace Go.Proofs.Ytopkoganfnabgaa.H
/-- A root of one item is gone down from. -/
def lowO : Nat → Hp → Int → Option (Hp × Int)
  | 0, _, _ => none
  | f + 1, h, p =>
    if p < 0 then some (h, p)
    else if inB h p = true then
      if (clAt h p).n.leaf = true then some (h, p)
      else match (clAt h p).n.it with
        | [] => none
        | [x] => (looseH 25 (holdH h x.v).1 p).bind fun g => lowO f g.1 x.v
        | _ :: _ :: _ => some (h, p)
    else none
/-- What a key tells. -/
def tgetO : Nat → Hp → Int → Int → Option (Int × Int)
  | 0, _, _, _ => none
  | f + 1, h, p, key =>
    if p < 0 then some (0, 4)
    else if inB h p = true then
      (atO (clAt h p).n.leaf (clAt h p).n.it key).bind fun a =>
        if (clAt h p).n.leaf = true then (if a.2 = true then some ((itAt (clAt h p).n.it a.1).v, 0) else some (0, 4))
        else if a.1 < (clAt h p).n.it.length then tgetO f h (itAt (clAt h p).n.it a.1).v key else none
    else none
/-- A node, made anew without a key. -/
def xnewO : Nat → Hp → Int → Int → Option (Hp × List It)
  | 0, _, _, _ => none
  | f + 1, h, p, key =>
    if inB h p = true then
      (atO (clAt h p).n.leaf (clAt h p).n.it key).bind fun a =>
        (if (clAt h p).n.leaf = true then some (h, []) else if a.1 < (clAt h p).n.it.length then xnewO f h (itAt (clAt h p).n.it a.1).v key else none).bind fun r =>
          (withO (clAt h p).n.it a.1 1 r.2).bind fun l => if l = [] then some (r.1, []) else layO r.1 (clAt h p).n.leaf (vL r.2) [l]
    else none
def downO (g : Hp) : List It → Option (Hp × Int)
  | [] => some (g, -1)
  | y :: _ => lowO 21 g y.v
/-- An item is taken out. -/
def delO (h : Hp) (root key : Int) : Option (Hp × Int × Int) :=
  (tgetO 21 h root key).bind fun v => if v.2 ≠ 0 then some (h, root, v.2) else
    (highO 21 h root).bind fun d => if fitsH h (d : Int) true = false then some (h, root, 3) else
      (xnewO 20 h root key).bind fun r => (downO r.1 r.2).bind fun q => (looseH 25 q.1 root).map fun x => (x.1, q.2, 0)
def scanL (lo hi : Int) (l : List It) : List It := l.filter fun x => decide (lo ≤ x.k) && decide (x.k < hi)
/-- Items are taken out, one by one: so many at most; how many. -/
def cutO (lo hi : Int) : Nat → Hp → Int → Option (Hp × Int × Nat × Int)
  | 0, h, root => some (h, root, 0, 0)
  | m + 1, h, root => (listO 21 h root).bind fun l => match scanL lo hi l with
    | [] => some (h, root, 0, 0)
    | x :: _ => (delO h root x.k).bind fun r => if r.2.2 ≠ 0 then some (h, root, 0, r.2.2) else (cutO lo hi m r.1 r.2.1).map fun t => (t.1, t.2.1, t.2.2.1 + 1, t.2.2.2)
def del (l : List It) (key : Int) : List It := l.filter fun y => decide (y.k ≠ key)
theorem del_mid {a m c : List It} {key : Int} (ha : ∀ y ∈ a, y.k < key) (hc : ∀ y ∈ c, key < y.k) : del (a ++ m ++ c) key = a ++ del m key ++ c := by
  unfold del
  rw [List.filter_append, List.filter_append, List.filter_eq_self.mpr fun y hy => by have := ha y hy; simp; omega, List.filter_eq_self (l := c) |>.mpr fun y hy => by have := hc y hy; simp; omega]
theorem Gd.del {l : List It} (g : Gd l) {key : Int} (h : H.del l key ≠ []) : Gd (H.del l key) := ⟨h, g.up.sublist List.filter_sublist, fun x hx => g.fit x (List.mem_filter.mp hx).1⟩
theorem cnt_eq {l : List It} {key : Int} (up : l.Pairwise fun a b => a.k < b.k) {j : Nat} (hj : j < l.length) (e : (itAt l j).k = key) : cnt l key = j := by
  have h1 : ¬ j < cnt l key := fun h => by
    have := cnt_take (l := l) (key := key) _ (take_mem.mpr ⟨j, h, hj, rfl⟩)
    omega
  have h2 := cnt_at (l := l) (key := key) (by omega)
  by_cases h3 : cnt l key = j
  · exact h3
  · have := up_lt up (show cnt l key < j by omega) hj; omega
theorem mem_it {l : List It} {y : It} (h : y ∈ l) : ∃ j, j < l.length ∧ itAt l j = y := by
  obtain ⟨j, hj, rfl⟩ := List.mem_iff_getElem.mp h
  exact ⟨j, hj, itAt_get hj⟩
/-- At, in a leaf that has the key. -/
theorem at_has {l : List It} {key : Int} (g : Gd l) (h4 : l.length ≤ 4) (h : ∃ y ∈ l, y.k = key) : ∃ i, atO true l key = some (i, true) ∧ i < l.length ∧ (itAt l i).k = key ∧ l.take i ++ l.drop (i + 1) = del l key := by
  obtain ⟨y, hy, ek⟩ := h
  obtain ⟨j, hj, rfl⟩ := mem_it hy
  have hc := cnt_eq g.up hj ek
  refine ⟨j, ?_, hj, ek, ?_⟩
  · unfold atO
    rw [if_pos ⟨sortedB_up.mpr g.up, by omega⟩]
    have : isAt l key = true := by unfold isAt; rw [hc, decide_eq_true hj, decide_eq_true ek]; rfl
    rw [this, hc]
    simp
  · have hsp := itAt_split hj
    conv => rhs; rw [hsp]
    have e1 : ∀ y ∈ l.take j, y.k < key := fun y hy => by
      obtain ⟨m, h1, h2, rfl⟩ := take_mem.mp hy
      have := up_lt g.up h1 hj; omega
    have e2 : ∀ y ∈ l.drop (j + 1), key < y.k := fun y hy => by
      obtain ⟨m, h1, h2, rfl⟩ := drop_mem.mp hy
      have := up_lt g.up (show j < m by omega) h2; omega
    have := del_mid (m := [itAt l j]) e1 e2
    rw [List.append_assoc, List.singleton_append] at this
    rw [this]
    have : del [itAt l j] key = [] := by unfold del; rw [List.filter_cons, if_neg (by simp [ek])]; rfl
    rw [this, List.append_nil]
theorem at_hasnt {l : List It} {key : Int} (g : Gd l) (h4 : l.length ≤ 4) (h : ∀ y ∈ l, y.k ≠ key) : ∃ i, atO true l key = some (i, false) := by
  unfold atO
  rw [if_pos ⟨sortedB_up.mpr g.up, by omega⟩]
  have : isAt l key = false := by
    rw [← Bool.not_eq_true]
    unfold isAt
    intro h1
    simp only [Bool.and_eq_true, decide_eq_true_eq] at h1
    exact h (itAt l (cnt l key)) (by rw [itAt_get h1.1]; exact List.getElem_mem _) h1.2
  rw [this]
  exact ⟨_, rfl⟩
theorem getL_mem {l : List It} {key : Int} (up : l.Pairwise fun a b => a.k < b.k) {i : Nat} (hi : i < l.length) (e : (itAt l i).k = key) : getL l key = ((itAt l i).v, 0) := by
  unfold getL
  have : l.find? (fun x => decide (x.k = key)) = some (itAt l i) := by
    rw [List.find?_eq_some_iff_append]
    refine ⟨by simp [e], l.take i, l.drop (i + 1), itAt_split hi, fun a ha => ?_⟩
    obtain ⟨m, h1, h2, rfl⟩ := take_mem.mp ha
    have := up_lt up h1 hi
    simp; omega
  rw [this]
theorem getL_none {l : List It} {key : Int} (h : ∀ y ∈ l, y.k ≠ key) : getL l key = (0, 4) := by
  unfold getL
  rw [List.find?_eq_none.mpr fun a ha => by simpa using h a ha]
theorem getL_mid {a m c : List It} {key : Int} (ha : ∀ y ∈ a, y.k < key) (hc : ∀ y ∈ c, key < y.k) : getL (a ++ m ++ c) key = getL m key := by
  unfold getL
  rw [List.find?_append, List.find?_append, List.find?_eq_none (l := a) |>.mpr fun y hy => by have := ha y hy; simp; omega, List.find?_eq_none (l := c) |>.mpr fun y hy => by have := hc y hy; simp; omega]
  simp
/-- Where a key leads, in a node that is no leaf: ahead of it all is less, behind it more. -/
theorem T.lead {h : Hp} {B : Int} (o : Ok h B) {d : Nat} {p : Int} {l : List It} (t : T h d p l) (hl : (clAt h p).n.leaf = false) (key : Int) :
    ∃ d' i is la lm lb, d = d' + 1 ∧ atO false (clAt h p).n.it key = some (i, is) ∧ i < (clAt h p).n.it.length ∧ T h d' (itAt (clAt h p).n.it i).v lm ∧ (itAt (clAt h p).n.it i).k = ky lm ∧ l = la.flatten ++ lm ++ lb.flatten ∧ (∀ y ∈ la.flatten, y.k < key) ∧ (∀ y ∈ lb.flatten, key < y.k) ∧
      F2 (fun x li => x.k = ky li ∧ T h d' x.v li) ((clAt h p).n.it.take i) la ∧ F2 (fun x li => x.k = ky li ∧ T h d' x.v li) ((clAt h p).n.it.drop (i + 1)) lb := by
  obtain ⟨n4, ng⟩ := nodeRight_iff.mp (o.right p t.used)
  obtain ⟨d', ed, ls, el, ff⟩ := t.inner hl
  obtain ⟨i, is, e1, e2, e3, e4⟩ := at_inner (key := key) ng n4
  have hsp := itAt_split e2
  have tg := t.gd.up
  generalize (clAt h p).n.it = it at *
  rw [hsp] at ff
  obtain ⟨la, lb', rfl, fa, fb⟩ := F2.split (m := ls) _ _ ff
  cases fb with
  | cons rm fb =>
    rename_i lm lb
    obtain ⟨k1, tm⟩ := rm
    have el2 : l = la.flatten ++ lm ++ lb.flatten := by rw [el, List.flatten_append, List.flatten_cons, List.append_assoc]
    rw [el2, List.pairwise_append, List.pairwise_append] at tg
    obtain ⟨⟨_, _, tg3⟩, _, _⟩ := tg
    refine ⟨d', i, is, la, lm, lb, ed, e1, e2, tm, k1, el2, fun y hy => ?_, fun y hy => ?_, fa, fb⟩
    · obtain ⟨z, hz, ez⟩ := ky_mem tm.gd.ne
      have h1 := tg3 y hy z hz
      have h0 : 0 < i := by
        rcases Nat.eq_zero_or_pos i with h0 | h0
        · rw [h0] at fa; cases fa; cases hy
        · exact h0
      have := e4 h0
      omega
    · obtain ⟨li, hli, hyl⟩ := List.mem_flatten.mp hy
      obtain ⟨a, ha, ka, ta⟩ := fb.mem_r hli
      have h1 := e3 a ha
      have h2 := ky_le ta.gd.up hyl
      omega
theorem T.tget {h : Hp} {B : Int} (o : Ok h B) : ∀ {d : Nat} {p : Int} {l : List It} (f : Nat) (key : Int), T h d p l → d ≤ f → tgetO f h p key = some (getL l key)
  | 0, _, _, _, _, t, _ => t.elim
  | d + 1, p, l, 0, _, _, hf => by omega
  | d + 1, p, l, f + 1, key, t, hf => by
    have u := t.used
    obtain ⟨n4, ng⟩ := nodeRight_iff.mp (o.right p u)
    unfold tgetO
    rw [if_neg (neg_of_used u), if_pos (used_iff.mp u).1]
    cases hl : (clAt h p).n.leaf with
    | true =>
      obtain ⟨_, rfl⟩ := t.leaf hl
      by_cases hk : ∃ y ∈ (clAt h p).n.it, y.k = key
      · obtain ⟨i, e1, e2, e3, _⟩ := at_has ng n4 hk
        rw [e1, getL_mem ng.up e2 e3]
        rfl
      · obtain ⟨i, e1⟩ := at_hasnt ng n4 (fun y hy e => hk ⟨y, hy, e⟩)
        rw [e1, getL_none (fun y hy e => hk ⟨y, hy, e⟩)]
        rfl
    | false =>
      obtain ⟨d', i, is, la, lm, lb, ed, e1, e2, tm, _, rfl, h1, h2, _, _⟩ := t.lead o hl key
      rw [e1, getL_mid h1 h2]
      simp only [Option.bind_some, Bool.false_eq_true, if_false]
      rw [if_pos e2]
      exact T.tget o f key tm (by omega)
theorem Rt.tget {h : Hp} {B : Int} (o : Ok h B) {root : Int} {d : Nat} {l : List It} (t : Rt h root d l) (key : Int) : tgetO 21 h root key = some (getL l key) := by
  rcases t with ⟨rfl, rfl, rfl⟩ | ⟨hd, t⟩
  · rfl
  · exact t.tget o 21 key (by omega)
end Go.Proofs.Ytopkoganfnabgaa.H
namespace Go.Proofs.Ytopkoganfnabgaa.H
theorem xnewO_leaf {f : Nat} {h : Hp} {p key : Int} {i : Nat} {is : Bool} {l : List It} (e0 : inB h p = true) (hl : (clAt h p).n.leaf = true) (e1 : atO true (clAt h p).n.it key = some (i, is)) (e2 : withO (clAt h p).n.it i 1 [] = some l) : xnewO (f + 1) h p key = if l = [] then some (h, []) else layO h true [] [l] := by
  unfold xnewO
  simp only [if_pos e0, hl, e1, e2, Option.bind_some, if_true]
  rfl
theorem xnewO_node {f : Nat} {h g : Hp} {p key : Int} {i : Nat} {is : Bool} {l more : List It} (e0 : inB h p = true) (hl : (clAt h p).n.leaf = false) (e1 : atO false (clAt h p).n.it key = some (i, is)) (hi : i < (clAt h p).n.it.length) (ea : xnewO f h (itAt (clAt h p).n.it i).v key = some (g, more)) (e2 : withO (clAt h p).n.it i 1 more = some l) : xnewO (f + 1) h p key = if l = [] then some (g, []) else layO g false (vL more) [l] := by
  unfold xnewO
  simp only [if_pos e0, hl, e1, ea, e2, Option.bind_some, if_pos hi, Bool.false_eq_true, if_false]
theorem Made.none {h : Hp} {B : Int} (o : Ok h B) (d : Nat) : Made h h [] [] d B := ⟨o, Ext.refl h, .nil, fun y hy => (by cases hy), fun q hq => .inl hq⟩
/-- A node made anew without a key that is there. -/
theorem xnew_spec : ∀ (d f : Nat) (h : Hp) (p : Int) (l : List It) (key : Int) (B : Int), d ≤ f → Ok h B → 1 ≤ B → B + 8 * d ≤ 1000000000000000 → T h d p l → (∃ y ∈ l, y.k = key) → d ≤ freeN h →
    ∃ g made ls, xnewO f h p key = some (g, made) ∧ Made h g made ls d (B + 8 * d) ∧ ls.flatten = del l key ∧ made.length ≤ 1 ∧ freeN h ≤ freeN g + d ∧ (∀ R : Int → Int, Ct h R → Ct g (fun q => R q + (cntV made q : Int)))
  | 0, _, _, _, _, _, _, _, _, _, _, t, _, _ => t.elim
  | d + 1, 0, _, _, _, _, _, hd, _, _, _, _, _, _ => by omega
  | d + 1, f + 1, h, p, l, key, B, hd, o, hB1, hB, t, hk, hf => by
    have u := t.used
    obtain ⟨n4, ng⟩ := nodeRight_iff.mp (o.right p u)
    cases hl : (clAt h p).n.leaf with
    | true =>
      obtain ⟨h1, rfl⟩ := t.leaf hl
      obtain rfl : d = 0 := by omega
      obtain ⟨i, e1, e2, e3, e4⟩ := at_has ng n4 hk
      have hx := xnewO_leaf (f := f) (key := key) (used_iff.mp u).1 hl e1 (l := del (clAt h p).n.it key) (by unfold withO; rw [if_pos ⟨by omega, by omega, by simp⟩, List.append_nil, e4])
      by_cases hz : del (clAt h p).n.it key = []
      · rw [if_pos hz] at hx
        exact ⟨h, [], [], hx, Made.none (o.wide (by omega)) _, hz.symm, by simp, by omega, fun R hR => hR.congr fun q _ => by rw [cntV_nil]; simp⟩
      · rw [if_neg hz] at hx
        have hg := ng.del hz
        have hlen : (del (clAt h p).n.it key).length ≤ (clAt h p).n.it.length := List.length_filter_le _ _
        obtain ⟨g, made, l1, l2, l3, l4, l5⟩ := lay_leaf (rows := [del (clAt h p).n.it key]) o hB1 (by omega) (fun r hr => by rw [List.mem_singleton.mp hr]; exact ⟨hz, by omega⟩) (by simpa using hg) (by simp) (by simp only [List.length_cons, List.length_nil]; omega)
        simp only [List.length_cons, List.length_nil] at l3 l4
        exact ⟨g, made, [del (clAt h p).n.it key], by rw [hx, l1], ⟨l2.ok.wide (by omega), l2.ext, l2.tr, l2.new, l2.hts⟩, by simp, by omega, by omega, l5⟩
    | false =>
      obtain ⟨d', i, is, la, lm, lb, ed, e1, e2, tm, k1, rfl, hla, hlb, fa, fb⟩ := t.lead o hl key
      obtain rfl : d = d' := by omega
      have hkm : ∃ y ∈ lm, y.k = key := by
        obtain ⟨y, hy, e⟩ := hk
        rcases List.mem_append.mp hy with hy | hy
        · rcases List.mem_append.mp hy with hy | hy
          · have := hla y hy; omega
          · exact ⟨y, hy, e⟩
        · have := hlb y hy; omega
      have hnode := fun (g : Hp) (more l : List It) => xnewO_node (f := f) (g := g) (more := more) (l := l) (used_iff.mp u).1 hl e1 e2
      have hu : ∀ y ∈ (clAt h p).n.it, usedB h y.v = true := fun y hy => by
        obtain ⟨e, ee, ls, _, ff⟩ := t.inner hl
        obtain ⟨b, _, _, t'⟩ := ff.mem_l hy; exact t'.used
      generalize (clAt h p).n.it = it at n4 ng e1 e2 tm k1 fa fb hnode hu
      obtain ⟨g1, more, lsm, a1, a2, a3, a4, a5, a6⟩ := xnew_spec d f h (itAt it i).v lm key B (by omega) o hB1 (by omega) tm hkm (by omega)
      have hdel : (la ++ lsm ++ lb).flatten = del (la.flatten ++ lm ++ lb.flatten) key := by
        rw [List.flatten_append, List.flatten_append, a3, del_mid hla hlb]
      have fnew : F2 (fun x li => x.k = ky li ∧ T g1 d x.v li) (it.take i ++ more ++ it.drop (i + 1)) (la ++ lsm ++ lb) := ((fa.imp fun a b _ _ r => ⟨r.1, r.2.ext a2.ext⟩).append a2.tr).append (fb.imp fun a b _ _ r => ⟨r.1, r.2.ext a2.ext⟩)
      have hlen : (it.take i ++ more ++ it.drop (i + 1)).length = it.length - 1 + more.length := by simp only [List.length_append, List.length_take, List.length_drop]; omega
      have hx := hnode g1 more (it.take i ++ more ++ it.drop (i + 1)) a1 (by unfold withO; rw [if_pos ⟨by omega, by omega, by omega⟩])
      by_cases hz : it.take i ++ more ++ it.drop (i + 1) = []
      · rw [if_pos hz] at hx
        have hm : more = [] := (List.append_eq_nil_iff.mp (List.append_eq_nil_iff.mp hz).1).2
        rw [hz] at fnew
        have hls : la ++ lsm ++ lb = [] := by
          generalize la ++ lsm ++ lb = q at fnew; cases fnew; rfl
        refine ⟨g1, [], [], hx, ⟨a2.ok.wide (by omega), a2.ext, .nil, fun y hy => (by cases hy), fun q hq => ?_⟩, by rw [← hdel, hls], by simp, by omega, fun R hR => (a6 R hR).congr fun q _ => by rw [hm]⟩
        rcases a2.hts q hq with hu | ⟨d', l', h1, h2⟩
        · exact .inl hu
        · exact .inr ⟨d', l', by omega, h2⟩
      · rw [if_neg hz] at hx
        obtain ⟨g, made, ls', l1, l2, l3, l4, l5, l6⟩ := lay_inner (rows := [it.take i ++ more ++ it.drop (i + 1)]) a2.ok (by omega) (by omega) (vL more) (fun r hr => by rw [List.mem_singleton.mp hr]; exact ⟨hz, by omega⟩) (by simp) (by simp) (by simp only [List.length_cons, List.length_nil]; omega) (ls := la ++ lsm ++ lb) (by rw [List.flatten_cons, List.flatten_nil, List.append_nil]; exact fnew) (by rw [hdel]; exact t.gd.up.sublist List.filter_sublist)
        simp only [List.length_cons, List.length_nil] at l4 l5
        refine ⟨g, made, ls', by rw [hx, l1], ⟨l2.ok.wide (by omega), a2.ext.trans l2.ext, l2.tr, fun y hy => ?_, fun q hq => ?_⟩, l3.trans hdel, by omega, by omega, fun R hR => l6 _ _ (a6 R hR) fun q hq => ?_⟩
        · have := l2.new y hy
          cases hu : usedB h y.v with
          | false => rfl
          | true => rw [(a2.ext.use _ hu).1] at this; cases this
        · rcases l2.hts q hq with hu | hu
          · rcases a2.hts q hu with hu | ⟨d', l', h1, h2⟩
            · exact .inl hu
            · exact .inr ⟨d', l', by omega, h2.ext l2.ext⟩
          · exact .inr hu
        · have : hpN ⟨false, [it.take i ++ more ++ it.drop (i + 1)].flatten⟩ (vL more) q = cntV more q := by
            unfold hpN
            rw [if_neg (by simp)]
            split
            · rename_i hq2
              show cntV [it.take i ++ more ++ it.drop (i + 1)].flatten q = _
              rw [List.flatten_cons, List.flatten_nil, List.append_nil, cntV_append, cntV_append, new_cnt a2.new (fun x hx => hu x (List.mem_of_mem_take hx)) hq2, new_cnt a2.new (fun x hx => hu x (List.mem_of_mem_drop hx)) hq2]
              omega
            · rename_i hq2
              exact (inL_vL.mp (by simpa using hq2)).symm
          rw [this]
          omega
/-- A tree lives where nothing but a higher one's cell is changed. -/
theorem T.frame {g g1 : Hp} {p : Int} {D : Nat} {L : List It} (tp : T g D p L) (H : ∀ r, usedB g r = true → r ≠ p → usedB g1 r = true ∧ (clAt g1 r).n = (clAt g r).n) : ∀ {d : Nat} {q : Int} {l : List It}, T g d q l → d < D → T g1 d q l
  | 0, _, _, t, _ => t.elim
  | d + 1, q, l, t, hd => by
    have hne : q ≠ p := by rintro rfl; have := (t.uniq tp).1; omega
    obtain ⟨u, g1', e⟩ := t
    obtain ⟨u', en⟩ := H q u hne
    refine ⟨u', g1', ?_⟩
    rw [en]
    rcases e with e | ⟨e1, ls, e2, e3⟩
    · exact .inl e
    · exact .inr ⟨e1, ls, e2, e3.imp fun a b _ _ r => ⟨r.1, T.frame tp H r.2 (by omega)⟩⟩
/-- A Ref more. -/
theorem hold_spec {g : Hp} {B : Int} {q : Int} (o : Ok g B) (hB : B ≤ 1000000000000) (u : usedB g q = true) :
    ∃ g1, holdH g q = (g1, 0) ∧ Ok g1 (B + 1) ∧ Le g g1 ∧ (∀ r, usedB g r = true → usedB g1 r = true ∧ (clAt g1 r).n = (clAt g r).n) ∧ 2 ≤ (clAt g1 q).ref ∧ (∀ R : Int → Int, Ct g R → Ct g1 (fun r => R r + one q r)) := by
  obtain ⟨hq, hr⟩ := used_iff.mp u
  have hle := o.le q hq
  refine ⟨moreH g q, by unfold holdH; rw [if_pos u], ?_⟩
  have hw : w64 ((clAt g q).ref + 1) = (clAt g q).ref + 1 := w64_id (by omega) (by omega)
  have hat : ∀ r, inB g r = true → clAt (moreH g q) r = if r = q then ⟨(clAt g q).ref + 1, (clAt g q).pin, (clAt g q).n⟩ else clAt g r := fun r hr => by unfold moreH; rw [clAt_setH hq hr, hw]
  have hin : ∀ r, inB (moreH g q) r = inB g r := fun r => inB_len len_setH r
  have hn : ∀ r, inB g r = true → (clAt (moreH g q) r).n = (clAt g r).n := fun r hr => by
    rw [hat r hr]; split
    · rename_i e; rw [e]
    · rfl
  have huse : ∀ r, usedB (moreH g q) r = usedB g r := fun r => by
    rw [Bool.eq_iff_iff, used_iff, used_iff, hin]
    constructor
    · rintro ⟨a, b⟩
      refine ⟨a, ?_⟩
      rw [hat r a] at b
      split at b
      · rename_i e; rw [e]; exact hr
      · exact b
    · rintro ⟨a, b⟩
      refine ⟨a, ?_⟩
      rw [hat r a]
      split
      · show 0 < (clAt g q).ref + 1; omega
      · exact b
  have hlen : (moreH g q).c.length = g.c.length := len_setH
  have hO : Ok (moreH g q) (B + 1) := by
    refine ⟨by rw [hlen]; exact o.l1, by rw [hlen]; exact o.l2, o.k1, by rw [hlen]; exact o.k2, fun r hr' => ?_, fun r hr' => ?_, fun r hr' h0 => ?_, fun r hr' => ?_, fun r hr' => ?_, fun r hr' hl x hx => ?_⟩
    · rw [hin] at hr'; rw [hat r hr']; split
      · show 0 ≤ (clAt g q).ref + 1; omega
      · exact o.pos r hr'
    · rw [hin] at hr'; rw [hat r hr']; have := o.le r hr'; split
      · show (clAt g q).ref + 1 ≤ _; omega
      · omega
    · rw [hin] at hr'
      rw [hn r hr']
      rw [hat r hr'] at h0
      split at h0
      · exact absurd h0 (by show ¬ (clAt g q).ref + 1 = 0; omega)
      · exact o.zero r hr' h0
    · rw [huse] at hr'
      rw [hat r (used_iff.mp hr').1]
      split
      · exact o.pin q u
      · exact o.pin r hr'
    · rw [huse] at hr'; rw [hn r (used_iff.mp hr').1]; exact o.right r hr'
    · rw [huse] at hr'; rw [hn r (used_iff.mp hr').1] at hl hx; rw [hin]; exact o.plc r hr' hl x hx
  refine ⟨hO, ⟨hlen, rfl, fun r hr' => ?_, fun r hr' => ?_⟩, fun r hr' => ?_, ?_, fun R hR r hr' => ?_⟩
  · rw [huse] at hr'; exact ⟨hr', hn r (used_iff.mp hr').1⟩
  · rw [hat r hr']
    split
    · rename_i e; subst e
      have h1 : freeB (clAt g r) = false := by rw [← Bool.not_eq_true, freeB_iff]; omega
      rw [h1, ← Bool.not_eq_true, freeB_iff]
      show ¬ ((clAt g r).ref + 1 = 0 ∧ _); omega
    · rfl
  · exact ⟨by rw [huse]; exact hr', hn r (used_iff.mp hr').1⟩
  · rw [hat q hq, if_pos rfl]; show 2 ≤ (clAt g q).ref + 1; omega
  · rw [hin] at hr'
    have h1 := hR r hr'
    have h2 : tot (moreH g q) r = tot g r := by
      rw [tot_tl hO, tot_tl o, hlen]
      exact sumN_congr fun i hi => by rw [hn _ (inB_iff.mpr (by omega))]
    rw [h2, hat r hr']
    dsimp only
    unfold one
    split
    · rename_i e; subst e; show (clAt g r).ref + 1 = _; omega
    · omega
/-- A node of one item goes: nothing else but it. -/
theorem loose_one {f : Nat} {h g : Hp} {p : Int} {x : It} (e : looseO (f + 2) h p = some g) (u : usedB h p = true) (hl : (clAt h p).n.leaf = false) (hi : (clAt h p).n.it = [x]) (hx : inB h x.v = true) (hr : 2 ≤ (clAt h x.v).ref) (hne : x.v ≠ p) : ∀ r, usedB h r = true → r ≠ p → usedB g r = true ∧ (clAt g r).n = (clAt h r).n := by
  intro r hur hrp
  obtain ⟨hp, hp0⟩ := used_iff.mp u
  obtain ⟨hrin, hr0⟩ := used_iff.mp hur
  unfold looseO at e
  split at e
  · rw [if_neg (by omega)] at e
    split at e
    · simp only [Option.some.injEq] at e
      rw [← e, used_iff, inB_setH, clAt_setH hp hrin, if_neg hrp]
      exact ⟨⟨hrin, hr0⟩, rfl⟩
    · rw [hl, if_neg (by simp), hi] at e
      have e' : looseO (f + 1) (setH h p ⟨0, true, zNd⟩) x.v = some g := by
        rw [List.foldlM_cons] at e
        cases hq : looseO (f + 1) (setH h p ⟨0, true, zNd⟩) x.v with
        | none => rw [hq] at e; simp at e
        | some g' => rw [hq] at e; simpa using e
      have hx2 : clAt (setH h p ⟨0, true, zNd⟩) x.v = clAt h x.v := by rw [clAt_setH hp hx, if_neg hne]
      have hx3 : inB (setH h p ⟨0, true, zNd⟩) x.v = true := by rw [inB_setH]; exact hx
      have hr3 : inB (setH h p ⟨0, true, zNd⟩) r = true := by rw [inB_setH]; exact hrin
      unfold looseO at e'
      split at e'
      · rw [hx2, if_neg (by omega), if_pos (by omega)] at e'
        simp only [Option.some.injEq] at e'
        rw [← e', used_iff, inB_setH, clAt_setH hx3 hr3]
        by_cases h1 : r = x.v
        · rw [if_pos h1, h1]; exact ⟨⟨hx3, by show 0 < (clAt h x.v).ref - 1; omega⟩, rfl⟩
        · rw [if_neg h1, clAt_setH hp hrin, if_neg hrp]; exact ⟨⟨hr3, hr0⟩, rfl⟩
      · cases e'
  · cases e
/-- A root is gone down from. -/
theorem low_spec : ∀ (d f : Nat) (g : Hp) (p : Int) (l : List It) (B : Int), d ≤ f → d ≤ 21 → Ok g B → B + d ≤ 1000000000 → T g d p l →
    ∃ g1 p1 d1, lowO f g p = some (g1, p1) ∧ Ok g1 (B + d) ∧ Le g g1 ∧ T g1 d1 p1 l ∧ d1 ≤ d ∧ (∀ R : Int → Int, Ct g R → (∀ q, 0 ≤ R q) → 1 ≤ R p → Ct g1 (fun q => R q - one p q + one p1 q))
  | 0, _, _, _, _, _, _, _, _, _, t => t.elim
  | d + 1, 0, _, _, _, _, hd, _, _, _, _ => by omega
  | d + 1, f + 1, g, p, l, B, hd, hd21, o, hB, t => by
    have u := t.used
    have stay : ∃ g1 p1 d1, some (g, p) = some (g1, p1) ∧ Ok g1 (B + (d + 1 : Nat)) ∧ Le g g1 ∧ T g1 d1 p1 l ∧ d1 ≤ d + 1 ∧ (∀ R : Int → Int, Ct g R → (∀ q, 0 ≤ R q) → 1 ≤ R p → Ct g1 (fun q => R q - one p q + one p1 q)) :=
      ⟨g, p, d + 1, rfl, o.wide (by omega), Le.refl g, t, Nat.le_refl _, fun R hR _ _ => hR.congr fun q _ => by omega⟩
    unfold lowO
    rw [if_neg (neg_of_used u), if_pos (used_iff.mp u).1]
    cases hl : (clAt g p).n.leaf with
    | true => rw [if_pos rfl]; exact stay
    | false =>
      rw [if_neg (by simp)]
      obtain ⟨d', ed, ls, el, ff⟩ := t.inner hl
      obtain rfl : d = d' := by omega
      match hi : (clAt g p).n.it with
      | [] => rw [hi] at ff; cases ff; exact absurd el t.gd.ne
      | _ :: _ :: _ => exact stay
      | [x] =>
        rw [hi] at ff
        cases ff with
        | cons r rest =>
          cases rest
          rename_i li
          obtain ⟨_, tx⟩ := r
          have ell : l = li := by rw [el]; simp
          subst ell
          have hne : x.v ≠ p := by rintro e; rw [e] at tx; have := (tx.uniq t).1; omega
          obtain ⟨h1, e1, o1, x1, k1, r1, c1⟩ := hold_spec o (by omega) tx.used
          have u1 := (k1 p u).1
          have t1 : T h1 (d + 1) p l := t.ext ⟨x1.len, x1.keep, k1⟩
          have tx1 : T h1 d x.v l := tx.ext ⟨x1.len, x1.keep, k1⟩
          obtain ⟨g2, e2, o2, x2, c2⟩ := loose_spec 25 (d + 1) h1 p (B + 1) (by omega) o1 (by omega) t1.wk
          have fr := loose_one (f := 23) e2 u1 (by rw [(k1 p u).2]; exact hl) (by rw [(k1 p u).2]; exact hi) (by rw [inB_len x1.len]; exact (used_iff.mp tx.used).1) r1 hne
          have tx2 := T.frame t1 fr tx1 (by omega)
          obtain ⟨g3, p3, d3, e3, o3, x3, t3, hd3, c3⟩ := low_spec d f g2 x.v l (B + 1) (by omega) (by omega) o2 (by omega) tx2
          refine ⟨g3, p3, d3, ?_, o3.wide (by omega), (x1.trans x2).trans x3, t3, by omega, fun R hR hR0 hRp => ?_⟩
          · show ((looseH 25 (holdH g x.v).1 p).bind fun g => lowO f g.1 x.v) = _
            rw [e1]
            unfold looseH
            rw [if_pos u1, e2]
            exact e3
          · have a1 := c2 _ (c1 R hR) (fun q => by have := hR0 q; have := one_nonneg x.v q; (try dsimp only); omega) (by have := one_nonneg x.v p; (try dsimp only); omega)
            refine (c3 _ a1 (fun q => ?_) ?_).congr fun q _ => ?_
            · have := hR0 q; have := one_nonneg x.v q
              (try dsimp only)
              by_cases e : q = p
              · rw [if_pos e, e]; have := one_nonneg x.v p; omega
              · rw [if_neg e]; omega
            · (try dsimp only)
              rw [if_neg hne, one_self]; have := hR0 x.v; omega
            · (try dsimp only)
              have : (if q = p then (1 : Int) else 0) = one p q := rfl
              omega
end Go.Proofs.Ytopkoganfnabgaa.H
namespace Go.Proofs.Ytopkoganfnabgaa.H
/-- What a Del that is done comes to. -/
structure DelOk (h g : Hp) (root p : Int) (d : Nat) (l' : List It) (B : Int) : Prop where
  ok : Ok g B
  len : g.c.length = h.c.length
  keep : g.keep = h.keep
  lo : freeN h ≤ freeN g + d
  fine : Ct h (one root) → Hts h → Ct g (one p) ∧ Hts g ∧ ∃ d', d' ≤ d ∧ Rt g p d' l'
theorem looseH_spec {g : Hp} {d : Nat} {p B : Int} (hd : d ≤ 25) (o : Ok g B) (hB : B ≤ 1000000000000) (w : Wk g d p) :
    ∃ g' e, looseH 25 g p = some (g', e) ∧ Ok g' B ∧ Le g g' ∧ (∀ R : Int → Int, Ct g R → (∀ q, 0 ≤ R q) → 1 ≤ R p → Ct g' (fun q => R q - one p q)) := by
  obtain ⟨g', e, o', x, c⟩ := loose_spec 25 d g p B hd o hB w
  unfold looseH
  cases hu : usedB g p with
  | true => rw [if_pos rfl, e]; exact ⟨g', 0, rfl, o', x, c⟩
  | false =>
    rw [if_neg (by simp)]
    refine ⟨g, 4, rfl, o, Le.refl g, fun R hR hR0 hRp => ?_⟩
    exfalso
    have hin : inB g p = true := by cases d with
      | zero => exact w.elim
      | succ d => exact w.1
    have := hR p hin
    have : usedB g p = true := used_iff.mpr ⟨hin, by omega⟩
    rw [hu] at this; cases this
theorem getL_cases (l : List It) (key : Int) : ((∃ y ∈ l, y.k = key) ∧ (getL l key).2 = 0) ∨ ((∀ y ∈ l, y.k ≠ key) ∧ (getL l key).2 = 4) := by
  by_cases h : ∃ y ∈ l, y.k = key
  · refine .inl ⟨h, ?_⟩
    unfold getL
    cases hf : l.find? (fun x => decide (x.k = key)) with
    | none =>
      obtain ⟨y, hy, e⟩ := h
      have := (List.find?_eq_none.mp hf) y hy
      simp [e] at this
    | some x => rfl
  · have h' : ∀ y ∈ l, y.k ≠ key := fun y hy e => h ⟨y, hy, e⟩
    exact .inr ⟨h', by rw [getL_none h']⟩
theorem fits_true (h : Hp) (n : Int) : fitsH h n true = decide (n ≤ (freeN h : Int)) := rfl
theorem del_spec {h : Hp} {B : Int} {root : Int} {d : Nat} {l : List It} (key : Int) (o : Ok h B) (hB1 : 1 ≤ B) (hB : B ≤ 100000000) (t : Rt h root d l) :
    ∃ g p e, delO h root key = some (g, p, e) ∧
      ((e = 4 ∧ g = h ∧ p = root ∧ (∀ y ∈ l, y.k ≠ key)) ∨
       (e = 3 ∧ g = h ∧ p = root ∧ (∃ y ∈ l, y.k = key) ∧ ¬ d ≤ freeN h) ∨
       (e = 0 ∧ (∃ y ∈ l, y.k = key) ∧ d ≤ freeN h ∧ DelOk h g root p d (del l key) (B + 200))) := by
  have hd20 : d ≤ 20 := by rcases t with ⟨_, rfl, _⟩ | ⟨h, _⟩ <;> omega
  unfold delO
  rw [t.tget o key, t.high]
  simp only [Option.bind_some]
  rcases getL_cases l key with ⟨hk, h0⟩ | ⟨hk, h0⟩
  · rw [h0, if_neg (by simp), fits_true]
    by_cases hf : d ≤ freeN h
    · rw [decide_eq_true (by omega), if_neg (by simp)]
      have tt : T h d root l := by
        rcases t with ⟨_, _, rfl⟩ | ⟨_, t⟩
        · obtain ⟨y, hy, _⟩ := hk; cases hy
        · exact t
      obtain ⟨g, made, ls, a1, a2, a3, a4, a5, a6⟩ := xnew_spec d 20 h root l key B hd20 o hB1 (by omega) tt hk hf
      rw [a1]
      simp only [Option.bind_some]
      have tg := tt.ext a2.ext
      match made, ls, a2, a3, a4, a6 with
      | [], ls, a2, a3, _, a6 =>
        have hls : ls = [] := by have := a2.tr; cases this; rfl
        obtain ⟨g2, e2, b1, b2, b3, b4⟩ := looseH_spec (by omega) a2.ok (by omega) tg.wk
        have : downO g [] = some (g, -1) := rfl
        rw [this]
        simp only [Option.bind_some]
        rw [b1]
        refine ⟨g2, -1, 0, rfl, .inr (.inr ⟨rfl, hk, hf, b2.wide (by omega), b3.len.trans a2.ext.len, b3.keep.trans a2.ext.keep, by rw [freeN_le b3]; exact a5, fun hc hh => ?_⟩)⟩
        have c1 := b4 _ (a6 _ hc) (fun q => by have := one_nonneg root q; rw [cntV_nil]; (try dsimp only); omega) (by have := one_self root; rw [cntV_nil]; (try dsimp only); omega)
        have c2 : Ct g2 (one (-1)) := c1.congr fun q hq => by
          (try dsimp only)
          rw [cntV_nil]
          have : one (-1) q = 0 := by unfold one; rw [if_neg (by have := (inB_iff.mp hq).1; omega)]
          omega
        refine ⟨c2, fun q hq => ?_, 0, by omega, .inl ⟨rfl, rfl, by rw [← a3, hls]; rfl⟩⟩
        have hg := (b3.use q hq).1
        rcases a2.hts q hg with hu | ⟨d2, l2, h1, h2⟩
        · obtain ⟨d2, l2, h1, h2⟩ := hh q hu
          exact ⟨d2, l2, h1, T.keep b2 c2 (one_nonneg _) b3 (h2.ext a2.ext) hq⟩
        · exact ⟨d2, l2, by omega, T.keep b2 c2 (one_nonneg _) b3 h2 hq⟩
      | y :: r, ls, a2, a3, a4, a6 =>
        have hr : r = [] := List.length_eq_zero_iff.mp (by simp only [List.length_cons] at a4; omega)
        subst hr
        have tr := a2.tr
        cases tr with
        | cons rr rest =>
          cases rest
          rename_i li
          have e : li = del l key := by rw [← a3]; simp
          rw [e] at rr
          obtain ⟨g1, p1, d1, e1, o1, x1, t1, hd1, c1⟩ := low_spec d 21 g y.v (del l key) (B + 8 * d) (by omega) (by omega) a2.ok (by omega) rr.2
          obtain ⟨g2, e2, b1, b2, b3, b4⟩ := looseH_spec (by omega) o1 (by omega) (tg.wk.le x1)
          have : downO g [y] = some (g1, p1) := e1
          rw [this]
          simp only [Option.bind_some]
          rw [b1]
          refine ⟨g2, p1, 0, rfl, .inr (.inr ⟨rfl, hk, hf, b2.wide (by omega), b3.len.trans (x1.len.trans a2.ext.len), b3.keep.trans (x1.keep.trans a2.ext.keep), by rw [freeN_le b3, freeN_le x1]; exact a5, fun hc hh => ?_⟩)⟩
          have k0 := a6 _ hc
          have hcy : ∀ q, ((cntV [y] q : Nat) : Int) = one y.v q := fun q => by rcases y with ⟨k, v⟩; exact cntV_one k v q
          have k1 := c1 _ k0 (fun q => by have := one_nonneg root q; (try dsimp only); omega) (by have := one_nonneg root y.v; (try dsimp only); rw [hcy, one_self]; omega)
          have k2 := b4 _ k1 (fun q => by have := one_nonneg root q; have := one_nonneg p1 q; have := hcy q; (try dsimp only); omega) (by have := one_self root; have := one_nonneg p1 root; have := hcy root; (try dsimp only); omega)
          have k3 : Ct g2 (one p1) := k2.congr fun q _ => by have := hcy q; (try dsimp only); omega
          have hup : usedB g2 p1 = true := by
            have hin : inB g2 p1 = true := by rw [inB_len b3.len]; exact (used_iff.mp t1.used).1
            have := k3 p1 hin
            rw [one_self] at this
            exact used_iff.mpr ⟨hin, by omega⟩
          refine ⟨k3, fun q hq => ?_, d1, hd1, .inr ⟨by omega, T.keep b2 k3 (one_nonneg _) b3 t1 hup⟩⟩
          have x2 := x1.trans b3
          have hg := (x2.use q hq).1
          rcases a2.hts q hg with hu | ⟨d2, l2, h1, h2⟩
          · obtain ⟨d2, l2, h1, h2⟩ := hh q hu
            exact ⟨d2, l2, h1, T.keep b2 k3 (one_nonneg _) x2 (h2.ext a2.ext) hq⟩
          · exact ⟨d2, l2, by omega, T.keep b2 k3 (one_nonneg _) x2 h2 hq⟩
    · rw [decide_eq_false (by omega), if_pos rfl]
      exact ⟨h, root, 3, rfl, .inr (.inl ⟨rfl, rfl, rfl, hk, hf⟩)⟩
  · rw [h0, if_pos (by decide)]
    exact ⟨h, root, 4, rfl, .inl ⟨rfl, rfl, rfl, hk⟩⟩
/-- Low is defined in each right tree, and goes to a tree of the same items. -/
theorem low_some {h : Hp} {B : Int} {root : Int} {d : Nat} {l : List It} (o : Ok h B) (hB : B ≤ 100000000) (t : Rt h root d l) : ∃ g p, lowO 21 h root = some (g, p) := by
  rcases t with ⟨rfl, rfl, rfl⟩ | ⟨hd, t⟩
  · exact ⟨h, -1, rfl⟩
  · obtain ⟨g1, p1, _, e, _⟩ := low_spec d 21 h root l B (by omega) (by omega) o (by omega) t
    exact ⟨g1, p1, e⟩
theorem scanL_sub {lo hi : Int} {l : List It} : ∀ y ∈ scanL lo hi l, y ∈ l := fun y hy => (List.mem_filter.mp hy).1
theorem scanL_cons {lo hi : Int} {l : List It} (up : l.Pairwise fun a b => a.k < b.k) {x : It} {r : List It} (e : scanL lo hi l = x :: r) : scanL lo hi (del l x.k) = r := by
  have hr : ∀ y ∈ r, x.k < y.k := by
    have := up.sublist (l₁ := scanL lo hi l) List.filter_sublist
    rw [e] at this
    exact fun y hy => List.rel_of_pairwise_cons this hy
  unfold scanL del at *
  rw [List.filter_filter]
  have : (l.filter fun a => (decide (lo ≤ a.k) && decide (a.k < hi)) && decide (a.k ≠ x.k)) = (l.filter fun a => decide (lo ≤ a.k) && decide (a.k < hi)).filter fun a => decide (a.k ≠ x.k) := by
    rw [List.filter_filter]; exact List.filter_congr fun a _ => by rw [Bool.and_comm]
  rw [this, e, List.filter_cons, if_neg (by simp)]
  exact List.filter_eq_self.mpr fun y hy => by have := hr y hy; simp; omega
end Go.Proofs.Ytopkoganfnabgaa.H
namespace Go.Proofs.Ytopkoganfnabgaa.H
/-- The example of the laws of grow, told by the plain functions. -/
def h20 : Hp := ⟨List.replicate 20 zCl, 0⟩
def l5 : List It := [⟨1, 1⟩, ⟨2, 2⟩, ⟨3, 3⟩, ⟨4, 4⟩, ⟨5, 5⟩]
end Go.Proofs.Ytopkoganfnabgaa.H
namespace Go.Proofs.Ytopkoganfnabgaa.H
open Go.RowKit Go.Proofs.YtopkoganfnabgaaW.PrintWords Go.Proofs.YtopkoganfnabgaaW.PrintLast Go.Proofs.YtopkoganfnabgaaW.PrintMore
attribute [local go_sem] max2_int min2_int max_two min_two max_three min_three max_four min_four
set_option linter.unusedVariables false
set_option linter.unusedSimpArgs false
end Go.Proofs.Ytopkoganfnabgaa.H
namespace Go.Proofs.Ytopkoganfnabgaa.H
open Go.RowKit Go.Proofs.YtopkoganfnabgaaW.PrintWords Go.Proofs.YtopkoganfnabgaaW.PrintLast Go.Proofs.YtopkoganfnabgaaW.PrintMore
attribute [local go_sem] max2_int min2_int max_two min_two max_three min_three max_four min_four
set_option linter.unusedVariables false
set_option linter.unusedSimpArgs false
theorem given_walk (p : Int) (w : World) : Calls Try.prog 107 #[.slice none 0 0, .int .i64 p] w fun e w' => e = .returned (.int .i64 0) ∧ w = w' := by
  go_enter Try.func107, Try.ntmps107
  go_wp2
  refine wp_loop_rounds 1 ?_
  rw [rounds_succ]; go_wp2
  go_ret
  exact ⟨rfl, rfl⟩
theorem right06_walk (n : Int) (w : World) : Calls Try.prog 104 #[.slice none 0 0, .int .i64 n] w fun e w' => e = .returned (.bool true) ∧ w = w' := by
  go_enter Try.func104, Try.ntmps104
  go_wp2
  refine wp_loop_rounds 1 ?_
  rw [rounds_succ]; go_wp2
  go_ret
  exact ⟨rfl, rfl⟩
theorem filt_succ {α : Type} (l : List α) (p : α → Bool) (z : α) (k : Nat) (hk : k < l.length) : ((l.take (k + 1)).filter p).length = ((l.take k).filter p).length + if p (l.getD k z) = true then 1 else 0 := by
  rw [List.take_succ_eq_append_getElem hk, List.filter_append, List.length_append, List.getD_eq_getElem?_getD, List.getElem?_eq_getElem hk]
  simp only [List.filter_cons, List.filter_nil, Option.getD_some]
  split <;> rfl
theorem filt_le {α : Type} (l : List α) (p : α → Bool) (k : Nat) : ((l.take k).filter p).length ≤ k := Nat.le_trans (List.length_filter_le _ _) (by rw [List.length_take]; omega)
set_option maxHeartbeats 2000000 in
theorem outside_walk (A : Option Addr) (c : Nat) (l : List Int) (q : Int) (w : World) (hr : (Kd.int .i64).C w A l.length l) :
    Calls Try.prog 108 #[.slice A l.length c, .slice none 0 0, .int .i64 q] w fun e w' => e = .returned (.int .i64 (cntI l q : Nat)) ∧ w = w' := by
  have hm := Kd.C_max hr
  have HR := Aside0.mk hr
  clear hr
  go_enter Try.func108, Try.ntmps108
  go_wp2
  go_loopg [7, 8] l.length (fun g s7 s8 wr => ∃ k : Nat, s8 = .int .i64 k ∧ k + g = l.length ∧ s7 = .int .i64 (((l.take k).filter fun x => decide (x = q)).length : Nat) ∧ Aside0 (w = wr))
  case atStart => exact ⟨0, rfl, by omega, rfl, ⟨rfl⟩⟩
  case round =>
    obtain ⟨k, rfl, hk, rfl, HE⟩ := hrel
    have he := HE.out
    subst he
    by_cases hlt : k < l.length
    · obtain ⟨g1, rfl⟩ : ∃ g1, gk = g1 + 1 := ⟨gk - 1, by omega⟩
      have r1 : decide (k < l.length) = true := decide_eq_true hlt
      have r2 : (k < l.length) = True := eq_true hlt
      obtain ⟨ad, rfl, hx⟩ := Kd.at_int HR.out (k : Int) (by omega) (by omega)
      rw [Int.toNat_natCast] at hx
      obtain ⟨x, hxx⟩ : ∃ x, x = rd l (k : Int) := ⟨_, rfl⟩
      have hs := filt_succ l (fun x => decide (x = q)) 0 k hlt
      have hl := filt_le l (fun x => decide (x = q)) k
      rw [show l.getD k 0 = x by rw [hxx]; unfold rd; rw [Int.toNat_natCast]] at hs
      rw [← hxx] at hx
      obtain ⟨C, hC⟩ : ∃ C, C = ((l.take k).filter fun x => decide (x = q)).length := ⟨_, rfl⟩
      rw [← hC] at hs hl ⊢
      have HK := Aside0.mk hk
      have HW := Aside0.mk (show wrap64 ((k : Int) + 1) = ((k + 1 : Nat) : Int) by unfold wrap64; omega)
      have HW2 := Aside0.mk (show wrap64 ((C : Int) + 1) = ((C + 1 : Nat) : Int) by unfold wrap64; omega)
      by_cases e1 : x = q
      · have q1 : (x == q) = true := beq_iff_eq.mpr e1
        rw [if_pos (decide_eq_true e1)] at hs
        have HS := Aside0.mk hs
        clear hs hl hC hxx hlt hk e1
        go_wp2
        go_roundg g1
        case measure => omega
        case rel => exact ⟨k + 1, by rw [HW.out], by have := HK.out; omega, by rw [HS.out, HW2.out], ⟨rfl⟩⟩
      · have q1 : (x == q) = false := beq_eq_false_iff_ne.mpr e1
        rw [if_neg (by simpa using e1)] at hs
        have HS := Aside0.mk hs
        clear hs hl hC hxx hlt hk e1
        go_wp2
        go_roundg g1
        case measure => omega
        case rel => exact ⟨k + 1, by rw [HW.out], by have := HK.out; omega, by rw [HS.out, Nat.add_zero], ⟨rfl⟩⟩
    · have r1 : decide (k < l.length) = false := decide_eq_false hlt
      have r2 : (k < l.length) = False := eq_false hlt
      have HC := Aside0.mk (show ((l.take k).filter fun x => decide (x = q)).length = cntI l q by unfold cntI; rw [List.take_of_length_le (by omega)])
      clear hlt hk
      go_wp2
      refine wp_loop_rounds 1 ?_
      rw [rounds_succ]; go_wp2
      go_ret
      exact ⟨ret_i (by rw [HC.out]), rfl⟩
set_option maxHeartbeats 4000000 in
set_option maxRecDepth 100000 in
theorem tells_walk (A : Option Addr) (c : Nat) (h : Hp) (p : Nat) (q : Int) (w : World) (hr : kCl.C w A h.c.length h.c) (hp : p < h.c.length) :
    Calls Try.prog 109 #[.agg #[.slice A h.c.length c, .int .i64 h.keep], .slice none 0 0, .int .i64 p, .int .i64 q] w fun e w' => e = .returned (.int .i64 (tellsN h p q : Nat)) ∧ Below w.heap.size w w' := by
  obtain ⟨ad, B, cb, rfl, x0, x1, x2, x3, hcb, hB⟩ := at_cl hr p hp
  have htell : tellsN h p q = if (decide (0 < (h.c.getD p zCl).ref) && !(h.c.getD p zCl).n.leaf) = true then cntV (h.c.getD p zCl).n.it q else 0 := rfl
  obtain ⟨x, hx⟩ : ∃ x, x = h.c.getD p zCl := ⟨_, rfl⟩
  rw [← hx] at x0 x1 x2 x3 hB htell
  rw [htell]
  have q2 : (p < h.c.length) = True := eq_true hp
  have y0 := al1 x0
  have y1 := al1 x1
  have y2 := al1 x2
  have y3 := al1 x3
  have hm := Kd.C_max hB
  have HBI := Aside0.mk hB
  obtain ⟨lf, hlf⟩ : ∃ lf, lf = x.n.leaf := ⟨_, rfl⟩
  rw [← hlf] at y2 ⊢
  clear x0 x1 x2 x3 hx hlf hr hB htell hcb hp
  obtain ⟨l, hl⟩ : ∃ l, l = x.n.it := ⟨_, rfl⟩
  rw [← hl] at y3 HBI hm ⊢
  clear hl
  by_cases e0 : 0 < x.ref
  · have d0 : decide (0 < x.ref) = true := decide_eq_true e0
    rw [d0]
    clear e0
    cases lf with
    | true =>
      by_cases h0 : 0 < l.length
      · have r1 : decide (0 < l.length) = true := decide_eq_true h0
        have r2 : (0 < l.length) = True := eq_true h0
        have r3 : decide ((0 : Int) < (l.length : Int)) = true := decide_eq_true (by omega)
        clear h0
        go_enter Try.func109, Try.ntmps109
        go_wp2_with (first | (go_at_call 107; (with_reducible refine (given_walk _ _).mono ?_); rintro e w' ⟨rfl, rfl⟩) | fail)
        refine wp_loop_rounds 1 ?_
        rw [rounds_succ]; go_wp2
        go_ret
        exact ⟨rfl, by repeat (first | (with_reducible exact Below.refl _ _) | (with_reducible refine below_alloc ?_ _) | (with_reducible refine below_drew1 ?_) | (with_reducible refine pw_below_drewN ?_ _) | fail)⟩
      · have r1 : decide (0 < l.length) = false := decide_eq_false h0
        have r2 : (0 < l.length) = False := eq_false h0
        have r3 : decide ((0 : Int) < (l.length : Int)) = false := decide_eq_false (by omega)
        clear h0
        go_enter Try.func109, Try.ntmps109
        go_wp2_with (first | (go_at_call 107; (with_reducible refine (given_walk _ _).mono ?_); rintro e w' ⟨rfl, rfl⟩) | fail)
        refine wp_loop_rounds 1 ?_
        rw [rounds_succ]; go_wp2
        go_ret
        exact ⟨rfl, by repeat (first | (with_reducible exact Below.refl _ _) | (with_reducible refine below_alloc ?_ _) | (with_reducible refine below_drew1 ?_) | (with_reducible refine pw_below_drewN ?_ _) | fail)⟩
    | false =>
      rw [if_pos (by rfl)]
      go_enter Try.func109, Try.ntmps109
      go_wp2_with (first | (go_at_call 107; (with_reducible refine (given_walk _ _).mono ?_); rintro e w' ⟨rfl, rfl⟩) | fail)
      obtain ⟨W2, hW2⟩ : ∃ W2, W2 = (w.alloc (.cells #[.slice (some ad) h.c.length c, .int .i64 h.keep] 24)).alloc (.cells #[.int .i64 x.ref, .bool x.pin, .bool false, .slice B l.length cb] 79) := ⟨_, rfl⟩
      have HB0 := Aside0.mk (show Below w.heap.size w W2 by rw [hW2]; exact below_alloc (below_alloc (Below.refl _ _) _) _)
      have HBC := Aside0.mk (show W2.heap[w.heap.size + 1]? = some (.cells #[.int .i64 x.ref, .bool x.pin, .bool false, .slice B l.length cb] 79) by rw [hW2]; exact blk2 w _ _)
      have HR2 := Aside0.mk (Kd.C_below HBI.out HB0.out)
      rw [← hW2]
      clear hW2 y0 y1 y2 y3 q2
      go_loopg [10, 11] l.length (fun g s10 s11 wr => ∃ k : Nat, s11 = .int .i64 k ∧ k + g = l.length ∧ s10 = .int .i64 (((l.take k).filter fun x => decide (x.v = q)).length : Nat) ∧ Aside0 (wr = W2))
      case atStart => exact ⟨0, rfl, by omega, rfl, ⟨rfl⟩⟩
      case round =>
        obtain ⟨k, rfl, hk, rfl, HE⟩ := hrel
        have he := HE.out
        subst he
        have c0 := (blk_cell HBC.out 0).trans (show _ = some (Value.int .i64 x.ref) from rfl)
        have c2 := (blk_cell HBC.out 2).trans (show _ = some (Value.bool false) from rfl)
        have c3 := (blk_cell HBC.out (2 + 1)).trans (show _ = some (Value.slice B l.length cb) from rfl)
        by_cases hlt : k < l.length
        · obtain ⟨g1, rfl⟩ : ∃ g1, gk = g1 + 1 := ⟨gk - 1, by omega⟩
          have r1 : decide (k < l.length) = true := decide_eq_true hlt
          have r2 : (k < l.length) = True := eq_true hlt
          obtain ⟨ad2, rfl, _, z1⟩ := at_it HR2.out k hlt
          obtain ⟨y, hy⟩ : ∃ y, y = itAt l k := ⟨_, rfl⟩
          have hs := filt_succ l (fun x => decide (x.v = q)) zIt k hlt
          have hl := filt_le l (fun x => decide (x.v = q)) k
          rw [show l.getD k zIt = y from hy.symm] at hs
          rw [← hy] at z1
          obtain ⟨C, hC⟩ : ∃ C, C = ((l.take k).filter fun x => decide (x.v = q)).length := ⟨_, rfl⟩
          rw [← hC] at hs hl ⊢
          have HK := Aside0.mk hk
          have HW := Aside0.mk (show wrap64 ((k : Int) + 1) = ((k + 1 : Nat) : Int) by unfold wrap64; omega)
          have HW2 := Aside0.mk (show wrap64 ((C : Int) + 1) = ((C + 1 : Nat) : Int) by unfold wrap64; omega)
          by_cases e1 : y.v = q
          · have q1 : (y.v == q) = true := beq_iff_eq.mpr e1
            rw [if_pos (decide_eq_true e1)] at hs
            have HS := Aside0.mk hs
            clear hs hl hC hy hlt hk e1
            go_wp2
            go_roundg g1
            case measure => omega
            case rel => exact ⟨k + 1, by rw [HW.out], by have := HK.out; omega, by rw [HS.out, HW2.out], ⟨rfl⟩⟩
          · have q1 : (y.v == q) = false := beq_eq_false_iff_ne.mpr e1
            rw [if_neg (by simpa using e1)] at hs
            have HS := Aside0.mk hs
            clear hs hl hC hy hlt hk e1
            go_wp2
            go_roundg g1
            case measure => omega
            case rel => exact ⟨k + 1, by rw [HW.out], by have := HK.out; omega, by rw [HS.out, Nat.add_zero], ⟨rfl⟩⟩
        · have r1 : decide (k < l.length) = false := decide_eq_false hlt
          have r2 : (k < l.length) = False := eq_false hlt
          have HC := Aside0.mk (show ((l.take k).filter fun x => decide (x.v = q)).length = cntV l q by unfold cntV; rw [List.take_of_length_le (by omega)])
          clear hlt hk
          go_wp2
          go_ret
          exact ⟨ret_i (by rw [HC.out]), HB0.out⟩
  · have d0 : decide (0 < x.ref) = false := decide_eq_false e0
    rw [d0]
    clear e0
    by_cases h0 : 0 < l.length
    · have r1 : decide (0 < l.length) = true := decide_eq_true h0
      have r2 : (0 < l.length) = True := eq_true h0
      have r3 : decide ((0 : Int) < (l.length : Int)) = true := decide_eq_true (by omega)
      clear h0
      go_enter Try.func109, Try.ntmps109
      go_wp2_with (first | (go_at_call 107; (with_reducible refine (given_walk _ _).mono ?_); rintro e w' ⟨rfl, rfl⟩) | fail)
      refine wp_loop_rounds 1 ?_
      rw [rounds_succ]; go_wp2
      go_ret
      exact ⟨rfl, by repeat (first | (with_reducible exact Below.refl _ _) | (with_reducible refine below_alloc ?_ _) | (with_reducible refine below_drew1 ?_) | (with_reducible refine pw_below_drewN ?_ _) | fail)⟩
    · have r1 : decide (0 < l.length) = false := decide_eq_false h0
      have r2 : (0 < l.length) = False := eq_false h0
      have r3 : decide ((0 : Int) < (l.length : Int)) = false := decide_eq_false (by omega)
      clear h0
      go_enter Try.func109, Try.ntmps109
      go_wp2_with (first | (go_at_call 107; (with_reducible refine (given_walk _ _).mono ?_); rintro e w' ⟨rfl, rfl⟩) | fail)
      refine wp_loop_rounds 1 ?_
      rw [rounds_succ]; go_wp2
      go_ret
      exact ⟨rfl, by repeat (first | (with_reducible exact Below.refl _ _) | (with_reducible refine below_alloc ?_ _) | (with_reducible refine below_drew1 ?_) | (with_reducible refine pw_below_drewN ?_ _) | fail)⟩
end Go.Proofs.Ytopkoganfnabgaa.H
namespace Go.Proofs.Ytopkoganfnabgaa.H
open Go.RowKit Go.Proofs.YtopkoganfnabgaaW.PrintWords Go.Proofs.YtopkoganfnabgaaW.PrintLast Go.Proofs.YtopkoganfnabgaaW.PrintMore
attribute [local go_sem] max2_int min2_int max_two min_two max_three min_three max_four min_four
set_option linter.unusedVariables false
set_option linter.unusedSimpArgs false
theorem tellsN_le {h : Hp} {p : Nat} {q : Int} {b : Nat} (hb : ∀ i, i < h.c.length → (h.c.getD i zCl).n.it.length ≤ b) (hp : p < h.c.length) : tellsN h p q ≤ b := by
  unfold tellsN cntV
  split
  · exact Nat.le_trans (List.length_filter_le _ _) (hb p hp)
  · omega
theorem sumN_le {f : Nat → Nat} {b : Nat} : ∀ n, (∀ i, i < n → f i ≤ b) → sumN f n ≤ n * b
  | 0, _ => by simp [sumN]
  | n + 1, h => by
    have := sumN_le n (fun i hi => h i (by omega))
    have h2 := h n (by omega)
    rw [sumN, Nat.succ_mul]
    omega
theorem cntI_le (l : List Int) (q : Int) : cntI l q ≤ l.length := List.length_filter_le _ _
def refsL (h : Hp) (roots : List Int) (k : Nat) : List Int := (List.range k).map fun q => (refsN h roots q : Int)
theorem refsL_succ (h : Hp) (roots : List Int) (k : Nat) : refsL h roots (k + 1) = refsL h roots k ++ [(refsN h roots k : Int)] := by unfold refsL; rw [List.range_succ, List.map_append]; rfl
set_option maxHeartbeats 4000000 in
set_option maxRecDepth 100000 in
theorem refs_walk (A Ar : Option Addr) (c cr : Nat) (h : Hp) (roots : List Int) (w : World) (hr : kCl.C w A h.c.length h.c) (hrr : (Kd.int .i64).C w Ar roots.length roots) (hl : h.c.length ≤ 2000) (hrl : roots.length ≤ 1000) (hit : ∀ i, i < h.c.length → (h.c.getD i zCl).n.it.length ≤ 10) :
    Calls Try.prog 90 #[.agg #[.slice A h.c.length c, .int .i64 h.keep], .slice Ar roots.length cr, .slice none 0 0] w fun e w' => ∃ B cb, e = .returned (.slice B h.c.length cb) ∧ (Kd.int .i64).C w' B h.c.length (refsL h roots h.c.length) ∧ Below w.heap.size w w' := by
  obtain ⟨W1, hW1⟩ : ∃ W1, W1 = w.alloc (.cells #[.slice A h.c.length c, .int .i64 h.keep] 24) := ⟨_, rfl⟩
  have HB0 := Aside0.mk (show Below w.heap.size w W1 by rw [hW1]; exact below_alloc (Below.refl _ _) _)
  have HBH := Aside0.mk (show W1.heap[w.heap.size]? = some (.cells #[.slice A h.c.length c, .int .i64 h.keep] 24) by rw [hW1]; exact blk_new w _)
  have HOUT0 := Aside0.mk (fun (q : Int) (W : World) (hb : Below W1.heap.size W1 W) => outside_walk Ar cr roots q W (Kd.C_below (Kd.C_below hrr HB0.out) hb))
  have HTL0 := Aside0.mk (fun (p : Nat) (q : Int) (hp : p < h.c.length) (W : World) (hb : Below W1.heap.size W1 W) => tells_walk A c h p q W (Kd.C_below (Kd.C_below hr HB0.out) hb) hp)
  have HIT := Aside0.mk hit
  have HL := Aside0.mk (And.intro hl hrl)
  have hW1' := Aside0.mk hW1
  clear hr hrr hW1 hit hrl hl
  go_enter Try.func90, Try.ntmps90
  go_wp2
  rw [← hW1'.out]
  go_loopg [7, 8] h.c.length (fun g s7 s8 wr => ∃ k : Nat, s8 = .int .i64 k ∧ k + g = h.c.length ∧ Aside0 ((Kd.int .i64).R 3 wr W1.heap.size (fun _ => True) s7 (refsL h roots k)) ∧ Aside0 (Below W1.heap.size W1 wr))
  case atStart => exact ⟨0, rfl, by omega, ⟨Kd.R_nil _ _ _ _ _⟩, ⟨Below.refl _ _⟩⟩
  case round =>
    obtain ⟨q, rfl, hk, HO, HB⟩ := hrel
    have b0 := (blk_cell (blk_below HBH.out HB.out) 0).trans (show _ = some (Value.slice A h.c.length c) from rfl)
    by_cases hlt : q < h.c.length
    · obtain ⟨g1, rfl⟩ : ∃ g1, gk = g1 + 1 := ⟨gk - 1, by omega⟩
      have r1 : decide (q < h.c.length) = true := decide_eq_true hlt
      have r2 : (q < h.c.length) = True := eq_true hlt
      have HOUT := Aside0.mk (HOUT0.out (q : Int))
      have hci := cntI_le roots (q : Int)
      have href : refsN h roots q = cntI roots (q : Int) + sumN (fun p => tellsN h p (q : Int)) h.c.length := rfl
      have HREF := Aside0.mk href
      obtain ⟨C, hC⟩ : ∃ C, C = cntI roots (q : Int) := ⟨_, rfl⟩
      have HC := Aside0.mk (And.intro hC hci)
      rw [← hC] at HOUT
      have HKQ := Aside0.mk (And.intro hlt hk)
      have HWQ := Aside0.mk (show wrap64 ((q : Int) + 1) = ((q + 1 : Nat) : Int) by have := HL.out; unfold wrap64; omega)
      clear hci hC href hlt hk
      go_wp2_with (first | (go_at_call 108; (with_reducible refine (HOUT.out _ (by repeat (first | (with_reducible exact Below.refl _ _) | (with_reducible refine below_alloc ?_ _) | (with_reducible refine below_drew1 ?_) | (with_reducible refine pw_below_drewN ?_ _) | (with_reducible exact HB.out)))).mono ?_); rintro e w' ⟨rfl, rfl⟩) | fail)
      obtain ⟨wo, hwo⟩ : ∃ wo : World, wo = wr := ⟨_, rfl⟩
      rw [← hwo] at HO HB b0 ⊢
      clear hwo
      go_loopg [9, 10] h.c.length (fun g s9 s10 wr => ∃ k : Nat, s10 = .int .i64 k ∧ k + g = h.c.length ∧ s9 = .int .i64 ((C + sumN (fun p => tellsN h p (q : Int)) k : Nat) : Int) ∧ Aside0 (Below wo.heap.size wo wr))
      case atStart => exact ⟨0, rfl, by omega, rfl, ⟨Below.refl _ _⟩⟩
      case round =>
        obtain ⟨k, rfl, hk, rfl, HBI⟩ := hrel
        have b2 := (blk_cell (blk_below (blk_below HBH.out HB.out) HBI.out) 0).trans (show _ = some (Value.slice A h.c.length c) from rfl)
        have b3 := (blk_cell (blk_below (blk_below HBH.out HB.out) HBI.out) 1).trans (show _ = some (Value.int .i64 h.keep) from rfl)
        have HBW := Aside0.mk (below_step HB.out HBI.out)
        by_cases hlt : k < h.c.length
        · obtain ⟨g2, rfl⟩ : ∃ g2, gk = g2 + 1 := ⟨gk - 1, by omega⟩
          have r3 : decide (k < h.c.length) = true := decide_eq_true hlt
          have r4 : (k < h.c.length) = True := eq_true hlt
          have hsm := sumN_le (f := fun p => tellsN h p (q : Int)) (b := 10) k (fun i hi => tellsN_le HIT.out (by omega))
          have ht := tellsN_le (q := (q : Int)) HIT.out hlt
          have hss : sumN (fun p => tellsN h p (q : Int)) (k + 1) = sumN (fun p => tellsN h p (q : Int)) k + tellsN h k (q : Int) := rfl
          have HTL := Aside0.mk (fun (W : World) (hb : Below wo.heap.size wo W) => HTL0.out k (q : Int) hlt W (below_step HB.out hb))
          obtain ⟨T, hT⟩ : ∃ T, T = tellsN h k (q : Int) := ⟨_, rfl⟩
          rw [← hT] at ht hss HTL
          obtain ⟨S, hS⟩ : ∃ S, S = C + sumN (fun p => tellsN h p (q : Int)) k := ⟨_, rfl⟩
          rw [← hS]
          have HS := Aside0.mk (show S + T = C + sumN (fun p => tellsN h p (q : Int)) (k + 1) by rw [hss, hS]; omega)
          have HW2 := Aside0.mk (show wrap64 ((S : Int) + (T : Int)) = ((S + T : Nat) : Int) by have := HL.out; have := HC.out.2; have := HC.out.1; have h9 : k * 10 ≤ 20000 := (by omega); unfold wrap64; omega)
          have HW := Aside0.mk (show wrap64 ((k : Int) + 1) = ((k + 1 : Nat) : Int) by have := HL.out; unfold wrap64; omega)
          have HK := Aside0.mk hk
          clear hsm ht hss hT hS hlt hk
          go_wp2_with (first | (go_at_call 109; (with_reducible refine (HTL.out _ (by repeat (first | (with_reducible exact Below.refl _ _) | (with_reducible refine below_alloc ?_ _) | (with_reducible refine below_drew1 ?_) | (with_reducible refine pw_below_drewN ?_ _) | (with_reducible exact HBI.out)))).mono ?_); rintro e w3 ⟨rfl, hb3⟩; have HB3 := Aside0.mk (show Below wo.heap.size wo w3 from below_step HBI.out hb3); clear hb3) | fail)
          go_roundg g2
          case measure => omega
          case rel => exact ⟨k + 1, by rw [HW.out], by have := HK.out; omega, by rw [HW2.out, HS.out], HB3⟩
        · have r3 : decide (k < h.c.length) = false := decide_eq_false hlt
          have r4 : (k < h.c.length) = False := eq_false hlt
          have hkl : k = h.c.length := by omega
          obtain ⟨R, hR⟩ : ∃ R, R = C + sumN (fun p => tellsN h p (q : Int)) k := ⟨_, rfl⟩
          rw [← hR]
          have HRR := Aside0.mk (show (R : Nat) = refsN h roots q by rw [HREF.out, hR, HC.out.1, hkl])
          have HO2 := Aside0.mk (Kd.R_below HO.out HBI.out)
          have HLQ := Aside0.mk (show (refsL h roots q).length = q by unfold refsL; simp)
          clear hlt hk hkl hR
          go_wp2_with (first | ((with_reducible refine gate_builtin (b := .append) (xs := #[.tmp 36, .tmp 38]) rfl ?_); at_builtin; refine Kd.R_append (Kd.int .i64) (w0 := W1) W1.heap.size rfl (.tmp 36) (.tmp 38) 41 3 (.int .i64 0) 8 rfl Try.underlying41 info_int rfl (by decide) (by decide) _ (refsL h roots q) (R : Int) [.int .i64 (R : Int)] (fun _ => True) (fun _ => False) rfl rfl rfl (fun _ h => h.elim) (fun _ _ => trivial) HO2.out HBW.out HBW.out.size (by have := HLQ.out; have := HL.out; have := HKQ.out; omega) ?_; intro v1 w5 ho hb hg hat; have HO5 := Aside0.mk ho; have HB5 := Aside0.mk hb; clear ho hb hg hat) | fail)
          go_roundg g1
          case measure => omega
          case rel => exact ⟨q + 1, by rw [HWQ.out], by have := HKQ.out; omega, ⟨by rw [refsL_succ, ← HRR.out]; exact HO5.out⟩, HB5⟩
    · have r1 : decide (q < h.c.length) = false := decide_eq_false hlt
      have r2 : (q < h.c.length) = False := eq_false hlt
      have hq : q = h.c.length := by omega
      obtain ⟨B, cb, rfl⟩ := Kd.R_slice HO.out
      have h5 := (Kd.R_reads' HO.out).2.2
      rw [show (refsL h roots q).length = h.c.length by unfold refsL; simp [hq]] at h5 ⊢
      rw [hq] at h5
      have H5 := Aside0.mk h5
      have HBW := Aside0.mk (below_step HB0.out HB.out)
      clear hlt hk hq h5
      go_wp2
      go_ret
      exact ⟨B, cb, rfl, H5.out, HBW.out⟩
end Go.Proofs.Ytopkoganfnabgaa.H
namespace Go.Proofs.Ytopkoganfnabgaa.H
open Go.RowKit Go.Proofs.YtopkoganfnabgaaW.PrintWords Go.Proofs.YtopkoganfnabgaaW.PrintLast Go.Proofs.YtopkoganfnabgaaW.PrintMore
attribute [local go_sem] max2_int min2_int max_two min_two max_three min_three max_four min_four
set_option linter.unusedVariables false
set_option linter.unusedSimpArgs false
theorem info_bool : (Try.prog.info? 4).map (fun i => (i.zero, i.size, i.bytes)) = some (some (.bool false), 1, 1) := by kernel_rfl
def rowB (f : Nat → Bool) (n : Nat) : List Bool := (List.range n).map f
theorem rowB_len (f : Nat → Bool) (n : Nat) : (rowB f n).length = n := by unfold rowB; simp
theorem rowB_get (f : Nat → Bool) (n i : Nat) (hi : i < n) : (rowB f n).getD i false = f i := by
  unfold rowB
  rw [List.getD_eq_getElem?_getD, List.getElem?_map, List.getElem?_range hi]
  rfl
theorem rowB_ext {f g : Nat → Bool} {n : Nat} (h : ∀ j, j < n → f j = g j) : rowB f n = rowB g n := by
  unfold rowB
  apply List.map_congr_left
  intro j hj
  exact h j (by simpa using hj)
theorem rowB_set (f : Nat → Bool) (n q : Nat) (b : Bool) : (rowB f n).set q b = rowB (fun j => if j = q then b else f j) n := by
  apply List.ext_getElem?
  intro j
  rw [List.getElem?_set]
  unfold rowB
  simp only [List.length_map, List.length_range, List.getElem?_map]
  by_cases hj : j < n
  · rw [List.getElem?_range hj]
    by_cases e : q = j
    · subst e; simp [hj]
    · rw [if_neg e]; simp; intro e2; exact absurd e2.symm e
  · rw [List.getElem?_eq_none (by simpa using hj)]
    by_cases e : q = j
    · subst e; simp [hj]
    · rw [if_neg e]; rfl
def fillB (f : Nat → Bool) (k j : Nat) : Bool := decide (j < k) && f j
theorem fillB_set (f : Nat → Bool) (n k : Nat) : (rowB (fillB f k) n).set k (f k) = rowB (fillB f (k + 1)) n := by
  rw [rowB_set]
  apply rowB_ext
  intro j _
  unfold fillB
  by_cases e : j = k
  · subst e; simp
  · rw [if_neg e, decide_eq_decide.2 (show j < k ↔ j < k + 1 by omega)]
theorem fillB_all (f : Nat → Bool) (n : Nat) : rowB (fillB f n) n = rowB f n := rowB_ext (fun j hj => by unfold fillB; simp [hj])
theorem fillB_zero (f : Nat → Bool) (n : Nat) : List.replicate n false = rowB (fillB f 0) n := by
  apply List.ext_getElem?
  intro j
  unfold rowB fillB
  rw [List.getElem?_map, List.getElem?_replicate]
  by_cases hj : j < n
  · rw [if_pos hj, List.getElem?_range hj]; simp
  · rw [if_neg hj, List.getElem?_eq_none (by simpa using hj)]; rfl
/-- What is held behind p whole rounds and q steps of another one. -/
def stF (o : Nat → Bool) (t : Nat → Nat → Bool) (p q j : Nat) : Bool := o j || ((List.range p).any (fun p' => o p' && t p' j) || (decide (j < q) && (o p && t p j)))
theorem stF_set {o : Nat → Bool} {t : Nat → Nat → Bool} {p q n : Nat} (hp : o p = true) (ht : t p q = true) : (rowB (stF o t p q) n).set q true = rowB (stF o t p (q + 1)) n := by
  rw [rowB_set]
  apply rowB_ext
  intro j _
  unfold stF
  by_cases e : j = q
  · subst e; simp [hp, ht]
  · rw [if_neg e, decide_eq_decide.2 (show j < q ↔ j < q + 1 by omega)]
theorem stF_skip {o : Nat → Bool} {t : Nat → Nat → Bool} {p q n : Nat} (ht : t p q = false) : rowB (stF o t p q) n = rowB (stF o t p (q + 1)) n := by
  apply rowB_ext
  intro j _
  unfold stF
  by_cases e : j = q
  · subst e; simp [ht]
  · rw [decide_eq_decide.2 (show j < q ↔ j < q + 1 by omega)]
theorem any_succ (f : Nat → Bool) (p : Nat) : (List.range (p + 1)).any f = ((List.range p).any f || f p) := by rw [List.range_succ, List.any_append]; simp
theorem stF_end {o : Nat → Bool} {t : Nat → Nat → Bool} {p n : Nat} : rowB (stF o t p n) n = rowB (stF o t (p + 1) 0) n := by
  apply rowB_ext
  intro j hj
  unfold stF
  rw [any_succ, decide_eq_true hj]
  simp
theorem stF_none {o : Nat → Bool} {t : Nat → Nat → Bool} {p n : Nat} (hp : o p = false) : rowB (stF o t p 0) n = rowB (stF o t (p + 1) 0) n := by
  apply rowB_ext
  intro j hj
  unfold stF
  rw [any_succ, hp]
  simp
theorem stF_zero {o : Nat → Bool} {t : Nat → Nat → Bool} {n : Nat} : rowB o n = rowB (stF o t 0 0) n := by
  apply rowB_ext
  intro j hj
  unfold stF
  simp
theorem stF_held (h : Hp) (roots : List Int) (k : Nat) : rowB (stF (heldB h roots k) (fun p j => decide (0 < tellsN h p (j : Int))) h.c.length 0) h.c.length = rowB (heldB h roots (k + 1)) h.c.length := by
  apply rowB_ext
  intro j hj
  unfold stF
  rw [heldB]
  simp
end Go.Proofs.Ytopkoganfnabgaa.H
