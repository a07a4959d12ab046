import Derived.Test.YtopkoganfnabgaaG6
import Derived.Test.YtopkoganfnabgaaG5
import Derived.Test.YtopkoganfnabgaaG3
import Derived.ChangeArms
import Derived.OpenShut
namespace Go.Proofs.Ytopkoganfnabgaa.H
theorem Gd.row {rows : List (List It)} (g : Gd rows.flatten) {r : List It} (hr : r ∈ rows) (hne : r ≠ []) : Gd r :=
  ⟨hne, g.up.sublist (List.sublist_flatten_of_mem hr), fun x hx => g.fit x (List.mem_flatten.mpr ⟨r, hr, hx⟩)⟩
theorem ky_trees {h : Hp} {d : Nat} {it : List It} {ls : List (List It)} (f : F2 (fun x li => x.k = ky li ∧ T h d x.v li) it ls) (hne : it ≠ []) : ky it = ky ls.flatten := by
  cases f with
  | nil => exact absurd rfl hne
  | cons r _ => rw [List.flatten_cons, ky_append r.2.gd.ne]; exact r.1
theorem fits_inB {h : Hp} {B : Int} (o : Ok h B) {p : Int} (e : inB h p = true) : fitsB p = true := by
  have := inB_iff.mp e; have := o.l2; exact fitsB_iff.mpr ⟨by omega, by omega⟩
/-- What a part of a put comes to. -/
structure Made (h g : Hp) (made : List It) (ls : List (List It)) (d : Nat) (B : Int) : Prop where
  ok : Ok g B
  ext : Ext h g
  tr : F2 (fun y li => y.k = ky li ∧ T g d y.v li) made ls
  new : ∀ y ∈ made, usedB h y.v = false
  hts : ∀ q, usedB g q = true → usedB h q = true ∨ ∃ d' l', d' ≤ d ∧ T g d' q l'
/-- Rows of leaves are laid. -/
theorem lay_leaf {h : Hp} {B : Int} (o : Ok h B) (hB1 : 1 ≤ B) (hB : B + 8 ≤ 1000000000000000) {rows : List (List It)} (hr : ∀ r ∈ rows, r ≠ [] ∧ r.length ≤ 4) (g : Gd rows.flatten) (h2 : rows.length ≤ 2) (hf : rows.length ≤ freeN h) :
    ∃ h' made, layO h true [] rows = some (h', made) ∧ Made h h' made rows 1 (B + 8) ∧ made.length = rows.length ∧ freeN h' + rows.length = freeN h ∧ (∀ R : Int → Int, Ct h R → Ct h' (fun q => R q + (cntV made q : Int))) := by
  obtain ⟨h', made, e, o2, x2, f2, fr, bk, ct⟩ := lay_spec true [] rows h B o hB1 (by omega) (fun r hr' => ⟨nodeRight_iff.mpr ⟨(hr r hr').2, g.row hr' (hr r hr').1⟩, leadsB_iff.mpr (fun h => by cases h)⟩) hf
  have ht : F2 (fun y li => y.k = ky li ∧ T h' 1 y.v li) made rows := f2.imp fun a b _ hb r => ⟨r.1, r.2.2.1, g.row hb (hr b hb).1, .inl ⟨by rw [r.2.1], rfl, by rw [r.2.1]⟩⟩
  refine ⟨h', made, e, ⟨o2.wide (by omega), x2, ht, fun y hy => ?_, fun q hq => ?_⟩, f2.len, fr, fun R hR => ct R _ hR fun q hq => ?_⟩
  · obtain ⟨b, _, r⟩ := f2.mem_l hy; exact r.2.2.2
  · rcases bk q hq with hu | ⟨y, hy, rfl⟩
    · exact .inl hu
    · obtain ⟨b, _, r⟩ := ht.mem_l hy; exact .inr ⟨1, b, Nat.le_refl _, r.2⟩
  · have : hpN ⟨true, rows.flatten⟩ [] q = 0 := rfl
    rw [this]; simp
/-- Rows of trees are laid. -/
theorem lay_inner {h : Hp} {B : Int} {d : Nat} (o : Ok h B) (hB1 : 1 ≤ B) (hB : B + 8 ≤ 1000000000000000) (held : List Int) {rows : List (List It)} {ls : List (List It)} (hr : ∀ r ∈ rows, r ≠ [] ∧ r.length ≤ 4) (h1 : 1 ≤ rows.length) (h2 : rows.length ≤ 2) (hf : rows.length ≤ freeN h) (f : F2 (fun x li => x.k = ky li ∧ T h d x.v li) rows.flatten ls) (up : ls.flatten.Pairwise fun a b => a.k < b.k) :
    ∃ h' made ls', layO h false held rows = some (h', made) ∧ Made h h' made ls' (d + 1) (B + 8) ∧ ls'.flatten = ls.flatten ∧ made.length = rows.length ∧ freeN h' + rows.length = freeN h ∧ (∀ R R' : Int → Int, Ct h R → (∀ q, inB h q = true → R' q + (hpN ⟨false, rows.flatten⟩ held q : Int) = R q + (cntV made q : Int)) → Ct h' R') := by
  have hne : rows.flatten ≠ [] := by
    cases rows with
    | nil => simp at h1
    | cons r rows => rw [List.flatten_cons]; intro e; exact (hr r List.mem_cons_self).1 (List.append_eq_nil_iff.mp e).1
  have hu : ∀ x ∈ rows.flatten, usedB h x.v = true := fun x hx => by obtain ⟨b, _, _, t⟩ := f.mem_l hx; exact t.used
  obtain ⟨g1, g2⟩ := Gd.of_trees f hne up (fun x hx => fits_inB o (used_iff.mp (hu x hx)).1)
  obtain ⟨h', made, e, o2, x2, f2, fr, bk, ct⟩ := lay_spec false held rows h B o hB1 (by omega) (fun r hr' => ⟨nodeRight_iff.mpr ⟨(hr r hr').2, g1.row hr' (hr r hr').1⟩, leadsB_iff.mpr (fun _ x hx => hu x (List.mem_flatten.mpr ⟨r, hr', hx⟩))⟩) hf
  obtain ⟨ms, rfl, fm⟩ := F2.rows rows f
  have fm' : F2 (fun r (li : List It) => ky r = ky li ∧ Gd li ∧ ∃ ls, li = ls.flatten ∧ F2 (fun x li => x.k = ky li ∧ T h' d x.v li) r ls) rows (ms.map List.flatten) := by
    refine fm.map_r fun a b ha hb r => ⟨ky_trees r (hr a ha).1, ?_, b, rfl, r.imp fun x y _ _ t => ⟨t.1, t.2.ext x2⟩⟩
    refine (Gd.of_trees r (hr a ha).1 (up.sublist ?_) (fun x hx => (g1.row ha (hr a ha).1).fit x hx |>.2)).2
    rw [← flatten_map_flatten]
    exact List.sublist_flatten_of_mem (List.mem_map.mpr ⟨b, hb, rfl⟩)
  have ht : F2 (fun y li => y.k = ky li ∧ T h' (d + 1) y.v li) made (ms.map List.flatten) := by
    refine f2.comp (fun y r li _ _ a b => ?_) fm'
    obtain ⟨b1, b2, b3⟩ := b
    refine ⟨a.1.trans b1, a.2.2.1, b2, .inr ?_⟩
    rw [a.2.1]
    exact ⟨rfl, b3⟩
  refine ⟨h', made, ms.map List.flatten, e, ⟨o2.wide (by omega), x2, ht, fun y hy => ?_, fun q hq => ?_⟩, flatten_map_flatten ms, f2.len, fr, ct⟩
  · obtain ⟨b, _, r⟩ := f2.mem_l hy; exact r.2.2.2
  · rcases bk q hq with hu | ⟨y, hy, rfl⟩
    · exact .inl hu
    · obtain ⟨b, _, r⟩ := ht.mem_l hy; exact .inr ⟨d + 1, b, Nat.le_refl _, r.2⟩
theorem itAt_split {l : List It} {i : Nat} (h : i < l.length) : l = l.take i ++ itAt l i :: l.drop (i + 1) := by
  rw [itAt_get h, ← List.drop_eq_getElem_cons h, List.take_append_drop]
theorem new_cnt {h : Hp} {made it : List It} (hn : ∀ y ∈ made, usedB h y.v = false) (hu : ∀ x ∈ it, usedB h x.v = true) {q : Int} (hq : inL (vL made) q = true) : cntV it q = 0 := by
  rw [cntV_zero]
  intro x hx e
  rw [inL_iff] at hq
  unfold vL at hq
  obtain ⟨y, hy, rfl⟩ := List.mem_map.mp hq
  have := hu x hx
  rw [e, hn y hy] at this; cases this
theorem anewO_leaf {f : Nat} {h : Hp} {p : Int} {x : It} {i : Nat} {is : Bool} {l : List It} {rows : List (List It)} {r : Hp × List It} (e0 : inB h p = true) (hl : (clAt h p).n.leaf = true) (e1 : atO true (clAt h p).n.it x.k = some (i, is)) (e2 : withO (clAt h p).n.it i (if is = true then 1 else 0) [x] = some l) (e3 : splitO l = some rows) (e4 : layO h true [] rows = some r) : anewO (f + 1) h p x = some r := by
  unfold anewO
  simp only [if_pos e0, hl, e1, e2, e3, e4, Option.bind_eq_bind, Option.bind_some, if_true]
theorem anewO_node {f : Nat} {h g : Hp} {p : Int} {x : It} {i : Nat} {is : Bool} {l more : List It} {rows : List (List It)} {r : Hp × List It} (e0 : inB h p = true) (hl : (clAt h p).n.leaf = false) (e1 : atO false (clAt h p).n.it x.k = some (i, is)) (hi : i < (clAt h p).n.it.length) (ea : anewO f h (itAt (clAt h p).n.it i).v x = some (g, more)) (e2 : withO (clAt h p).n.it i 1 more = some l) (e3 : splitO l = some rows) (e4 : layO g false (vL more) rows = some r) : anewO (f + 1) h p x = some r := by
  unfold anewO
  simp only [if_pos e0, hl, e1, ea, e2, e3, e4, Option.bind_eq_bind, Option.bind_some, if_pos hi, Bool.false_eq_true, if_false]
/-- A node made anew. -/
theorem anew_spec : ∀ (d f : Nat) (h : Hp) (p : Int) (l : List It) (x : It) (B : Int), d ≤ f → Ok h B → 1 ≤ B → B + 8 * d ≤ 1000000000000000 → T h d p l → fitsB x.k = true ∧ fitsB x.v = true → 2 * d ≤ freeN h →
    ∃ g made ls, anewO f h p x = some (g, made) ∧ Made h g made ls d (B + 8 * d) ∧ ls.flatten = ins l x ∧ 1 ≤ made.length ∧ made.length ≤ 2 ∧ freeN h ≤ freeN g + 2 * d ∧ freeN g + d ≤ freeN h ∧ (∀ R : Int → Int, Ct h R → Ct g (fun q => R q + (cntV made q : Int)))
  | 0, _, _, _, _, _, _, _, _, _, _, t, _, _ => t.elim
  | d + 1, 0, _, _, _, _, _, hd, _, _, _, _, _, _ => by omega
  | d + 1, f + 1, h, p, l, x, B, hd, o, hB1, hB, t, hx, hf => by
    have u := t.used
    obtain ⟨n4, ng⟩ := nodeRight_iff.mp (o.right p u)
    cases hl : (clAt h p).n.leaf with
    | true =>
      obtain ⟨h1, rfl⟩ := t.leaf hl
      obtain rfl : d = 0 := by omega
      obtain ⟨i, is, e1, e2, e3⟩ := at_leaf (x := x) ng n4
      have hlen := ins_len (clAt h p).n.it x
      have hgi := ins_gd ng.up ng.fit hx
      obtain ⟨rows, r1, r2, r3, r4, r5⟩ := split_spec (l := ins (clAt h p).n.it x) (List.length_pos_iff.mpr hgi.ne) (by omega)
      obtain ⟨g, made, l1, l2, l3, l4, l5⟩ := lay_leaf o hB1 (by omega) r3 (by rw [r2]; exact hgi) r5 (by omega)
      refine ⟨g, made, rows, anewO_leaf (used_iff.mp u).1 hl e1 (by unfold withO; rw [if_pos ⟨e2, by omega, by simp⟩, e3]) r1 l1, ⟨l2.ok.wide (by omega), l2.ext, l2.tr, l2.new, l2.hts⟩, r2, by omega, by omega, by omega, by omega, l5⟩
    | false =>
      obtain ⟨d', ed, ls, rfl, ff⟩ := t.inner hl
      obtain rfl : d = d' := by omega
      obtain ⟨i, is, e1, e2, e3, e4⟩ := at_inner (key := x.k) ng n4
      have hsp := itAt_split e2
      have hnode := fun (g : Hp) (more l : List It) (rows : List (List It)) (r : Hp × List It) => anewO_node (f := f) (g := g) (more := more) (l := l) (rows := rows) (r := r) (used_iff.mp u).1 hl e1 e2
      generalize (clAt h p).n.it = it at n4 ng e1 e2 e3 e4 ff hsp hnode
      have hu : ∀ y ∈ it, usedB h y.v = true := fun y hy => by obtain ⟨b, _, _, t⟩ := ff.mem_l hy; exact t.used
      have ff2 := ff
      rw [hsp] at ff2
      obtain ⟨la, lb', rfl, fa, fb⟩ := F2.split (m := ls) _ _ ff2
      cases fb with
      | cons rm fb =>
      rename_i lm lb
      obtain ⟨k1, tm⟩ := rm
      obtain ⟨g1, more, lsm, a1, a2, a3, a4, a5, a6, a7, a8⟩ := anew_spec d f h (itAt it i).v lm x B (by omega) o hB1 (by omega) tm hx (by omega)
      have tg := t.gd.up
      rw [List.flatten_append, List.flatten_cons, ← List.append_assoc] at tg
      rw [List.pairwise_append, List.pairwise_append] at tg
      obtain ⟨⟨tg1, tg2, tg3⟩, tg4, tg5⟩ := tg
      have hla : ∀ y ∈ la.flatten, y.k < x.k := by
        intro y hy
        obtain ⟨z, hz, ez⟩ := ky_mem tm.gd.ne
        have h1 := tg3 y hy z hz
        have h0 : 0 < i := by
          rcases Nat.eq_zero_or_pos i with h0 | h0
          · rw [h0] at fa; cases fa; cases hy
          · exact h0
        have := e4 h0
        omega
      have hlb : ∀ y ∈ lb.flatten, x.k < y.k := by
        intro y hy
        obtain ⟨li, hli, hyl⟩ := List.mem_flatten.mp hy
        obtain ⟨a, ha, ka, ta⟩ := fb.mem_r hli
        have h1 := e3 a ha
        have h2 := ky_le ta.gd.up hyl
        omega
      have hins : (la ++ lsm ++ lb).flatten = ins (la ++ lm :: lb).flatten x := by
        rw [List.flatten_append, List.flatten_append, a3, List.flatten_append, List.flatten_cons, ← List.append_assoc, ins_mid hla hlb]
      have fnew : F2 (fun x li => x.k = ky li ∧ T g1 d x.v li) (it.take i ++ more ++ it.drop (i + 1)) (la ++ lsm ++ lb) := ((fa.imp fun a b _ _ r => ⟨r.1, r.2.ext a2.ext⟩).append a2.tr).append (fb.imp fun a b _ _ r => ⟨r.1, r.2.ext a2.ext⟩)
      have hgi := ins_gd t.gd.up t.gd.fit hx
      have hlen : (it.take i ++ more ++ it.drop (i + 1)).length = it.length - 1 + more.length := by simp only [List.length_append, List.length_take, List.length_drop]; omega
      obtain ⟨rows, r1, r2, r3, r4, r5⟩ := split_spec (l := it.take i ++ more ++ it.drop (i + 1)) (by omega) (by omega)
      obtain ⟨g, made, ls', l1, l2, l3, l4, l5, l6⟩ := lay_inner a2.ok (by omega) (by omega) (vL more) r3 r4 r5 (by omega) (by rw [r2]; exact fnew) (by rw [hins]; exact hgi.up)
      refine ⟨g, made, ls', hnode g1 more _ rows (g, made) a1 (by unfold withO; rw [if_pos ⟨by omega, by omega, by omega⟩]) r1 l1, ⟨l2.ok.wide (by omega), a2.ext.trans l2.ext, l2.tr, fun y hy => ?_, fun q hq => ?_⟩, l3.trans hins, by omega, by omega, by omega, by omega, fun R hR => l6 _ _ (a8 R hR) fun q hq => ?_⟩
      · have := l2.new y hy
        cases hu : usedB h y.v with
        | false => rfl
        | true => rw [(a2.ext.use _ hu).1] at this; cases this
      · rcases l2.hts q hq with hu | hu
        · rcases a2.hts q hu with hu | ⟨d', l', h1, h2⟩
          · exact .inl hu
          · exact .inr ⟨d', l', by omega, h2.ext l2.ext⟩
        · exact .inr hu
      · rw [r2]
        have : hpN ⟨false, it.take i ++ more ++ it.drop (i + 1)⟩ (vL more) q = cntV more q := by
          unfold hpN
          rw [if_neg (by simp)]
          split
          · rename_i hq2
            show cntV (it.take i ++ more ++ it.drop (i + 1)) q = _
            rw [cntV_append, cntV_append, new_cnt a2.new (fun x hx => hu x (List.mem_of_mem_take hx)) hq2, new_cnt a2.new (fun x hx => hu x (List.mem_of_mem_drop hx)) hq2]
            omega
          · rename_i hq2
            exact (inL_vL.mp (by simpa using hq2)).symm
        rw [this]
        omega
end Go.Proofs.Ytopkoganfnabgaa.H
namespace Go.Proofs.Ytopkoganfnabgaa.H
/-- What becomes of a heap when Refs go. -/
structure Le (g g' : Hp) : Prop where
  len : g'.c.length = g.c.length
  keep : g'.keep = g.keep
  use : ∀ q, usedB g' q = true → usedB g q = true ∧ (clAt g' q).n = (clAt g q).n
  free : ∀ q, inB g q = true → freeB (clAt g' q) = freeB (clAt g q)
theorem Le.refl (h : Hp) : Le h h := ⟨rfl, rfl, fun _ e => ⟨e, rfl⟩, fun _ _ => rfl⟩
theorem Le.trans {a b c : Hp} (x : Le a b) (y : Le b c) : Le a c := ⟨y.len.trans x.len, y.keep.trans x.keep, fun q e => ⟨(x.use q (y.use q e).1).1, (y.use q e).2.trans (x.use q (y.use q e).1).2⟩, fun q hq => (y.free q (by rw [inB_len x.len]; exact hq)).trans (x.free q hq)⟩
/-- So many nodes down there are cells, used ones or not. -/
def Wk (h : Hp) : Nat → Int → Prop
  | 0, _ => False
  | d + 1, p => inB h p = true ∧ (usedB h p = false ∨ (clAt h p).n.leaf = true ∨ ∀ x ∈ (clAt h p).n.it, Wk h d x.v)
theorem Wk.le {g g' : Hp} (x : Le g g') : ∀ {d : Nat} {p : Int}, Wk g d p → Wk g' d p
  | 0, _, t => t.elim
  | d + 1, p, ⟨a, b⟩ => by
    refine ⟨by rw [inB_len x.len]; exact a, ?_⟩
    cases hu : usedB g' p with
    | false => exact .inl rfl
    | true =>
      obtain ⟨u, e⟩ := x.use p hu
      rw [e]
      rcases b with b | b | b
      · rw [u] at b; cases b
      · exact .inr (.inl b)
      · exact .inr (.inr fun y hy => Wk.le x (b y hy))
theorem T.wk {h : Hp} : ∀ {d : Nat} {p : Int} {l : List It}, T h d p l → Wk h d p
  | 0, _, _, t => t.elim
  | d + 1, p, l, t => by
    refine ⟨(used_iff.mp t.used).1, .inr ?_⟩
    cases hl : (clAt h p).n.leaf with
    | true => exact .inl rfl
    | false =>
      obtain ⟨e, ed, ls, rfl, f⟩ := t.inner hl
      obtain rfl : d = e := by omega
      exact .inr fun y hy => by obtain ⟨li, _, _, t⟩ := f.mem_l hy; exact T.wk t
/-- A cell that is let go, or has a Ref less. -/
theorem set_ok {g : Hp} {B : Int} {p : Int} {c : Cl} (o : Ok g B) (hu : usedB g p = true) (hc : (c.ref = 0 ∧ c.n = zNd ∧ c.pin = true) ∨ (0 < c.ref ∧ c.ref ≤ (clAt g p).ref ∧ c.pin = false ∧ c.n = (clAt g p).n)) : Ok (setH g p c) B ∧ Le g (setH g p c) := by
  obtain ⟨hp, hr⟩ := used_iff.mp hu
  have hat : ∀ q, inB g q = true → clAt (setH g p c) q = if q = p then c else clAt g q := fun q hq => clAt_setH hp hq
  have huse : ∀ q, usedB (setH g p c) q = true → usedB g q = true ∧ (clAt (setH g p c) q).n = (clAt g q).n := by
    intro q hq
    rw [used_iff, inB_setH] at hq
    rw [hat q hq.1] at hq ⊢
    by_cases e : q = p
    · subst e
      rw [if_pos rfl] at hq ⊢
      refine ⟨hu, ?_⟩
      rcases hc with hc | hc
      · omega
      · exact hc.2.2.2
    · rw [if_neg e] at hq ⊢
      exact ⟨used_iff.mpr hq, rfl⟩
  refine ⟨⟨by rw [len_setH]; exact o.l1, by rw [len_setH]; exact o.l2, o.k1, by rw [len_setH]; exact o.k2, fun q hq => ?_, fun q hq => ?_, fun q hq h0 => ?_, fun q hq => ?_, fun q hq => ?_, fun q hq hl x hx => ?_⟩, ⟨len_setH, rfl, huse, fun q hq => ?_⟩⟩
  · rw [inB_setH] at hq
    rw [hat q hq]
    split
    · rcases hc with hc | hc <;> omega
    · exact o.pos q hq
  · rw [inB_setH] at hq
    rw [hat q hq]
    have := o.le p hp
    split
    · rcases hc with hc | hc <;> omega
    · exact o.le q hq
  · rw [inB_setH] at hq
    rw [hat q hq] at h0 ⊢
    split at h0
    · rename_i e
      rw [if_pos e]
      rcases hc with hc | hc
      · exact hc.2.1
      · omega
    · rename_i e
      rw [if_neg e]
      exact o.zero q hq h0
  · have hb := used_iff.mp hq
    rw [inB_setH] at hb
    rw [hat q hb.1] at hb ⊢
    split
    · rename_i e
      rw [if_pos e] at hb
      rcases hc with hc | hc
      · omega
      · exact hc.2.2.1
    · rename_i e
      rw [if_neg e] at hb
      exact o.pin q (used_iff.mpr hb)
  · rw [(huse q hq).2]; exact o.right q (huse q hq).1
  · rw [(huse q hq).2] at hl hx
    rw [inB_setH]
    exact o.plc q (huse q hq).1 hl x hx
  · rw [hat q hq]
    split
    · rename_i e
      subst e
      have h1 : freeB (clAt g q) = false := by rw [← Bool.not_eq_true, freeB_iff]; omega
      rw [h1, ← Bool.not_eq_true, freeB_iff]
      rcases hc with hc | hc
      · rw [hc.2.2]; simp
      · omega
    · rfl
theorem tot_set {g : Hp} {B : Int} {p : Int} {c : Cl} (o : Ok g B) (o' : Ok (setH g p c) B) (hp : inB g p = true) (q : Int) : tot (setH g p c) q + tl (clAt g p).n q = tot g q + tl c.n q := by
  obtain ⟨k, rfl, hk⟩ := inB_nat' hp
  rw [tot_tl o', tot_tl o, len_setH]
  have := sumN_point (f := fun i : Nat => tl (clAt (setH g (k : Int) c) (i : Int)).n q) (g := fun i : Nat => tl (clAt g (i : Int)).n q) hk (fun i hi hne => by show tl _ q = tl _ q; rw [clAt_setH hp (inB_iff.mpr (by omega)), if_neg (by omega)])
  simp only [clAt_setH hp hp, if_pos] at this
  exact this
theorem loose_spec : ∀ (f d : Nat) (g : Hp) (p : Int) (B : Int), d ≤ f → Ok g B → B ≤ 1000000000000 → Wk g d p →
    ∃ g', looseO f g p = some g' ∧ Ok g' B ∧ Le g g' ∧ (∀ R : Int → Int, Ct g R → (∀ q, 0 ≤ R q) → 1 ≤ R p → Ct g' (fun q => R q - if q = p then 1 else 0))
  | _, 0, _, _, _, _, _, _, w => w.elim
  | 0, d + 1, _, _, _, hd, _, _, _ => by omega
  | f + 1, d + 1, g, p, B, hd, o, hB, ⟨w1, w2⟩ => by
    unfold looseO
    have h0 := o.pos p w1
    have h1 := o.le p w1
    by_cases hz : (clAt g p).ref = 0
    · rw [if_pos ⟨w1, h0, by omega, .inl hz⟩, if_pos hz]
      refine ⟨g, rfl, o, Le.refl g, fun R hR hR0 hRp => ?_⟩
      have := hR p w1
      omega
    · have hu : usedB g p = true := used_iff.mpr ⟨w1, by omega⟩
      rw [if_pos ⟨w1, h0, by omega, .inr (o.pin p hu)⟩, if_neg hz]
      by_cases h2 : 1 < (clAt g p).ref
      · rw [if_pos h2]
        obtain ⟨o', l'⟩ := set_ok (c := ⟨(clAt g p).ref - 1, false, (clAt g p).n⟩) o hu (.inr ⟨by show 0 < (clAt g p).ref - 1; omega, by show (clAt g p).ref - 1 ≤ _; omega, rfl, rfl⟩)
        refine ⟨_, rfl, o', l', fun R hR hR0 hRp q hq => ?_⟩
        rw [inB_setH] at hq
        have h3 := hR q hq
        have h4 := tot_set o o' w1 q
        rw [clAt_setH w1 hq]
        have h4' : tot (setH g p ⟨(clAt g p).ref - 1, false, (clAt g p).n⟩) q = tot g q := by have : tl (Cl.n ⟨(clAt g p).ref - 1, false, (clAt g p).n⟩) q = tl (clAt g p).n q := rfl; omega
        rw [h4']
        (try dsimp only)
        by_cases e : q = p
        · subst e; rw [if_pos rfl, if_pos rfl]; show (clAt g q).ref - 1 = _; omega
        · rw [if_neg e, if_neg e]; omega
      · rw [if_neg h2]
        obtain ⟨o', l'⟩ := set_ok (c := ⟨0, true, zNd⟩) o hu (.inl ⟨rfl, rfl, rfl⟩)
        have hct : ∀ R : Int → Int, Ct g R → (∀ q, 0 ≤ R q) → 1 ≤ R p → Ct (setH g p ⟨0, true, zNd⟩) (fun q => R q - (if q = p then 1 else 0) + (tl (clAt g p).n q : Int)) := by
          intro R hR hR0 hRp q hq
          rw [inB_setH] at hq
          have h3 := hR q hq
          have h4 := tot_set o o' w1 q
          have hz0 : tl (Cl.n ⟨0, true, zNd⟩) q = 0 := rfl
          rw [clAt_setH w1 hq]
          (try dsimp only)
          by_cases e : q = p
          · subst e; rw [if_pos rfl, if_pos rfl]; show (0 : Int) = _; omega
          · rw [if_neg e, if_neg e]; omega
        cases hl : (clAt g p).n.leaf with
        | true =>
          rw [if_pos rfl]
          refine ⟨_, rfl, o', l', fun R hR hR0 hRp q hq => ?_⟩
          have := hct R hR hR0 hRp q hq
          have h5 : tl (clAt g p).n q = 0 := by unfold tl; rw [hl, if_pos rfl]
          (try dsimp only at this); (try dsimp only)
          rw [h5] at this
          omega
        | false =>
          rw [if_neg (by simp)]
          have hw : ∀ x ∈ (clAt g p).n.it, Wk (setH g p ⟨0, true, zNd⟩) d x.v := by
            rcases w2 with w2 | w2 | w2
            · rw [hu] at w2; cases w2
            · rw [hl] at w2; cases w2
            · exact fun x hx => (w2 x hx).le l'
          have key : ∀ (it : List It) (g1 : Hp), Ok g1 B → (∀ x ∈ it, Wk g1 d x.v) → ∃ g', it.foldlM (fun h x => looseO f h x.v) g1 = some g' ∧ Ok g' B ∧ Le g1 g' ∧ (∀ R : Int → Int, Ct g1 R → (∀ q, 0 ≤ R q) → (∀ q, (cntV it q : Int) ≤ R q) → Ct g' (fun q => R q - (cntV it q : Int))) := by
            intro it
            induction it with
            | nil => intro g1 o1 _; exact ⟨g1, rfl, o1, Le.refl g1, fun R hR _ _ q hq => by have := hR q hq; dsimp only; rw [cntV_nil]; omega⟩
            | cons x it ih =>
              intro g1 o1 hw1
              obtain ⟨g2, e2, o2, l2, c2⟩ := loose_spec f d g1 x.v B (by omega) o1 hB (hw1 x List.mem_cons_self)
              obtain ⟨g3, e3, o3, l3, c3⟩ := ih g2 o2 (fun y hy => (hw1 y (List.mem_cons_of_mem _ hy)).le l2)
              refine ⟨g3, ?_, o3, l2.trans l3, fun R hR hR0 hRx q hq => ?_⟩
              · rw [List.foldlM_cons, e2]; exact e3
              · have hx1 := hRx x.v
                rw [cntV_cons, if_pos rfl] at hx1
                have := c3 _ (c2 R hR hR0 (by omega)) (fun q => by
                  have := hR0 q
                  (try dsimp only)
                  by_cases e : q = x.v
                  · rw [if_pos e, e]; omega
                  · rw [if_neg e]; omega) (fun q => by
                  have := hRx q
                  rw [cntV_cons] at this
                  (try dsimp only)
                  by_cases e : q = x.v
                  · rw [if_pos e.symm] at this; rw [if_pos e]; omega
                  · rw [if_neg (fun h => e h.symm)] at this; rw [if_neg e]; omega) q hq
                (try dsimp only at this); (try dsimp only)
                rw [cntV_cons]
                by_cases e : q = x.v
                · rw [if_pos e] at this; rw [if_pos e.symm]; omega
                · rw [if_neg e] at this; rw [if_neg (fun h => e h.symm)]; omega
          obtain ⟨g', e1, o1, l1, c1⟩ := key _ _ o' hw
          refine ⟨g', e1, o1, l'.trans l1, fun R hR hR0 hRp q hq => ?_⟩
          have htl : ∀ q, tl (clAt g p).n q = cntV (clAt g p).n.it q := fun q => by unfold tl; rw [hl, if_neg (by simp)]
          have hge : ∀ q, 0 ≤ R q - (if q = p then 1 else 0) := fun q => by
            have := hR0 q
            by_cases e : q = p
            · rw [if_pos e, e]; omega
            · rw [if_neg e]; omega
          have := c1 _ (hct R hR hR0 hRp) (fun q => by have := hge q; (try dsimp only); omega) (fun q => by have := hge q; (try dsimp only); rw [htl]; omega) q hq
          (try dsimp only at this); (try dsimp only)
          rw [htl] at this
          omega
end Go.Proofs.Ytopkoganfnabgaa.H
namespace Go.Proofs.Ytopkoganfnabgaa.H
def Hts (h : Hp) : Prop := ∀ q, usedB h q = true → ∃ d l, d ≤ 20 ∧ T h d q l
/-- A root's tree, or none. -/
def Rt (h : Hp) (root : Int) (d : Nat) (l : List It) : Prop := (root = -1 ∧ d = 0 ∧ l = []) ∨ (d ≤ 20 ∧ T h d root l)
def one (p q : Int) : Int := if q = p then 1 else 0
theorem one_nonneg (p q : Int) : 0 ≤ one p q := by unfold one; split <;> omega
theorem one_self (p : Int) : one p p = 1 := by unfold one; rw [if_pos rfl]
theorem cntI_one (p q : Int) : ((cntI [p] q : Nat) : Int) = one p q := by
  unfold cntI one
  rw [List.filter_cons]
  by_cases e : p = q
  · rw [if_pos (decide_eq_true e), if_pos e.symm]; rfl
  · rw [if_neg (by simpa using e), if_neg (fun h => e h.symm)]; rfl
theorem Ct.congr {h : Hp} {R S : Int → Int} (c : Ct h R) (e : ∀ q, inB h q = true → R q = S q) : Ct h S := fun q hq => by rw [c q hq, e q hq]
/-- What a tree's node tells is a tree, lower by one. -/
theorem T.child {h : Hp} {d : Nat} {p q : Int} {l : List It} (t : T h d p l) (e : 0 < tl (clAt h p).n q) : ∃ d' l', d = d' + 1 ∧ T h d' q l' := by
  unfold tl at e
  split at e
  · omega
  · rename_i hl
    obtain ⟨d', ed, ls, rfl, f⟩ := t.inner (by simpa using hl)
    have : ¬ cntV (clAt h p).n.it q = 0 := by omega
    rw [cntV_zero] at this
    have : ∃ x ∈ (clAt h p).n.it, x.v = q := Classical.byContradiction fun hn => this fun x hx hxq => hn ⟨x, hx, hxq⟩
    obtain ⟨x, hx, rfl⟩ := this
    obtain ⟨li, _, _, t'⟩ := f.mem_l hx
    exact ⟨d', li, ed, t'⟩
theorem tells_tot {h : Hp} {B : Int} (o : Ok h B) {p : Int} (hp : inB h p = true) (q : Int) : tl (clAt h p).n q ≤ tot h q := by
  obtain ⟨k, rfl, hk⟩ := inB_nat' hp
  rw [tot_tl o]
  exact sumN_pos (f := fun i : Nat => tl (clAt h (i : Int)).n q) hk
/-- A tree lives where what is used still is as it was, and everything adds up. -/
theorem T.keep {g g' : Hp} {B : Int} {R : Int → Int} (o : Ok g' B) (c : Ct g' R) (R0 : ∀ q, 0 ≤ R q) (x : Le g g') : ∀ {d : Nat} {p : Int} {l : List It}, T g d p l → usedB g' p = true → T g' d p l
  | 0, _, _, t, _ => t.elim
  | d + 1, p, l, ⟨u, g1, e⟩, u' => by
    have en := (x.use p u').2
    have hp := (used_iff.mp u').1
    refine ⟨u', g1, ?_⟩
    rw [en]
    rcases e with e | ⟨e1, ls, e2, e3⟩
    · exact .inl e
    · refine .inr ⟨e1, ls, e2, e3.imp fun a b ha _ r => ⟨r.1, T.keep o c R0 x r.2 ?_⟩⟩
      have hin : inB g' a.v = true := by rw [inB_len x.len]; exact (used_iff.mp r.2.used).1
      have h1 := tells_tot o hp a.v
      have h2 : 0 < tl (clAt g' p).n a.v := by
        rw [en]
        unfold tl
        rw [e1, if_neg (by simp)]
        exact Nat.pos_of_ne_zero fun hz => cntV_zero.mp hz a ha rfl
      have h3 := c a.v hin
      have := R0 a.v
      exact used_iff.mpr ⟨hin, by omega⟩
theorem sound_in {h : Hp} {B : Int} {root : Int} {d : Nat} {l : List It} (o : Ok h B) (s : soundB h [root] = true) (t : Rt h root d l) : Ct h (one root) ∧ Hts h := by
  unfold soundB at s
  rw [List.all_eq_true] at s
  have hs : ∀ q : Nat, q < h.c.length → (clAt h (q : Int)).ref = one root (q : Int) + (tot h (q : Int) : Int) ∧ (heldB h [root] 25 q = true ↔ 0 < (clAt h (q : Int)).ref) := by
    intro q hq
    have := s q (List.mem_range.mpr hq)
    unfold soundAt at this
    simp only [Bool.and_eq_true, decide_eq_true_eq, beq_iff_eq, ← clAt_nat'] at this
    refine ⟨?_, by rw [this.2]; simp⟩
    rw [this.1]
    unfold refsN tot
    rw [Int.natCast_add, cntI_one]
  refine ⟨fun q hq => ?_, fun q hu => ?_⟩
  · obtain ⟨k, rfl, hk⟩ := inB_nat' hq; exact (hs k hk).1
  · have key : ∀ (k : Nat) (q : Nat), q < h.c.length → heldB h [root] k q = true → ∃ d l, d ≤ 20 ∧ T h d (q : Int) l := by
      intro k
      induction k with
      | zero =>
        intro q hq hh
        have h0 : 0 < cntI [root] (q : Int) := by unfold heldB at hh; simpa using hh
        have h1 := cntI_one root (q : Int)
        unfold one at h1
        split at h1
        · rename_i e
          rcases t with ⟨t, _⟩ | ⟨t1, t2⟩
          · omega
          · rw [e]; exact ⟨d, l, t1, t2⟩
        · omega
      | succ k ih =>
        intro q hq hh
        unfold heldB at hh
        rw [Bool.or_eq_true, List.any_eq_true] at hh
        rcases hh with hh | ⟨p, hp, hh⟩
        · exact ih q hq hh
        · rw [List.mem_range] at hp
          simp only [Bool.and_eq_true, decide_eq_true_eq] at hh
          obtain ⟨d, l, hd, t⟩ := ih p hp hh.1
          rw [tellsN_tl o hp] at hh
          obtain ⟨d', l', e, t'⟩ := t.child hh.2
          exact ⟨d', l', by omega, t'⟩
    obtain ⟨k, rfl, hk⟩ := inB_nat' (used_iff.mp hu).1
    exact key 25 k hk ((hs k hk).2.mpr (used_iff.mp hu).2)
theorem heldB_mono (h : Hp) (roots : List Int) (q : Nat) : ∀ (m n : Nat), heldB h roots n q = true → heldB h roots (n + m) q = true
  | 0, _, e => e
  | m + 1, n, e => by
    show heldB h roots (n + m + 1) q = true
    unfold heldB
    rw [heldB_mono h roots q m n e]; rfl
theorem sound_out {g : Hp} {B : Int} {p : Int} (o : Ok g B) (c : Ct g (one p)) (ht : Hts g) : soundB g [p] = true := by
  have hup : ∀ (k : Nat) (q : Nat), q < g.c.length → heldB g [p] k q = true → usedB g (q : Int) = true := by
    intro k
    induction k with
    | zero =>
      intro q hq hh
      have h0 : 0 < cntI [p] (q : Int) := by unfold heldB at hh; simpa using hh
      have h1 := cntI_one p (q : Int)
      have hin : inB g (q : Int) = true := inB_iff.mpr (by omega)
      have := c _ hin
      exact used_iff.mpr ⟨hin, by omega⟩
    | succ k ih =>
      intro q hq hh
      unfold heldB at hh
      rw [Bool.or_eq_true, List.any_eq_true] at hh
      rcases hh with hh | ⟨r, hr, hh⟩
      · exact ih q hq hh
      · rw [List.mem_range] at hr
        simp only [Bool.and_eq_true, decide_eq_true_eq] at hh
        rw [tellsN_tl o hr] at hh
        have hin : inB g (q : Int) = true := inB_iff.mpr (by omega)
        have := c _ hin
        have := tells_tot o (inB_iff.mpr (by omega : 0 ≤ (r : Int) ∧ (r : Int) < g.c.length)) (q : Int)
        have := one_nonneg p (q : Int)
        exact used_iff.mpr ⟨hin, by omega⟩
  have hdown : ∀ (n : Nat) (q : Nat) (d : Nat) (l : List It), T g d (q : Int) l → d ≤ 20 → 20 ≤ d + n → heldB g [p] n q = true := by
    intro n
    induction n with
    | zero =>
      intro q d l t hd hn
      obtain ⟨hin, hr⟩ := used_iff.mp t.used
      have h1 := c _ hin
      have h2 := cntI_one p (q : Int)
      by_cases h0 : 0 < one p (q : Int)
      · unfold heldB; exact decide_eq_true (by omega)
      · have hz : 0 < tot g (q : Int) := by omega
        rw [tot_tl o] at hz
        obtain ⟨i, hi, e⟩ := sumN_ex hz
        have hui : usedB g (i : Int) = true := by
          refine used_iff.mpr ⟨inB_iff.mpr (by omega), ?_⟩
          have := o.pos (i : Int) (inB_iff.mpr (by omega))
          refine Classical.byContradiction fun hn => ?_
          have hz := o.zero (i : Int) (inB_iff.mpr (by omega)) (by omega)
          simp only [hz] at e
          exact absurd e (by simp [tl, zNd, cntV])
        obtain ⟨d', l', hd', t'⟩ := ht _ hui
        obtain ⟨d2, l2, e2, t2⟩ := t'.child e
        have := (t2.uniq t).1
        omega
    | succ n ih =>
      intro q d l t hd hn
      obtain ⟨hin, hr⟩ := used_iff.mp t.used
      have h1 := c _ hin
      have h2 := cntI_one p (q : Int)
      by_cases h0 : 0 < one p (q : Int)
      · have : heldB g [p] 0 q = true := by unfold heldB; exact decide_eq_true (by omega)
        have := heldB_mono g [p] q (n + 1) 0 this
        rwa [Nat.zero_add] at this
      · have hz : 0 < tot g (q : Int) := by omega
        rw [tot_tl o] at hz
        obtain ⟨i, hi, e⟩ := sumN_ex hz
        have hui : usedB g (i : Int) = true := by
          refine used_iff.mpr ⟨inB_iff.mpr (by omega), ?_⟩
          have := o.pos (i : Int) (inB_iff.mpr (by omega))
          refine Classical.byContradiction fun hn => ?_
          have hz := o.zero (i : Int) (inB_iff.mpr (by omega)) (by omega)
          simp only [hz] at e
          exact absurd e (by simp [tl, zNd, cntV])
        obtain ⟨d', l', hd', t'⟩ := ht _ hui
        obtain ⟨d2, l2, e2, t2⟩ := t'.child e
        have := (t2.uniq t).1
        unfold heldB
        rw [Bool.or_eq_true, List.any_eq_true]
        refine .inr ⟨i, List.mem_range.mpr hi, ?_⟩
        rw [ih i d' l' t' hd' (by omega), Bool.true_and, tellsN_tl o hi]
        exact decide_eq_true e
  unfold soundB
  rw [List.all_eq_true]
  intro q hq
  rw [List.mem_range] at hq
  have hin : inB g (q : Int) = true := inB_iff.mpr (by omega)
  unfold soundAt
  simp only [Bool.and_eq_true, decide_eq_true_eq, beq_iff_eq, ← clAt_nat']
  refine ⟨?_, ?_⟩
  · rw [c _ hin, ← cntI_one]; unfold refsN tot; rw [Int.natCast_add]
  · by_cases hr : 0 < (clAt g (q : Int)).ref
    · rw [decide_eq_true hr]
      obtain ⟨d, l, hd, t⟩ := ht _ (used_iff.mpr ⟨hin, hr⟩)
      have := hdown 20 q d l t hd (by omega)
      exact heldB_mono g [p] q 5 20 this
    · rw [decide_eq_false hr, ← Bool.not_eq_true]
      exact fun h => hr (used_iff.mp (hup 25 q hq h)).2
/-- Where everything adds up Refs are small. -/
theorem ct_small {g : Hp} {B : Int} {p : Int} (o : Ok g B) (c : Ct g (one p)) {q : Int} (hq : inB g q = true) : (clAt g q).ref ≤ 8001 := by
  have h1 := c q hq
  have h2 : tot g q ≤ g.c.length * 4 := by
    rw [tot_tl o, ← sumN_const 4]
    refine sumN_mono fun i hi => ?_
    have hin : inB g (i : Int) = true := inB_iff.mpr (by omega)
    by_cases hr : 0 < (clAt g (i : Int)).ref
    · have := (nodeRight_iff.mp (o.right _ (used_iff.mpr ⟨hin, hr⟩))).1
      unfold tl
      split
      · omega
      · have := cntV_le (clAt g (i : Int)).n.it q; omega
    · have := o.pos _ hin
      rw [o.zero _ hin (by omega)]
      simp [tl, zNd, cntV]
  have h3 : one p q ≤ 1 := by unfold one; split <;> omega
  have := o.l2
  omega
theorem fitsH_free {h : Hp} {B : Int} {n : Int} {deep : Bool} (o : Ok h B) (e : fitsH h n deep = true) : n ≤ (freeN h : Int) := by
  unfold fitsH at e
  have h1 : freeN h ≤ h.c.length := List.length_filter_le _ _
  have := o.l2; have := o.k1; have := o.k2
  split at e
  · simpa using e
  · rw [w64_id (by omega) (by omega)] at e
    have : n ≤ (freeN h : Int) - h.keep := by simpa using e
    omega
theorem freeN_le {g g' : Hp} (x : Le g g') : freeN g' = freeN g := freeN_congr x.len x.free
/-- A tree made anew over its old one. -/
structure Anew (h g : Hp) (p : Int) (d : Nat) (l : List It) (B : Int) : Prop where
  ok : Ok g B
  ext : Ext h g
  tr : T g d p l
  new : usedB h p = false
  hts : ∀ q, usedB g q = true → usedB h q = true ∨ ∃ d' l', d' ≤ d ∧ T g d' q l'
  ct : ∀ R : Int → Int, Ct h R → Ct g (fun q => R q + one p q)
theorem lay_one {h g : Hp} {held : List Int} {x : It} {r made : List It} (e : layO h false held [x :: r] = some (g, made)) : ∃ p er, allocO h ⟨false, x :: r⟩ held = some (g, p, er) ∧ made = [⟨x.k, p⟩] := by
  unfold layO at e
  cases ha : allocO h ⟨false, x :: r⟩ held with
  | none => rw [ha] at e; simp at e
  | some t =>
    obtain ⟨g1, p, er⟩ := t
    rw [ha] at e
    simp only [layO, Option.bind_eq_bind, Option.bind_some, Option.some.injEq, Prod.mk.injEq] at e
    obtain ⟨rfl, rfl⟩ := e
    exact ⟨p, er, rfl, rfl⟩
theorem cntV_one (k p q : Int) : ((cntV [⟨k, p⟩] q : Nat) : Int) = one p q := by
  rw [cntV_cons, cntV_nil]
  unfold one
  show ((0 + if p = q then 1 else 0 : Nat) : Int) = _
  by_cases e : p = q
  · rw [if_pos e, if_pos e.symm]; rfl
  · rw [if_neg e, if_neg (fun h => e h.symm)]; rfl
/-- What is made takes the old root's place. -/
def putM (f : Nat) (g : Hp) (root : Int) : List It → Option (Hp × Int × Int)
  | [] => none
  | [y] => settledO f g y.v root
  | y :: z :: r => (overO g (y :: z :: r)).bind fun x => settledO f x.1 x.2.1 root
theorem putO_made {f : Nat} {h g : Hp} {root key val : Int} {deep : Bool} {d : Nat} {made : List It} (hh : highO 21 h root = some d) (hd : d < 20) (hk : fitsB key = true) (hv : fitsB val = true) (hf : fitsH h (2 * (d : Int) + 1) deep = true) (hr : ¬ root < 0) (a : anewO 20 h root ⟨key, val⟩ = some (g, made)) : putO f h root key val deep = putM f g root made := by
  unfold putO
  rw [hh]
  simp only [Option.bind_eq_bind, Option.bind_some]
  rw [hk, hv, if_neg (by simp), hf, decide_eq_false (by omega), if_neg (by simp), if_neg hr, a]
  rcases made with _ | ⟨y, _ | ⟨z, r⟩⟩ <;> rfl
/-- What a put comes to, ahead of its old root's end. -/
theorem build_spec {h : Hp} {B : Int} {root : Int} {d : Nat} {l : List It} {key val : Int} {deep : Bool} (f : Nat) (o : Ok h B) (hB1 : 1 ≤ B) (hB : B ≤ 1000000000) (t : T h d root l) (hd : d < 20) (hk : fitsB key = true) (hv : fitsB val = true) (hf : fitsH h (2 * (d : Int) + 1) deep = true) :
    ∃ g p d', putO f h root key val deep = settledO f g p root ∧ Anew h g p d' (ins l ⟨key, val⟩) (B + 200) ∧ (d' = d ∨ d' = d + 1) ∧ freeN h ≤ freeN g + (2 * d + 1) ∧ freeN g + d ≤ freeN h := by
  have hfree := fitsH_free o hf
  obtain ⟨g, made, ls, a1, a2, a3, a4, a5, a6, a7, a8⟩ := anew_spec d 20 h root l ⟨key, val⟩ B (by omega) o hB1 (by omega) t ⟨hk, hv⟩ (by omega)
  rw [putO_made (f := f) (t.high 21 (by omega)) hd hk hv hf (neg_of_used t.used) a1]
  clear a1
  match made, ls, a2, a3, a4, a5, a8 with
  | [], _, _, _, a4, _, _ => simp at a4
  | [y], ls, a2, a3, _, _, a8 =>
    have tr := a2.tr
    cases tr with
    | cons r rest =>
      cases rest
      rename_i li
      have e : li = ins l ⟨key, val⟩ := by simpa using a3
      rw [e] at r
      refine ⟨g, y.v, d, rfl, ⟨a2.ok.wide (by omega), a2.ext, r.2, a2.new y (by simp), a2.hts, fun R hR => (a8 R hR).congr fun q _ => ?_⟩, .inl rfl, by omega, by omega⟩
      rcases y with ⟨k, v⟩
      dsimp only
      rw [cntV_one]
  | y :: z :: r, ls, a2, a3, _, a5, a8 =>
    have hins := ins_gd t.gd.up t.gd.fit (x := ⟨key, val⟩) ⟨hk, hv⟩
    obtain ⟨g2, m2, ls2, l1, l2, l3, l4, l5, l6⟩ := lay_inner (rows := [y :: z :: r]) (ls := ls) a2.ok (by omega) (by omega) (vL (y :: z :: r)) (fun r' hr' => by rw [List.mem_singleton.mp hr']; exact ⟨by simp, by omega⟩) (by simp) (by simp) (by simp only [List.length_cons, List.length_nil]; omega) (by simpa using a2.tr) (by rw [a3]; exact hins.up)
    obtain ⟨p, er, ea, rfl⟩ := lay_one l1
    have tr := l2.tr
    cases tr with
    | cons rr rest =>
      cases rest
      rename_i li
      have e : li = ins l ⟨key, val⟩ := by rw [← a3, ← l3]; simp
      rw [e] at rr
      simp only [List.length_cons, List.length_nil] at l5
      refine ⟨g2, p, d + 1, ?_, ⟨l2.ok.wide (by omega), a2.ext.trans l2.ext, rr.2, ?_, fun q hq => ?_, fun R hR => l6 _ _ (a8 R hR) fun q hq => ?_⟩, .inr rfl, by omega, by omega⟩
      · show (overO g (y :: z :: r)).bind _ = _
        unfold overO; rw [ea]; rfl
      · have := l2.new ⟨y.k, p⟩ (by simp)
        cases hu : usedB h p with
        | false => rfl
        | true => rw [(a2.ext.use _ hu).1] at this; cases this
      · rcases l2.hts q hq with hu | hu
        · rcases a2.hts q hu with hu | ⟨d', l', h1, h2⟩
          · exact .inl hu
          · exact .inr ⟨d', l', by omega, h2.ext l2.ext⟩
        · exact .inr hu
      · have : hpN ⟨false, [y :: z :: r].flatten⟩ (vL (y :: z :: r)) q = cntV (y :: z :: r) q := by
          unfold hpN
          rw [if_neg (by simp)]
          split
          · simp
          · rename_i hq2
            exact (inL_vL.mp (by simpa using hq2)).symm
        rw [this, cntV_one]
        (try dsimp only)
        omega
/-- The old root goes. -/
theorem settle_spec {h g : Hp} {B : Int} {root p : Int} {d d' : Nat} {l l' : List It} (hB : B ≤ 1000000000) (t : T h d root l) (hd : d ≤ 20) (hd' : d' ≤ 20) (a : Anew h g p d' l' B) :
    ∃ g', settledO 25 g p root = some (g', p, 0) ∧ Ok g' B ∧ g'.c.length = h.c.length ∧ g'.keep = h.keep ∧ freeN g' = freeN g ∧ (Ct h (one root) → Hts h → Ct g' (one p) ∧ Hts g' ∧ T g' d' p l') := by
  have u := (a.ext.use root t.used).1
  obtain ⟨g', e, o', x, c⟩ := loose_spec 25 d g root B (by omega) a.ok (by omega) (t.ext a.ext).wk
  refine ⟨g', ?_, o', x.len.trans a.ext.len, x.keep.trans a.ext.keep, freeN_le x, fun hc hh => ?_⟩
  · unfold settledO looseH
    have := neg_of_used t.used
    rw [if_pos (by omega), if_pos u, e]; rfl
  · have c1 := c _ (a.ct _ hc) (fun q => by have := one_nonneg root q; have := one_nonneg p q; (try dsimp only); omega) (by have := one_self root; have := one_nonneg p root; (try dsimp only); omega)
    have c2 : Ct g' (one p) := c1.congr fun q _ => by
      (try dsimp only)
      have : (if q = root then (1 : Int) else 0) = one root q := rfl
      omega
    have hk : ∀ {d : Nat} {p : Int} {l : List It}, T g d p l → usedB g' p = true → T g' d p l := T.keep o' c2 (one_nonneg p) x
    refine ⟨c2, fun q hq => ?_, hk a.tr ?_⟩
    · have hg := (x.use q hq).1
      rcases a.hts q hg with hu | ⟨d2, l2, h1, h2⟩
      · obtain ⟨d2, l2, h1, h2⟩ := hh q hu
        exact ⟨d2, l2, h1, hk (h2.ext a.ext) hq⟩
      · exact ⟨d2, l2, by omega, hk h2 hq⟩
    · have hin : inB g' p = true := by rw [inB_len x.len]; exact (used_iff.mp a.tr.used).1
      have := c2 p hin
      rw [one_self] at this
      exact used_iff.mpr ⟨hin, by omega⟩
/-- What a put that is done comes to. -/
structure PutOk (h g : Hp) (root p : Int) (d : Nat) (l l' : List It) (B : Int) : Prop where
  ok : Ok g B
  len : g.c.length = h.c.length
  keep : g.keep = h.keep
  pos : 0 ≤ p
  lo : freeN h ≤ freeN g + (2 * d + 1)
  hi : freeN g + max d 1 ≤ freeN h
  fine : Ct h (one root) → Hts h → Ct g (one p) ∧ Hts g ∧ ∃ d', (d' = d ∨ d' = d + 1) ∧ d' ≤ 20 ∧ T g d' p l'
theorem Rt.high {h : Hp} {root : Int} {d : Nat} {l : List It} (t : Rt h root d l) : highO 21 h root = some d := by
  rcases t with ⟨rfl, rfl, rfl⟩ | ⟨hd, t⟩
  · rfl
  · exact t.high 21 (by omega)
theorem Rt.up {h : Hp} {root : Int} {d : Nat} {l : List It} (t : Rt h root d l) : l.Pairwise fun a b => a.k < b.k := by
  rcases t with ⟨rfl, rfl, rfl⟩ | ⟨hd, t⟩
  · exact .nil
  · exact t.gd.up
theorem put_spec {h : Hp} {B : Int} {root : Int} {d : Nat} {l : List It} (key val : Int) (deep : Bool) (o : Ok h B) (hB1 : 1 ≤ B) (hB : B ≤ 100000000) (t : Rt h root d l) :
    ∃ g p e, putO 25 h root key val deep = some (g, p, e) ∧
      ((e = 1 ∧ g = h ∧ p = root ∧ ¬ (fitsB key = true ∧ fitsB val = true)) ∨
       (e = 3 ∧ g = h ∧ p = root ∧ (fitsB key = true ∧ fitsB val = true) ∧ ¬ (fitsH h (2 * (d : Int) + 1) deep = true ∧ d < 20)) ∨
       (e = 0 ∧ (fitsB key = true ∧ fitsB val = true) ∧ (fitsH h (2 * (d : Int) + 1) deep = true ∧ d < 20) ∧ PutOk h g root p d l (ins l ⟨key, val⟩) (B + 200))) := by
  by_cases hargs : fitsB key = true ∧ fitsB val = true
  · obtain ⟨hk, hv⟩ := hargs
    have hd20 : d ≤ 20 := by rcases t with ⟨_, rfl, _⟩ | ⟨h, _⟩ <;> omega
    by_cases hroom : fitsH h (2 * (d : Int) + 1) deep = true ∧ d < 20
    · obtain ⟨hf, hd⟩ := hroom
      rcases t with ⟨rfl, rfl, rfl⟩ | ⟨_, t⟩
      · have hfree := fitsH_free o hf
        have hx : fitsB (It.mk key val).k = true ∧ fitsB (It.mk key val).v = true := ⟨hk, hv⟩
        have hg : Gd [It.mk key val] := by
          have := ins_gd (l := []) (x := ⟨key, val⟩) .nil (fun x hx => by cases hx) hx
          simpa [ins] using this
        obtain ⟨g, made, l1, l2, l3, l4, l5⟩ := lay_leaf (rows := [[⟨key, val⟩]]) o hB1 (by omega) (fun r hr => by rw [List.mem_singleton.mp hr]; exact ⟨by simp, by simp⟩) (by simpa using hg) (by simp) (by simp only [List.length_cons, List.length_nil]; omega)
        unfold layO at l1
        obtain ⟨g1, f, ea, -⟩ := alloc_step (n := ⟨true, [⟨key, val⟩]⟩) (held := []) o (by omega) (nodeRight_iff.mpr ⟨by simp, hg⟩) (leadsB_iff.mpr (fun h => by cases h)) (by omega)
        rw [ea] at l1
        simp only [layO, Option.bind_eq_bind, Option.bind_some, Option.some.injEq, Prod.mk.injEq] at l1
        obtain ⟨rfl, rfl⟩ := l1
        have tr := l2.tr
        cases tr with
        | cons rr rest =>
          cases rest
          refine ⟨g1, f, 0, ?_, .inr (.inr ⟨rfl, ⟨hk, hv⟩, ⟨hf, hd⟩, ⟨l2.ok.wide (by omega), l2.ext.len, l2.ext.keep, ?_, ?_, ?_, fun hc hh => ⟨?_, fun q hq => ?_, 1, .inr rfl, by omega, ?_⟩⟩⟩)⟩
          · unfold putO
            have : highO 21 h (-1) = some 0 := rfl
            rw [this]
            simp only [Option.bind_eq_bind, Option.bind_some]
            rw [hk, hv, if_neg (by simp), hf, decide_eq_false (by omega), if_neg (by simp), if_pos (by omega), ea]
            rfl
          · have := neg_of_used rr.2.used; dsimp only at this; omega
          · simp only [List.length_cons, List.length_nil] at l4; omega
          · simp only [List.length_cons, List.length_nil] at l4; omega
          · refine (l5 _ hc).congr fun q hq => ?_
            rw [cntV_one]
            have : one (-1) q = 0 := by unfold one; rw [if_neg (by have := (inB_iff.mp hq).1; omega)]
            omega
          · rcases l2.hts q hq with hu | ⟨d2, l2', h1, h2⟩
            · obtain ⟨d2, l2', h1, h2⟩ := hh q hu
              exact ⟨d2, l2', h1, h2.ext l2.ext⟩
            · exact ⟨d2, l2', by omega, h2⟩
          · have : ins [] (It.mk key val) = [⟨key, val⟩] := rfl
            rw [this]; exact rr.2
      · obtain ⟨g, p, d', e, a, h1, h2, h3⟩ := build_spec 25 o hB1 (by omega) t hd hk hv hf
        obtain ⟨g', e', o', b1, b2, b3, b4⟩ := settle_spec (by omega) t hd20 (by omega) a
        refine ⟨g', p, 0, by rw [e, e'], .inr (.inr ⟨rfl, ⟨hk, hv⟩, ⟨hf, hd⟩, ⟨o', b1, b2, ?_, by omega, ?_, fun hc hh => ?_⟩⟩)⟩
        · have := neg_of_used a.tr.used; omega
        · have := t.pos; omega
        · obtain ⟨x, y, z⟩ := b4 hc hh
          exact ⟨x, y, d', h1, by omega, z⟩
    · refine ⟨h, root, 3, ?_, .inr (.inl ⟨rfl, rfl, rfl, ⟨hk, hv⟩, hroom⟩)⟩
      unfold putO
      rw [t.high]
      simp only [Option.bind_eq_bind, Option.bind_some]
      rw [hk, hv, if_neg (by simp), if_pos]
      rw [Bool.or_eq_true, decide_eq_true_eq, Bool.not_eq_true']
      by_cases h20 : d = 20
      · exact .inl h20
      · right
        rw [← Bool.not_eq_true]
        exact fun hf => hroom ⟨hf, by omega⟩
  · refine ⟨h, root, 1, ?_, .inl ⟨rfl, rfl, rfl, hargs⟩⟩
    unfold putO
    rw [t.high]
    simp only [Option.bind_eq_bind, Option.bind_some]
    rw [if_pos]
    rw [Bool.or_eq_true, Bool.not_eq_true', Bool.not_eq_true']
    cases hk : fitsB key with
    | false => exact .inl rfl
    | true =>
      cases hv : fitsB val with
      | false => exact .inr rfl
      | true => exact absurd ⟨hk, hv⟩ hargs
end Go.Proofs.Ytopkoganfnabgaa.H
namespace Go.Proofs.Ytopkoganfnabgaa.H
theorem small_of {h : Hp} {most : Nat} (hl : h.c.length ≤ most) (H : ∀ p, inB h p = true → (clAt h p).n.it.length ≤ 10 ∧ (clAt h p).ref ≤ 1000000) : smallB h most = true := by
  unfold smallB
  rw [Bool.and_eq_true, decide_eq_true_eq, all_cells]
  refine ⟨hl, fun p hp => ?_⟩
  unfold smallC
  simpa using H p hp
theorem small_ok {h : Hp} {most : Nat} (hs : smallB h most = true) (hr : rightB h = true) : Ok h 1000000 ∧ h.c.length ≤ most := by
  have o := rightB_ok.mp hr
  obtain ⟨a, b⟩ := small_facts hs
  exact ⟨⟨o.l1, o.l2, o.k1, o.k2, o.pos, fun p hp => by obtain ⟨i, rfl, hi⟩ := inB_nat' hp; rw [clAt_nat']; exact (b i hi).2, o.zero, o.pin, o.right, o.plc⟩, a⟩
theorem Ok.it_len {h : Hp} {B : Int} (o : Ok h B) {p : Int} (hp : inB h p = true) : (clAt h p).n.it.length ≤ 4 := by
  by_cases hr : 0 < (clAt h p).ref
  · exact (nodeRight_iff.mp (o.right p (used_iff.mpr ⟨hp, hr⟩))).1
  · have := o.pos p hp
    rw [o.zero p hp (by omega)]; exact Nat.zero_le _
theorem Ok.cut {h : Hp} {B C : Int} (o : Ok h B) (H : ∀ p, inB h p = true → (clAt h p).ref ≤ C) : Ok h C := ⟨o.l1, o.l2, o.k1, o.k2, o.pos, H, o.zero, o.pin, o.right, o.plc⟩
theorem Rt.tree {h : Hp} {root : Int} {d : Nat} {l : List It} (t : Rt h root d l) : treeO h root = some true := by
  rcases t with ⟨rfl, _⟩ | ⟨hd, t⟩
  · exact T_treeO (.inl rfl)
  · exact T_treeO (.inr ⟨d, l, hd, t⟩)
theorem may7_true {h : Hp} {root : Int} {most : Nat} {B : Int} {d : Nat} {l : List It} (o : Ok h B) (hl : h.c.length ≤ most) (c : Ct h (one root)) (t : Rt h root d l) : may7O h root most = some true := by
  have hc := fun q hq => ct_small o c (q := q) hq
  unfold may7O mayB
  rw [small_of hl fun p hp => ⟨by have := o.it_len hp; omega, by have := hc p hp; omega⟩, rightB_ok.mpr (o.cut fun p hp => by have := hc p hp; omega), if_pos (by rfl)]
  exact t.tree
theorem fine_some {h : Hp} {root : Int} (most : Nat) : ∃ b, fineO h [root] most = some b := by
  have : ∃ b, may8O h [root] most = some b := by
    unfold may8O
    split
    · unfold anyO
      split
      · rename_i hr
        obtain ⟨b, hb⟩ := treeO_some (rightB_ok.mp hr) root
        unfold anyL
        rw [hb]
        cases b <;> simp [anyL]
      · exact ⟨_, rfl⟩
    · exact ⟨_, rfl⟩
  obtain ⟨b, hb⟩ := this
  unfold fineO
  rw [hb]
  cases b <;> simp
/-- A sound heap with a root. -/
structure FP (h : Hp) (root : Int) (d : Nat) (l : List It) : Prop where
  ok : Ok h 8001
  ct : Ct h (one root)
  ht : Hts h
  tr : Rt h root d l
theorem fine_facts {h : Hp} {root : Int} {most : Nat} (e : fineO h [root] most = some true) : h.c.length ≤ most ∧ ∃ d l, FP h root d l := by
  unfold fineO at e
  cases hm : may8O h [root] most with
  | none => rw [hm] at e; cases e
  | some b =>
    rw [hm] at e
    cases b with
    | false => simp at e
    | true =>
      obtain ⟨s1, _, s3, s4⟩ := may8_facts hm
      obtain ⟨o, hl⟩ := small_ok s1 s3
      have hs : soundB h [root] = true := by simpa using e
      have ht : treeO h root = some true := by
        unfold anyL at s4
        cases hq : treeO h root with
        | none => rw [hq] at s4; cases s4
        | some b =>
          rw [hq] at s4
          cases b with
          | true => rfl
          | false => simp at s4
      have : ∃ d l, Rt h root d l := by
        rcases treeO_T o ht with rfl | ⟨d, l, hd, t⟩
        · exact ⟨0, [], .inl ⟨rfl, rfl, rfl⟩⟩
        · exact ⟨d, l, .inr ⟨hd, t⟩⟩
      obtain ⟨d, l, t⟩ := this
      obtain ⟨c, hh⟩ := sound_in o hs t
      exact ⟨hl, d, l, o.cut fun p hp => ct_small o c hp, c, hh, t⟩
theorem FP.fine {h : Hp} {root : Int} {d : Nat} {l : List It} (f : FP h root d l) {most : Nat} (hl : h.c.length ≤ most) : fineO h [root] most = some true := by
  have hs := sound_out f.ok f.ct f.ht
  have h1 : smallB h most = true := small_of hl fun p hp => ⟨by have := f.ok.it_len hp; omega, by have := f.ok.le p hp; omega⟩
  have h2 : rightB h = true := rightB_ok.mpr (f.ok.wide (by decide))
  unfold fineO may8O anyO anyL
  rw [h1, h2, f.tr.tree, hs]
  rfl
theorem FP.may7 {h : Hp} {root : Int} {d : Nat} {l : List It} (f : FP h root d l) {most : Nat} (hl : h.c.length ≤ most) : may7O h root most = some true := may7_true f.ok hl f.ct f.tr
/-- What a put comes to in a sound heap. -/
theorem FP.put {h : Hp} {root : Int} {d : Nat} {l : List It} (f : FP h root d l) (key val : Int) (deep : Bool) :
    ∃ g p e, putO 25 h root key val deep = some (g, p, e) ∧
      ((e = 1 ∧ g = h ∧ p = root ∧ ¬ (fitsB key = true ∧ fitsB val = true)) ∨
       (e = 3 ∧ g = h ∧ p = root ∧ (fitsB key = true ∧ fitsB val = true) ∧ ¬ (fitsH h (2 * (d : Int) + 1) deep = true ∧ d < 20)) ∨
       (e = 0 ∧ (fitsB key = true ∧ fitsB val = true) ∧ (fitsH h (2 * (d : Int) + 1) deep = true ∧ d < 20) ∧ 0 ≤ p ∧ g.c.length = h.c.length ∧ g.keep = h.keep ∧ freeN h ≤ freeN g + (2 * d + 1) ∧ freeN g + max d 1 ≤ freeN h ∧ ∃ d', (d' = d ∨ d' = d + 1) ∧ FP g p d' (ins l ⟨key, val⟩))) := by
  obtain ⟨g, p, e, h1, h2⟩ := put_spec key val deep f.ok (by decide) (by decide) f.tr
  refine ⟨g, p, e, h1, ?_⟩
  rcases h2 with h2 | h2 | ⟨a, b, c, k⟩
  · exact .inl h2
  · exact .inr (.inl h2)
  · obtain ⟨x, y, d', z1, z2, z3⟩ := k.fine f.ct f.ht
    exact .inr (.inr ⟨a, b, c, k.pos, k.len, k.keep, k.lo, k.hi, d', z1, ⟨k.ok.cut fun q hq => ct_small k.ok x hq, x, y, .inr ⟨z2, z3⟩⟩⟩)
end Go.Proofs.Ytopkoganfnabgaa.H
namespace Go.Proofs.Ytopkoganfnabgaa.H
open Go.RowKit Go.Proofs.YtopkoganfnabgaaW.PrintWords Go.Proofs.YtopkoganfnabgaaW.PrintLast Go.Proofs.YtopkoganfnabgaaW.PrintMore
attribute [local go_sem] max2_int min2_int max_two min_two max_three min_three max_four min_four
set_option linter.unusedVariables false
set_option linter.unusedSimpArgs false
theorem one_int (W : World) (x : Int) : (Kd.int .i64).C (W.alloc (.cells #[.int .i64 x] 3)) (some ⟨W.heap.size, 0, none⟩) 1 [x] := by
  refine ⟨rfl, by decide, fun _ => ⟨_, rfl, fun j p hj => ?_⟩⟩
  have hj0 : j = 0 := by
    have := (List.getElem?_eq_some_iff.1 hj).1
    simp at this
    exact this
  subst hj0
  cases hj
  refine ⟨[.int .i64 x], rfl, rfl, fun i u hu => ?_⟩
  have hi : i = 0 := by
    have := (List.getElem?_eq_some_iff.1 hu).1
    simpa using this
  subst hi
  rw [show (({ block := W.heap.size, off := 0 } : Addr).add (0 * (Kd.int .i64).sz + 0)) = ⟨W.heap.size, 0, none⟩ from rfl, blk_cell (blk_new W _) 0]
  exact hu
/-- Where a law of grow stands behind its first regions. -/
structure LwSt (w W : World) (A : Option Addr) (c : Nat) (h : Hp) (x : It) (n : Nat) : Prop where
  b0 : Below w.heap.size w W
  hh : W.heap[w.heap.size + n]? = some (.cells #[.slice A h.c.length c, .int .i64 h.keep] 24 (0, 0))
  hx : W.heap[w.heap.size + n + 1]? = some (.cells #[.int .i64 x.k, .int .i64 x.v] 26 (0, 0))
  cl : kCl.C W A h.c.length h.c
theorem LwSt.step {w W W' : World} {A : Option Addr} {c : Nat} {h : Hp} {x : It} {n : Nat} (s : LwSt w W A c h x n) (hb : Below W.heap.size W W') : LwSt w W' A c h x n := ⟨below_step s.b0 hb, blk_below s.hh hb, blk_below s.hx hb, Kd.C_below s.cl hb⟩
theorem fits_deep (h : Hp) (n : Int) : fitsH h n true = decide (n ≤ (freeN h : Int)) := rfl
theorem fits_keep (h : Hp) (n : Int) : fitsH h n false = decide (n ≤ wrap64 ((freeN h : Int) - h.keep)) := by rw [← w64_eq]; rfl
set_option maxHeartbeats 4000000 in
set_option maxRecDepth 100000 in
theorem room_walk (A : Option Addr) (c : Nat) (h : Hp) (root : Int) (x : It) (deep : Bool) (w : World) (hr : kCl.C w A h.c.length h.c) (hcc : h.c.length ≤ c) :
    Calls Try.prog 4 #[.agg #[.slice A h.c.length c, .int .i64 h.keep, .int .i64 root, .int .i64 x.k, .int .i64 x.v, .bool deep]] w fun e w' => e = .returned (.bool true) ∧ Below w.heap.size w w' := by
  obtain ⟨W1, hW1⟩ : ∃ W1, W1 = ((w.alloc (.cells #[.slice A h.c.length c, .int .i64 h.keep, .int .i64 root, .int .i64 x.k, .int .i64 x.v, .bool deep] 46)).alloc (.cells #[.slice A h.c.length c, .int .i64 h.keep] 24)).alloc (.cells #[.int .i64 x.k, .int .i64 x.v] 26) := ⟨_, rfl⟩
  have S0 := Aside0.mk (show LwSt w W1 A c h x 1 by
    rw [hW1]
    exact ⟨below_alloc (below_alloc (below_alloc (Below.refl _ _) _) _) _, blk_alloc (blk2 w _ _) _, blk3 w _ _ _, Kd.C_alloc (Kd.C_alloc (Kd.C_alloc hr _) _) _⟩)
  have hW1' := Aside0.mk hW1
  obtain ⟨b, hb⟩ := fine_some (h := h) (root := root) 40
  have HFI := Aside0.mk (show ∀ (W : World) (Ar : Option Addr), (Kd.int .i64).C W Ar 1 [root] → kCl.C W A h.c.length h.c → Calls Try.prog 18 #[.agg #[.slice A h.c.length c, .int .i64 h.keep], .slice Ar 1 1, .slice none 0 0, .int .i64 40] W fun e w' => e = .returned (.bool b) ∧ Below W.heap.size W w' from fun W Ar hrr hcl => fine_walk A Ar c 1 h [root] 40 b W hcl hrr hb)
  clear hW1
  cases b with
  | false =>
    clear hb
    ((go_enter Try.func4, Try.ntmps4; go_upto_region 5 with (fail); rw [← hW1'.out]; go_upto_region 6 with (first | (go_at_call 11; (with_reducible refine (shown9_walk _).mono ?_); rintro e w1 ⟨rfl, hb1⟩; have S1 := Aside0.mk (S0.out.step hb1); have c0 := (blk_cell S1.out.hh 0).trans (show _ = some (Value.slice A h.c.length c) from rfl); have c1 := (blk_cell S1.out.hh 1).trans (show _ = some (Value.int .i64 h.keep) from rfl); clear hb1) | fail)); go_wp2_with (first | (go_at_call 18; (with_reducible refine (HFI.out _ _ (one_int _ root) (Kd.C_below S1.out.cl (by repeat (first | (with_reducible exact Below.refl _ _) | (with_reducible refine below_alloc ?_ _) | (with_reducible refine below_drew1 ?_) | (with_reducible refine pw_below_drewN ?_ _) | fail)))).mono ?_); rintro e w2 ⟨rfl, hb2⟩; have S2 := Aside0.mk (S1.out.step (below_step (below_alloc (Below.refl _ _) _) hb2)); have x0 := (blk_cell S2.out.hx 0).trans (show _ = some (Value.int .i64 x.k) from rfl); have x1 := (blk_cell S2.out.hx 1).trans (show _ = some (Value.int .i64 x.v) from rfl); have y0 := (blk_cell S2.out.hh 0).trans (show _ = some (Value.slice A h.c.length c) from rfl); have y1 := (blk_cell S2.out.hh 1).trans (show _ = some (Value.int .i64 h.keep) from rfl); clear hb2) | fail); go_ret; exact ⟨rfl, S2.out.b0⟩)
  | true =>
    obtain ⟨hl40, d, l, fp⟩ := fine_facts hb
    clear hb
    by_cases hk1 : x.k < 0
    · have q1 : decide (x.k < 0) = true := decide_eq_true hk1
      clear hk1 fp hl40
      ((go_enter Try.func4, Try.ntmps4; go_upto_region 5 with (fail); rw [← hW1'.out]; go_upto_region 6 with (first | (go_at_call 11; (with_reducible refine (shown9_walk _).mono ?_); rintro e w1 ⟨rfl, hb1⟩; have S1 := Aside0.mk (S0.out.step hb1); have c0 := (blk_cell S1.out.hh 0).trans (show _ = some (Value.slice A h.c.length c) from rfl); have c1 := (blk_cell S1.out.hh 1).trans (show _ = some (Value.int .i64 h.keep) from rfl); clear hb1) | fail)); go_wp2_with (first | (go_at_call 18; (with_reducible refine (HFI.out _ _ (one_int _ root) (Kd.C_below S1.out.cl (by repeat (first | (with_reducible exact Below.refl _ _) | (with_reducible refine below_alloc ?_ _) | (with_reducible refine below_drew1 ?_) | (with_reducible refine pw_below_drewN ?_ _) | fail)))).mono ?_); rintro e w2 ⟨rfl, hb2⟩; have S2 := Aside0.mk (S1.out.step (below_step (below_alloc (Below.refl _ _) _) hb2)); have x0 := (blk_cell S2.out.hx 0).trans (show _ = some (Value.int .i64 x.k) from rfl); have x1 := (blk_cell S2.out.hx 1).trans (show _ = some (Value.int .i64 x.v) from rfl); have y0 := (blk_cell S2.out.hh 0).trans (show _ = some (Value.slice A h.c.length c) from rfl); have y1 := (blk_cell S2.out.hh 1).trans (show _ = some (Value.int .i64 h.keep) from rfl); clear hb2) | fail); go_ret; exact ⟨rfl, S2.out.b0⟩)
    have q1 : decide (x.k < 0) = false := decide_eq_false hk1
    by_cases hk2 : 2147483647 < x.k
    · have q2 : decide (2147483647 < x.k) = true := decide_eq_true hk2
      clear hk1 hk2 fp hl40
      ((go_enter Try.func4, Try.ntmps4; go_upto_region 5 with (fail); rw [← hW1'.out]; go_upto_region 6 with (first | (go_at_call 11; (with_reducible refine (shown9_walk _).mono ?_); rintro e w1 ⟨rfl, hb1⟩; have S1 := Aside0.mk (S0.out.step hb1); have c0 := (blk_cell S1.out.hh 0).trans (show _ = some (Value.slice A h.c.length c) from rfl); have c1 := (blk_cell S1.out.hh 1).trans (show _ = some (Value.int .i64 h.keep) from rfl); clear hb1) | fail)); go_wp2_with (first | (go_at_call 18; (with_reducible refine (HFI.out _ _ (one_int _ root) (Kd.C_below S1.out.cl (by repeat (first | (with_reducible exact Below.refl _ _) | (with_reducible refine below_alloc ?_ _) | (with_reducible refine below_drew1 ?_) | (with_reducible refine pw_below_drewN ?_ _) | fail)))).mono ?_); rintro e w2 ⟨rfl, hb2⟩; have S2 := Aside0.mk (S1.out.step (below_step (below_alloc (Below.refl _ _) _) hb2)); have x0 := (blk_cell S2.out.hx 0).trans (show _ = some (Value.int .i64 x.k) from rfl); have x1 := (blk_cell S2.out.hx 1).trans (show _ = some (Value.int .i64 x.v) from rfl); have y0 := (blk_cell S2.out.hh 0).trans (show _ = some (Value.slice A h.c.length c) from rfl); have y1 := (blk_cell S2.out.hh 1).trans (show _ = some (Value.int .i64 h.keep) from rfl); clear hb2) | fail); go_ret; exact ⟨rfl, S2.out.b0⟩)
    have q2 : decide (2147483647 < x.k) = false := decide_eq_false hk2
    by_cases hv1 : x.v < 0
    · have q3 : decide (x.v < 0) = true := decide_eq_true hv1
      clear hk1 hk2 hv1 fp hl40
      ((go_enter Try.func4, Try.ntmps4; go_upto_region 5 with (fail); rw [← hW1'.out]; go_upto_region 6 with (first | (go_at_call 11; (with_reducible refine (shown9_walk _).mono ?_); rintro e w1 ⟨rfl, hb1⟩; have S1 := Aside0.mk (S0.out.step hb1); have c0 := (blk_cell S1.out.hh 0).trans (show _ = some (Value.slice A h.c.length c) from rfl); have c1 := (blk_cell S1.out.hh 1).trans (show _ = some (Value.int .i64 h.keep) from rfl); clear hb1) | fail)); go_wp2_with (first | (go_at_call 18; (with_reducible refine (HFI.out _ _ (one_int _ root) (Kd.C_below S1.out.cl (by repeat (first | (with_reducible exact Below.refl _ _) | (with_reducible refine below_alloc ?_ _) | (with_reducible refine below_drew1 ?_) | (with_reducible refine pw_below_drewN ?_ _) | fail)))).mono ?_); rintro e w2 ⟨rfl, hb2⟩; have S2 := Aside0.mk (S1.out.step (below_step (below_alloc (Below.refl _ _) _) hb2)); have x0 := (blk_cell S2.out.hx 0).trans (show _ = some (Value.int .i64 x.k) from rfl); have x1 := (blk_cell S2.out.hx 1).trans (show _ = some (Value.int .i64 x.v) from rfl); have y0 := (blk_cell S2.out.hh 0).trans (show _ = some (Value.slice A h.c.length c) from rfl); have y1 := (blk_cell S2.out.hh 1).trans (show _ = some (Value.int .i64 h.keep) from rfl); clear hb2) | fail); go_ret; exact ⟨rfl, S2.out.b0⟩)
    have q3 : decide (x.v < 0) = false := decide_eq_false hv1
    by_cases hv2 : 2147483647 < x.v
    · have q4 : decide (2147483647 < x.v) = true := decide_eq_true hv2
      clear hk1 hk2 hv1 hv2 fp hl40
      ((go_enter Try.func4, Try.ntmps4; go_upto_region 5 with (fail); rw [← hW1'.out]; go_upto_region 6 with (first | (go_at_call 11; (with_reducible refine (shown9_walk _).mono ?_); rintro e w1 ⟨rfl, hb1⟩; have S1 := Aside0.mk (S0.out.step hb1); have c0 := (blk_cell S1.out.hh 0).trans (show _ = some (Value.slice A h.c.length c) from rfl); have c1 := (blk_cell S1.out.hh 1).trans (show _ = some (Value.int .i64 h.keep) from rfl); clear hb1) | fail)); go_wp2_with (first | (go_at_call 18; (with_reducible refine (HFI.out _ _ (one_int _ root) (Kd.C_below S1.out.cl (by repeat (first | (with_reducible exact Below.refl _ _) | (with_reducible refine below_alloc ?_ _) | (with_reducible refine below_drew1 ?_) | (with_reducible refine pw_below_drewN ?_ _) | fail)))).mono ?_); rintro e w2 ⟨rfl, hb2⟩; have S2 := Aside0.mk (S1.out.step (below_step (below_alloc (Below.refl _ _) _) hb2)); have x0 := (blk_cell S2.out.hx 0).trans (show _ = some (Value.int .i64 x.k) from rfl); have x1 := (blk_cell S2.out.hx 1).trans (show _ = some (Value.int .i64 x.v) from rfl); have y0 := (blk_cell S2.out.hh 0).trans (show _ = some (Value.slice A h.c.length c) from rfl); have y1 := (blk_cell S2.out.hh 1).trans (show _ = some (Value.int .i64 h.keep) from rfl); clear hb2) | fail); go_ret; exact ⟨rfl, S2.out.b0⟩)
    have q4 : decide (2147483647 < x.v) = false := decide_eq_false hv2
    have hfk : fitsB x.k = true := fitsB_iff.mpr (by omega)
    have hfv : fitsB x.v = true := fitsB_iff.mpr (by omega)
    obtain ⟨g, p, e, hput, hcase⟩ := fp.put x.k x.v deep
    have HPU := Aside0.mk (fun (W : World) (hcl : kCl.C W A h.c.length h.c) => growPut_walk A c h g root x.k x.v p e deep 25 W hcl hcc hput)
    have HHI := Aside0.mk (fun (W : World) (hcl : kCl.C W A h.c.length h.c) => refHigh_walk 21 A c h root d W (by decide) hcl fp.tr.high)
    have HFR := Aside0.mk (fun (W : World) (hcl : kCl.C W A h.c.length h.c) => refFree_walk A c h W hcl)
    clear hput hk1 hk2 hv1 hv2 hr
    rcases hcase with ⟨_, _, _, hno⟩ | ⟨rfl, hgh, hpr, _, hno⟩ | ⟨rfl, _, hyes, hp0, hgl, hgk, hlo, hhi, d', hd', fp'⟩
    · exact absurd ⟨hfk, hfv⟩ hno
    · obtain rfl := hgh.symm
      obtain rfl := hpr.symm
      have HNO := Aside0.mk hno
      have HD := Aside0.mk (show d ≤ 20 by rcases fp.tr with ⟨_, rfl, _⟩ | ⟨h, _⟩ <;> omega)
      clear hno fp
      (go_enter Try.func4, Try.ntmps4; go_upto_region 5 with (fail); rw [← hW1'.out]; go_upto_region 6 with (first | (go_at_call 11; (with_reducible refine (shown9_walk _).mono ?_); rintro e w1 ⟨rfl, hb1⟩; have S1 := Aside0.mk (S0.out.step hb1); have c0 := (blk_cell S1.out.hh 0).trans (show _ = some (Value.slice A h.c.length c) from rfl); have c1 := (blk_cell S1.out.hh 1).trans (show _ = some (Value.int .i64 h.keep) from rfl); clear hb1) | fail))
      go_upto_region 8 with (first | (go_at_call 18; (with_reducible refine (HFI.out _ _ (one_int _ root) (Kd.C_below S1.out.cl (by repeat (first | (with_reducible exact Below.refl _ _) | (with_reducible refine below_alloc ?_ _) | (with_reducible refine below_drew1 ?_) | (with_reducible refine pw_below_drewN ?_ _) | fail)))).mono ?_); rintro e w2 ⟨rfl, hb2⟩; have S2 := Aside0.mk (S1.out.step (below_step (below_alloc (Below.refl _ _) _) hb2)); have x0 := (blk_cell S2.out.hx 0).trans (show _ = some (Value.int .i64 x.k) from rfl); have x1 := (blk_cell S2.out.hx 1).trans (show _ = some (Value.int .i64 x.v) from rfl); have y0 := (blk_cell S2.out.hh 0).trans (show _ = some (Value.slice A h.c.length c) from rfl); have y1 := (blk_cell S2.out.hh 1).trans (show _ = some (Value.int .i64 h.keep) from rfl); clear hb2) | fail)
      go_upto_region 9 with (first | (go_at_call 13; (with_reducible refine (HPU.out _ (Kd.C_below S2.out.cl (by repeat (first | (with_reducible exact Below.refl _ _) | (with_reducible refine below_alloc ?_ _) | (with_reducible refine below_drew1 ?_) | (with_reducible refine pw_below_drewN ?_ _) | (with_reducible exact Below.refl _ _))))).mono ?_); rintro e w3 ⟨B3, c3, rfl, hc3, hr3, hb3⟩; have HR3 := Aside0.mk (And.intro hc3 hr3); have HB3 := Aside0.mk hb3; clear hc3 hr3 hb3) | fail)
      (obtain ⟨W4, hW4⟩ : ∃ W4, W4 = w3.alloc (.cells #[.slice B3 h.c.length c3, .int .i64 h.keep] 24) := ⟨_, rfl⟩; have S4 := Aside0.mk (show LwSt w W4 A c h x 1 by rw [hW4]; exact S2.out.step (below_alloc HB3.out _)); have HG4 := Aside0.mk (show W4.heap[w3.heap.size]? = some (.cells #[.slice B3 h.c.length c3, .int .i64 h.keep] 24 (0, 0)) by rw [hW4]; exact blk_new w3 _); have HR4 := Aside0.mk (show kCl.C W4 B3 h.c.length h.c by rw [hW4]; exact Kd.C_alloc HR3.out.2 _); rw [← hW4]; clear hW4; have d0 := (blk_cell S4.out.hh 0).trans (show _ = some (Value.slice A h.c.length c) from rfl); have d1 := (blk_cell S4.out.hh 1).trans (show _ = some (Value.int .i64 h.keep) from rfl))
      go_upto_region 12 with (first | (go_at_call 21; (with_reducible refine (HHI.out _ (Kd.C_below S4.out.cl (by repeat (first | (with_reducible exact Below.refl _ _) | (with_reducible refine below_alloc ?_ _) | (with_reducible refine below_drew1 ?_) | (with_reducible refine pw_below_drewN ?_ _) | (with_reducible exact Below.refl _ _))))).mono ?_); rintro e w5 ⟨rfl, hb5⟩; have HB5 := Aside0.mk hb5; have k0 := bcell hb5 d0; have k1 := bcell hb5 d1; clear hb5) | (go_at_call 22; (with_reducible refine (HFR.out _ (Kd.C_below S4.out.cl HB5.out)).mono ?_); rintro e w6 ⟨rfl, hb6⟩; have HB6 := Aside0.mk (below_step HB5.out hb6); have l0 := bcell HB6.out d0; have l1 := bcell HB6.out d1; clear hb6) | fail)
      have g1 : wrap64 (2 * (d : Int)) = 2 * (d : Int) := by have := HD.out; unfold wrap64; omega
      have g2 : wrap64 (2 * (d : Int) + 1) = 2 * (d : Int) + 1 := by have := HD.out; unfold wrap64; omega
      obtain ⟨F, hF⟩ : ∃ F, F = freeN h := ⟨_, rfl⟩
      cases deep with
      | true =>
        have hno := HNO.out
        rw [fits_deep, ← hF] at hno
        rw [← hF]
        clear hF
        by_cases hf : 2 * (d : Int) + 1 ≤ (F : Int)
        · have r1 : decide (2 * (d : Int) + 1 ≤ (F : Int)) = true := decide_eq_true hf
          have r2 : decide (2 * d + 1 ≤ F) = true := decide_eq_true (by omega)
          have r3 : decide ((d : Int) < 20) = false := decide_eq_false (fun h => hno ⟨r1, by omega⟩)
          have r4 : decide (d < 20) = false := decide_eq_false (fun h => hno ⟨r1, h⟩)
          clear hf hno
          go_wp2_with fail
          go_ret
          exact ⟨rfl, below_step S4.out.b0 HB6.out⟩
        · have r1 : decide (2 * (d : Int) + 1 ≤ (F : Int)) = false := decide_eq_false hf
          have r2 : decide (2 * d + 1 ≤ F) = false := decide_eq_false (by omega)
          clear hf hno
          go_wp2_with fail
          go_ret
          exact ⟨rfl, below_step S4.out.b0 HB6.out⟩
      | false =>
        have hno := HNO.out
        rw [fits_keep, ← hF] at hno
        rw [← hF]
        clear hF
        obtain ⟨M, hM⟩ : ∃ M, M = wrap64 ((F : Int) - h.keep) := ⟨_, rfl⟩
        rw [← hM] at hno
        have hM' := hM.symm
        by_cases hf : 2 * (d : Int) + 1 ≤ M
        · have r1 : decide (2 * (d : Int) + 1 ≤ M) = true := decide_eq_true hf
          have r3 : decide ((d : Int) < 20) = false := decide_eq_false (fun h => hno ⟨r1, by omega⟩)
          have r4 : decide (d < 20) = false := decide_eq_false (fun h => hno ⟨r1, h⟩)
          clear hf hno hM
          go_wp2_with fail
          go_ret
          exact ⟨rfl, below_step S4.out.b0 HB6.out⟩
        · have r1 : decide (2 * (d : Int) + 1 ≤ M) = false := decide_eq_false hf
          clear hf hno hM
          go_wp2_with fail
          go_ret
          exact ⟨rfl, below_step S4.out.b0 HB6.out⟩
    · have HMY := Aside0.mk (show ∀ (B : Option Addr) (cb : Nat) (W : World), kCl.C W B g.c.length g.c → Calls Try.prog 12 #[.agg #[.slice B g.c.length cb, .int .i64 g.keep], .int .i64 p, .int .i64 40] W fun e w' => e = .returned (.bool true) ∧ Below W.heap.size W w' from fun B cb W hcl => may07_walk B cb g p 40 true W hcl (fp'.may7 (by omega)))
      have HHG := Aside0.mk (fun (B : Option Addr) (cb : Nat) (W : World) (hcl : kCl.C W B g.c.length g.c) => refHigh_walk 21 B cb g p d' W (by decide) hcl fp'.tr.high)
      have HFG := Aside0.mk (fun (B : Option Addr) (cb : Nat) (W : World) (hcl : kCl.C W B g.c.length g.c) => refFree_walk B cb g W hcl)
      have HYES := Aside0.mk hyes
      have HD' := Aside0.mk hd'
      have hF40 : freeN h ≤ 2000 := Nat.le_trans (List.length_filter_le _ _) fp.ok.l2
      have HGL := Aside0.mk (And.intro hgl hgk)
      have HLH := Aside0.mk (And.intro hlo (And.intro hhi hF40))
      clear fp fp' hyes hd' hlo hhi hF40 hgl hgk hp0
      (go_enter Try.func4, Try.ntmps4; go_upto_region 5 with (fail); rw [← hW1'.out]; go_upto_region 6 with (first | (go_at_call 11; (with_reducible refine (shown9_walk _).mono ?_); rintro e w1 ⟨rfl, hb1⟩; have S1 := Aside0.mk (S0.out.step hb1); have c0 := (blk_cell S1.out.hh 0).trans (show _ = some (Value.slice A h.c.length c) from rfl); have c1 := (blk_cell S1.out.hh 1).trans (show _ = some (Value.int .i64 h.keep) from rfl); clear hb1) | fail))
      go_upto_region 8 with (first | (go_at_call 18; (with_reducible refine (HFI.out _ _ (one_int _ root) (Kd.C_below S1.out.cl (by repeat (first | (with_reducible exact Below.refl _ _) | (with_reducible refine below_alloc ?_ _) | (with_reducible refine below_drew1 ?_) | (with_reducible refine pw_below_drewN ?_ _) | fail)))).mono ?_); rintro e w2 ⟨rfl, hb2⟩; have S2 := Aside0.mk (S1.out.step (below_step (below_alloc (Below.refl _ _) _) hb2)); have x0 := (blk_cell S2.out.hx 0).trans (show _ = some (Value.int .i64 x.k) from rfl); have x1 := (blk_cell S2.out.hx 1).trans (show _ = some (Value.int .i64 x.v) from rfl); have y0 := (blk_cell S2.out.hh 0).trans (show _ = some (Value.slice A h.c.length c) from rfl); have y1 := (blk_cell S2.out.hh 1).trans (show _ = some (Value.int .i64 h.keep) from rfl); clear hb2) | fail)
      go_upto_region 9 with (first | (go_at_call 13; (with_reducible refine (HPU.out _ (Kd.C_below S2.out.cl (by repeat (first | (with_reducible exact Below.refl _ _) | (with_reducible refine below_alloc ?_ _) | (with_reducible refine below_drew1 ?_) | (with_reducible refine pw_below_drewN ?_ _) | (with_reducible exact Below.refl _ _))))).mono ?_); rintro e w3 ⟨B3, c3, rfl, hc3, hr3, hb3⟩; have HR3 := Aside0.mk (And.intro hc3 hr3); have HB3 := Aside0.mk hb3; clear hc3 hr3 hb3) | fail)
      (obtain ⟨W4, hW4⟩ : ∃ W4, W4 = w3.alloc (.cells #[.slice B3 g.c.length c3, .int .i64 g.keep] 24) := ⟨_, rfl⟩; have S4 := Aside0.mk (show LwSt w W4 A c h x 1 by rw [hW4]; exact S2.out.step (below_alloc HB3.out _)); have HG4 := Aside0.mk (show W4.heap[w3.heap.size]? = some (.cells #[.slice B3 g.c.length c3, .int .i64 g.keep] 24 (0, 0)) by rw [hW4]; exact blk_new w3 _); have HR4 := Aside0.mk (show kCl.C W4 B3 g.c.length g.c by rw [hW4]; exact Kd.C_alloc HR3.out.2 _); rw [← hW4]; clear hW4; have d0 := (blk_cell S4.out.hh 0).trans (show _ = some (Value.slice A h.c.length c) from rfl); have d1 := (blk_cell S4.out.hh 1).trans (show _ = some (Value.int .i64 h.keep) from rfl))
      go_upto_region 12 with (first | (go_at_call 21; (with_reducible refine (HHI.out _ (Kd.C_below S4.out.cl (by repeat (first | (with_reducible exact Below.refl _ _) | (with_reducible refine below_alloc ?_ _) | (with_reducible refine below_drew1 ?_) | (with_reducible refine pw_below_drewN ?_ _) | (with_reducible exact Below.refl _ _))))).mono ?_); rintro e w5 ⟨rfl, hb5⟩; have HB5 := Aside0.mk hb5; have k0 := bcell hb5 d0; have k1 := bcell hb5 d1; clear hb5) | (go_at_call 22; (with_reducible refine (HFR.out _ (Kd.C_below S4.out.cl HB5.out)).mono ?_); rintro e w6 ⟨rfl, hb6⟩; have HB6 := Aside0.mk (below_step HB5.out hb6); have l0 := bcell HB6.out d0; have l1 := bcell HB6.out d1; clear hb6) | fail)
      have g1 : wrap64 (2 * (d : Int)) = 2 * (d : Int) := by have := HYES.out.2; unfold wrap64; omega
      have g2 : wrap64 (2 * (d : Int) + 1) = 2 * (d : Int) + 1 := by have := HYES.out.2; unfold wrap64; omega
      obtain ⟨F, hF⟩ : ∃ F, F = freeN h := ⟨_, rfl⟩
      obtain ⟨G, hG⟩ : ∃ G, G = freeN g := ⟨_, rfl⟩
      have e0 := bcell HB6.out ((blk_cell HG4.out 0).trans (show _ = some (Value.slice B3 g.c.length c3) from rfl))
      have e1 := bcell HB6.out ((blk_cell HG4.out 1).trans (show _ = some (Value.int .i64 g.keep) from rfl))
      have r3 : decide ((d : Int) < 20) = true := decide_eq_true (by have := HYES.out.2; omega)
      have r4 : decide (d < 20) = true := decide_eq_true HYES.out.2
      have HFF := Aside0.mk hF
      have HGG := Aside0.mk hG
      rw [← hG] at HFG
      cases deep with
      | true =>
        have hno := HYES.out.1
        rw [fits_deep, ← hF] at hno
        rw [← hF]
        clear hF
        have hf : 2 * (d : Int) + 1 ≤ (F : Int) := by simpa using hno
        have r1 : decide (2 * (d : Int) + 1 ≤ (F : Int)) = true := hno
        have r2 : decide (2 * d + 1 ≤ F) = true := decide_eq_true (by omega)
        clear hf hno hG
        go_upto_region 23 with (first | (go_at_call 12; (with_reducible refine (HMY.out _ _ _ (Kd.C_below HR4.out HB6.out)).mono ?_); rintro e w7 ⟨rfl, hb7⟩; have HB7 := Aside0.mk (below_step HB6.out hb7); have m0 := bcell hb7 e0; have m1 := bcell hb7 e1; clear hb7) | (go_at_call 22; (with_reducible refine (HFG.out _ _ _ (Kd.C_below HR4.out HB7.out)).mono ?_); rintro e w8 ⟨rfl, hb8⟩; have HB8 := Aside0.mk (below_step HB7.out hb8); have n0 := bcell hb8 m0; have n1 := bcell hb8 m1; clear hb8) | (go_at_call 21; (with_reducible refine (HHG.out _ _ _ (Kd.C_below HR4.out HB8.out)).mono ?_); rintro e w9 ⟨rfl, hb9⟩; have HB9 := Aside0.mk (below_step HB8.out hb9); clear hb9) | fail)
        have hlh := HLH.out
        rw [← HFF.out, ← HGG.out] at hlh
        have u1 : wrap64 ((F : Int) - (G : Int)) = (F : Int) - (G : Int) := by unfold wrap64; omega
        have u2 : decide ((F : Int) - (G : Int) ≤ 2 * (d : Int) + 1) = true := decide_eq_true (by omega)
        have u3 : decide (max (d : Int) 1 ≤ (F : Int) - (G : Int)) = true := decide_eq_true (by omega)
        have u4 : wrap64 ((d : Int) + 1) = (d : Int) + 1 := by have := HYES.out.2; unfold wrap64; omega
        have HX := Aside0.mk hlh
        clear hlh
        rcases HD'.out with h5 | h5
        · have u5 : ((d' : Int) == (d : Int)) = true := beq_iff_eq.mpr (by omega)
          have u6 : (d' == d) = true := beq_iff_eq.mpr h5
          clear h5
          go_wp2_with fail
          all_goals first | (exfalso; have := HX.out; omega) | (go_ret; exact ⟨rfl, below_step S4.out.b0 HB9.out⟩)
        · have u5 : ((d' : Int) == (d : Int)) = false := beq_eq_false_iff_ne.mpr (by omega)
          have u6 : (d' == d) = false := beq_eq_false_iff_ne.mpr (by omega)
          have u7 : ((d' : Int) == (d : Int) + 1) = true := beq_iff_eq.mpr (by omega)
          have u8 : (d' == d + 1) = true := beq_iff_eq.mpr h5
          clear h5
          go_wp2_with fail
          all_goals first | (exfalso; have := HX.out; omega) | (go_ret; exact ⟨rfl, below_step S4.out.b0 HB9.out⟩)
      | false =>
        have hno := HYES.out.1
        rw [fits_keep, ← hF] at hno
        rw [← hF]
        clear hF
        obtain ⟨M, hM⟩ : ∃ M, M = wrap64 ((F : Int) - h.keep) := ⟨_, rfl⟩
        rw [← hM] at hno
        have hM' := hM.symm
        have r1 : decide (2 * (d : Int) + 1 ≤ M) = true := hno
        clear hno hG hM
        go_upto_region 23 with (first | (go_at_call 12; (with_reducible refine (HMY.out _ _ _ (Kd.C_below HR4.out HB6.out)).mono ?_); rintro e w7 ⟨rfl, hb7⟩; have HB7 := Aside0.mk (below_step HB6.out hb7); have m0 := bcell hb7 e0; have m1 := bcell hb7 e1; clear hb7) | (go_at_call 22; (with_reducible refine (HFG.out _ _ _ (Kd.C_below HR4.out HB7.out)).mono ?_); rintro e w8 ⟨rfl, hb8⟩; have HB8 := Aside0.mk (below_step HB7.out hb8); have n0 := bcell hb8 m0; have n1 := bcell hb8 m1; clear hb8) | (go_at_call 21; (with_reducible refine (HHG.out _ _ _ (Kd.C_below HR4.out HB8.out)).mono ?_); rintro e w9 ⟨rfl, hb9⟩; have HB9 := Aside0.mk (below_step HB8.out hb9); clear hb9) | fail)
        clear r1 hM'
        have hlh := HLH.out
        rw [← HFF.out, ← HGG.out] at hlh
        have u1 : wrap64 ((F : Int) - (G : Int)) = (F : Int) - (G : Int) := by unfold wrap64; omega
        have u2 : decide ((F : Int) - (G : Int) ≤ 2 * (d : Int) + 1) = true := decide_eq_true (by omega)
        have u3 : decide (max (d : Int) 1 ≤ (F : Int) - (G : Int)) = true := decide_eq_true (by omega)
        have u4 : wrap64 ((d : Int) + 1) = (d : Int) + 1 := by have := HYES.out.2; unfold wrap64; omega
        have HX := Aside0.mk hlh
        clear hlh
        rcases HD'.out with h5 | h5
        · have u5 : ((d' : Int) == (d : Int)) = true := beq_iff_eq.mpr (by omega)
          have u6 : (d' == d) = true := beq_iff_eq.mpr h5
          clear h5
          go_wp2_with fail
          all_goals first | (exfalso; have := HX.out; omega) | (go_ret; exact ⟨rfl, below_step S4.out.b0 HB9.out⟩)
        · have u5 : ((d' : Int) == (d : Int)) = false := beq_eq_false_iff_ne.mpr (by omega)
          have u6 : (d' == d) = false := beq_eq_false_iff_ne.mpr (by omega)
          have u7 : ((d' : Int) == (d : Int) + 1) = true := beq_iff_eq.mpr (by omega)
          have u8 : (d' == d + 1) = true := beq_iff_eq.mpr h5
          clear h5
          go_wp2_with fail
          all_goals first | (exfalso; have := HX.out; omega) | (go_ret; exact ⟨rfl, below_step S4.out.b0 HB9.out⟩)
end Go.Proofs.Ytopkoganfnabgaa.H
namespace Go.Proofs.Ytopkoganfnabgaa.H
open Go.RowKit Go.Proofs.YtopkoganfnabgaaW.PrintWords Go.Proofs.YtopkoganfnabgaaW.PrintLast Go.Proofs.YtopkoganfnabgaaW.PrintMore
attribute [local go_sem] max2_int min2_int max_two min_two max_three min_three max_four min_four
set_option linter.unusedVariables false
set_option linter.unusedSimpArgs false
/-- What a value of type t reads as, as a Lean datum of the kind d. -/
def Rd {α : Type} (P : Program) (t : TypeId) (d : Kd α) (I : α → Prop) : Prop :=
  ∀ (H : Type) (enc : TypeId × Value → H) (w : World) (base : Nat) (spare : Nat → Bool) (held : Bool) (fuel : Nat) (cs : List Value) (x : DataW H × List MemPlace), DataW.trod enc P w base spare held fuel t cs = some x → ∃ a, d.K w a cs ∧ I a
theorem rd_choose {α : Type} (n : Nat) (Q : Nat → α → Prop) (h : ∀ i, i < n → ∃ a, Q i a) : ∃ l : List α, l.length = n ∧ ∀ i a, l[i]? = some a → Q i a := by
  induction n with
  | zero => exact ⟨[], rfl, fun i a e => by simp at e⟩
  | succ n ih =>
    obtain ⟨l, hl, hq⟩ := ih (fun i hi => h i (by omega))
    obtain ⟨a, ha⟩ := h n (by omega)
    refine ⟨l ++ [a], by simp [hl], fun i b e => ?_⟩
    by_cases hi : i < l.length
    · rw [List.getElem?_append_left hi] at e; exact hq i b e
    · rw [List.getElem?_append_right (by omega)] at e
      have : i - l.length = 0 := by
        rcases Nat.eq_zero_or_pos (i - l.length) with h | h
        · exact h
        · rw [List.getElem?_eq_none (by simp; omega)] at e; cases e
      rw [this] at e
      have hin : i = n := by omega
      subst hin
      simp at e
      rw [← e]; exact ha
theorem mapM_get {α β : Type} (f : α → Option β) : ∀ (l : List α) (cs : List β), l.mapM f = some cs → ∀ (i : Nat) (a : α), l[i]? = some a → f a = cs[i]?
  | [], cs, h, i, a, e => by simp at e
  | x :: l, cs, h, i, a, e => by
    rw [List.mapM_cons] at h
    simp only [Option.bind_eq_bind, Option.bind_eq_some_iff, Option.pure_def, Option.some.injEq] at h
    obtain ⟨b, hb, bs, hbs, rfl⟩ := h
    cases i with
    | zero => simp at e; subst e; simpa using hb
    | succ i => simpa using mapM_get f l bs hbs i a (by simpa using e)
theorem cells_get {w : World} {base n : Nat} {a : Addr} {cs : List Value} (h : w.cells? base a n = some cs) : cs.length = n ∧ ∀ i, i < n → w.cell? (a.add i) = cs[i]? := by
  unfold World.cells? at h
  split at h
  · have h2 := mapM_get _ _ _ h
    refine ⟨?_, fun i hi => h2 i i (by simp [hi])⟩
    have e := congrArg (Option.map List.length) h
    have : ∀ (l : List Nat) (bs : List Value), (l.mapM fun i => w.cell? (a.add i)) = some bs → bs.length = l.length := by
      intro l
      induction l with
      | nil => intro bs hb; simp at hb; subst hb; rfl
      | cons y l ih =>
        intro bs hb
        rw [List.mapM_cons] at hb
        simp only [Option.bind_eq_bind, Option.bind_eq_some_iff, Option.pure_def, Option.some.injEq] at hb
        obtain ⟨b, _, bs', hbs, rfl⟩ := hb
        simp [ih bs' hbs]
    simpa using this _ _ h
  · cases h
theorem rd_slice {α : Type} {P : Program} {t e : TypeId} {d : Kd α} {I : α → Prop} (ht : P.underlying t = some (.slice e)) (hc : P.cellsOf e = d.sz) (he : Rd P e d I) : Rd P t (Kd.slice e d) (fun xs => ∀ x ∈ xs, I x) := by
  intro H enc w base spare held fuel cs x h
  rcases DataW.trod_slice ht h with ⟨rfl, _⟩ | ⟨a, len, cap, elems, rest, n, _, rfl, _, _, hl, hm, hlen, hel, _, _⟩
  · exact ⟨[], ⟨none, 0, rfl, Nat.le_refl _, rfl, by simp, fun h => absurd h (by simp)⟩, fun _ hx => absurd hx (by simp)⟩
  · obtain ⟨xs, hxl, hxs⟩ := rd_choose len (fun i y => (∃ c, c.length = d.sz ∧ d.K w y c ∧ ∀ j u, c[j]? = some u → w.cell? (a.add (i * d.sz + j)) = some u) ∧ I y) (fun i hi => by
      have h1 := hel i hi
      rw [List.getElem?_eq_getElem (by omega), Option.bind_eq_some_iff, hc] at h1
      obtain ⟨c, h2, h3⟩ := h1
      obtain ⟨y, hk, hI⟩ := he H enc w base spare held n c _ h3
      obtain ⟨c1, c2⟩ := cells_get h2
      refine ⟨y, ⟨c, c1, hk, fun j u hu => ?_⟩, hI⟩
      have hj : j < c.length := (List.getElem?_eq_some_iff.1 hu).1
      have := c2 j (by omega)
      rw [hu] at this
      rw [← this, Addr.add_add])
    refine ⟨xs, ⟨some a, cap, by rw [hxl], by omega, rfl, by unfold maxLen at hm; omega, fun _ => ⟨a, rfl, fun j p hp => (hxs j p hp).1⟩⟩, fun x hx => ?_⟩
    obtain ⟨i, hi, rfl⟩ := List.getElem_of_mem hx
    exact (hxs i _ (List.getElem?_eq_getElem hi)).2
theorem cons_of {α : Type} {l : List α} {n : Nat} (h : l.length = n + 1) : ∃ a t, l = a :: t ∧ t.length = n := by
  cases l with
  | nil => simp at h
  | cons a t => exact ⟨a, t, rfl, by simpa using h⟩
theorem field {H : Type} {enc : TypeId × Value → H} {P : Program} {w : World} {base : Nat} {spare : Nat → Bool} {held : Bool} {n : Nat} {t : TypeId} {cs : List Value} {xs : List (DataW H × List MemPlace)} {j : Nat}
    (h : DataW.trod enc P w base spare held n t cs = xs[j]?) (hj : j < xs.length) : DataW.trod enc P w base spare held n t cs = some xs[j] := by rw [h, List.getElem?_eq_getElem hj]
def kHp : Kd Hp := (Kd.pair (Kd.slice 79 kCl) (Kd.int .i64)).iso (fun h => (h.c, h.keep))
theorem rd_item : Rd Try.prog 26 kIt (fun _ => True) := by
  intro H enc w base spare held fuel cs x h
  obtain ⟨xs, n, rfl, rfl, hl, hx, hf⟩ := DataW.trod_struct Try.underlying26 h
  rw [show Try.prog.cellsOf 26 = 2 by kernel_rfl] at hl
  have hxl : xs.length = 2 := hx
  obtain ⟨z0, y0, rfl, hl0⟩ := cons_of hl
  obtain ⟨z1, y1, rfl, hl1⟩ := cons_of hl0
  obtain rfl := List.eq_nil_of_length_eq_zero hl1
  have g0 : DataW.trod enc Try.prog w base spare held n 3 (([z0, z1].drop 0).take (Try.prog.cellsOf 3)) = some xs[0] := field (hf 0 _ rfl) (by omega)
  rw [show Try.prog.cellsOf 3 = 1 by kernel_rfl] at g0
  replace g0 : DataW.trod enc Try.prog w base spare held n 3 [z0] = some xs[0] := g0
  have g1 : DataW.trod enc Try.prog w base spare held n 3 (([z0, z1].drop 1).take (Try.prog.cellsOf 3)) = some xs[1] := field (hf 1 _ rfl) (by omega)
  rw [show Try.prog.cellsOf 3 = 1 by kernel_rfl] at g1
  replace g1 : DataW.trod enc Try.prog w base spare held n 3 [z1] = some xs[1] := g1
  obtain ⟨a, e0, _, i0⟩ := DataW.trod_int Try.underlying3 g0
  obtain rfl := (List.cons.inj e0).1
  obtain ⟨b, e1, _, i1⟩ := DataW.trod_int Try.underlying3 g1
  obtain rfl := (List.cons.inj e1).1
  exact ⟨⟨a, b⟩, ⟨[.int .i64 a], [.int .i64 b], rfl, rfl, rfl⟩, trivial⟩
theorem rd_items : Rd Try.prog 27 (Kd.slice 26 kIt) (fun xs => ∀ x ∈ xs, True) := rd_slice Try.underlying27 (by kernel_rfl) rd_item
theorem rd_node : Rd Try.prog 77 kNd (fun _ => True) := by
  intro H enc w base spare held fuel cs x h
  obtain ⟨xs, n, rfl, rfl, hl, hx, hf⟩ := DataW.trod_struct Try.underlying77 h
  rw [show Try.prog.cellsOf 77 = 2 by kernel_rfl] at hl
  have hxl : xs.length = 2 := hx
  obtain ⟨z0, y0, rfl, hl0⟩ := cons_of hl
  obtain ⟨z1, y1, rfl, hl1⟩ := cons_of hl0
  obtain rfl := List.eq_nil_of_length_eq_zero hl1
  have g0 : DataW.trod enc Try.prog w base spare held n 4 (([z0, z1].drop 0).take (Try.prog.cellsOf 4)) = some xs[0] := field (hf 0 _ rfl) (by omega)
  rw [show Try.prog.cellsOf 4 = 1 by kernel_rfl] at g0
  replace g0 : DataW.trod enc Try.prog w base spare held n 4 [z0] = some xs[0] := g0
  have g1 : DataW.trod enc Try.prog w base spare held n 27 (([z0, z1].drop 1).take (Try.prog.cellsOf 27)) = some xs[1] := field (hf 1 _ rfl) (by omega)
  rw [show Try.prog.cellsOf 27 = 1 by kernel_rfl] at g1
  replace g1 : DataW.trod enc Try.prog w base spare held n 27 [z1] = some xs[1] := g1
  obtain ⟨a, e0, _⟩ := DataW.trod_bool Try.underlying4 g0
  obtain rfl := (List.cons.inj e0).1
  obtain ⟨l, k1, _⟩ := rd_items H enc w base spare held n _ _ g1
  exact ⟨⟨a, l⟩, ⟨[.bool a], [z1], rfl, rfl, k1⟩, trivial⟩
theorem rd_cell : Rd Try.prog 79 kCl (fun _ => True) := by
  intro H enc w base spare held fuel cs x h
  obtain ⟨xs, n, rfl, rfl, hl, hx, hf⟩ := DataW.trod_struct Try.underlying79 h
  rw [show Try.prog.cellsOf 79 = 4 by kernel_rfl] at hl
  have hxl : xs.length = 3 := hx
  obtain ⟨z0, y0, rfl, hl0⟩ := cons_of hl
  obtain ⟨z1, y1, rfl, hl1⟩ := cons_of hl0
  obtain ⟨z2, y2, rfl, hl2⟩ := cons_of hl1
  obtain ⟨z3, y3, rfl, hl3⟩ := cons_of hl2
  obtain rfl := List.eq_nil_of_length_eq_zero hl3
  have g0 : DataW.trod enc Try.prog w base spare held n 3 (([z0, z1, z2, z3].drop 0).take (Try.prog.cellsOf 3)) = some xs[0] := field (hf 0 _ rfl) (by omega)
  rw [show Try.prog.cellsOf 3 = 1 by kernel_rfl] at g0
  replace g0 : DataW.trod enc Try.prog w base spare held n 3 [z0] = some xs[0] := g0
  have g1 : DataW.trod enc Try.prog w base spare held n 4 (([z0, z1, z2, z3].drop 1).take (Try.prog.cellsOf 4)) = some xs[1] := field (hf 1 _ rfl) (by omega)
  rw [show Try.prog.cellsOf 4 = 1 by kernel_rfl] at g1
  replace g1 : DataW.trod enc Try.prog w base spare held n 4 [z1] = some xs[1] := g1
  have g2 : DataW.trod enc Try.prog w base spare held n 77 (([z0, z1, z2, z3].drop 2).take (Try.prog.cellsOf 77)) = some xs[2] := field (hf 2 _ rfl) (by omega)
  rw [show Try.prog.cellsOf 77 = 2 by kernel_rfl] at g2
  replace g2 : DataW.trod enc Try.prog w base spare held n 77 [z2, z3] = some xs[2] := g2
  obtain ⟨a, e0, _, i0⟩ := DataW.trod_int Try.underlying3 g0
  obtain rfl := (List.cons.inj e0).1
  obtain ⟨b, e1, _⟩ := DataW.trod_bool Try.underlying4 g1
  obtain rfl := (List.cons.inj e1).1
  obtain ⟨n', k2, _⟩ := rd_node H enc w base spare held n _ _ g2
  exact ⟨⟨a, b, n'⟩, ⟨[.int .i64 a], [.bool b, z2, z3], rfl, rfl, [.bool b], [z2, z3], rfl, rfl, k2⟩, trivial⟩
theorem rd_cells : Rd Try.prog 22 (Kd.slice 79 kCl) (fun xs => ∀ x ∈ xs, True) := rd_slice Try.underlying22 (by kernel_rfl) rd_cell
theorem rd_heap : Rd Try.prog 24 kHp (fun _ => True) := by
  intro H enc w base spare held fuel cs x h
  obtain ⟨xs, n, rfl, rfl, hl, hx, hf⟩ := DataW.trod_struct Try.underlying24 h
  rw [show Try.prog.cellsOf 24 = 2 by kernel_rfl] at hl
  have hxl : xs.length = 2 := hx
  obtain ⟨z0, y0, rfl, hl0⟩ := cons_of hl
  obtain ⟨z1, y1, rfl, hl1⟩ := cons_of hl0
  obtain rfl := List.eq_nil_of_length_eq_zero hl1
  have g0 : DataW.trod enc Try.prog w base spare held n 22 (([z0, z1].drop 0).take (Try.prog.cellsOf 22)) = some xs[0] := field (hf 0 _ rfl) (by omega)
  rw [show Try.prog.cellsOf 22 = 1 by kernel_rfl] at g0
  replace g0 : DataW.trod enc Try.prog w base spare held n 22 [z0] = some xs[0] := g0
  have g1 : DataW.trod enc Try.prog w base spare held n 3 (([z0, z1].drop 1).take (Try.prog.cellsOf 3)) = some xs[1] := field (hf 1 _ rfl) (by omega)
  rw [show Try.prog.cellsOf 3 = 1 by kernel_rfl] at g1
  replace g1 : DataW.trod enc Try.prog w base spare held n 3 [z1] = some xs[1] := g1
  obtain ⟨l, k0, _⟩ := rd_cells H enc w base spare held n _ _ g0
  obtain ⟨a, e1, _, i1⟩ := DataW.trod_int Try.underlying3 g1
  obtain rfl := (List.cons.inj e1).1
  exact ⟨⟨l, a⟩, ⟨[z0], [.int .i64 a], rfl, k0, rfl⟩, trivial⟩
theorem rd_hp {H : Type} {enc : TypeId × Value → H} {w : World} {base : Nat} {spare : Nat → Bool} {held : Bool} {fuel : Nat} {cs : List Value} {x : DataW H × List MemPlace} (h : DataW.trod enc Try.prog w base spare held fuel 24 cs = some x) : ∃ (A : Option Addr) (c : Nat) (g : Hp), cs = [.slice A g.c.length c, .int .i64 g.keep] ∧ g.c.length ≤ c ∧ kCl.C w A g.c.length g.c := by
  obtain ⟨g, ⟨c0, c1, rfl, ⟨A, c, rfl, h1, h2⟩, rfl⟩, _⟩ := rd_heap H enc w base spare held fuel cs x h
  exact ⟨A, c, g, rfl, h1, h2⟩
theorem rd_it {H : Type} {enc : TypeId × Value → H} {w : World} {base : Nat} {spare : Nat → Bool} {held : Bool} {fuel : Nat} {cs : List Value} {x : DataW H × List MemPlace} (h : DataW.trod enc Try.prog w base spare held fuel 26 cs = some x) : ∃ y : It, cs = [.int .i64 y.k, .int .i64 y.v] := by
  obtain ⟨y, ⟨c0, c1, rfl, rfl, rfl⟩, _⟩ := rd_item H enc w base spare held fuel cs x h
  exact ⟨y, rfl⟩
theorem rd_room {H : Type} {enc : TypeId × Value → H} {w : World} {base : Nat} {spare : Nat → Bool} {held : Bool} {fuel : Nat} {cs : List Value} {x : DataW H × List MemPlace} (h : DataW.trod enc Try.prog w base spare held fuel 46 cs = some x) : ∃ (A : Option Addr) (c : Nat) (g : Hp) (r : Int) (y : It) (d : Bool), cs = [.slice A g.c.length c, .int .i64 g.keep, .int .i64 r, .int .i64 y.k, .int .i64 y.v, .bool d] ∧ g.c.length ≤ c ∧ kCl.C w A g.c.length g.c := by
  obtain ⟨xs, n, rfl, rfl, hl, hx, hf⟩ := DataW.trod_struct Try.underlying46 h
  rw [show Try.prog.cellsOf 46 = 6 by kernel_rfl] at hl
  have hxl : xs.length = 4 := hx
  obtain ⟨z0, y0, rfl, hl0⟩ := cons_of hl
  obtain ⟨z1, y1, rfl, hl1⟩ := cons_of hl0
  obtain ⟨z2, y2, rfl, hl2⟩ := cons_of hl1
  obtain ⟨z3, y3, rfl, hl3⟩ := cons_of hl2
  obtain ⟨z4, y4, rfl, hl4⟩ := cons_of hl3
  obtain ⟨z5, y5, rfl, hl5⟩ := cons_of hl4
  obtain rfl := List.eq_nil_of_length_eq_zero hl5
  have g0 : DataW.trod enc Try.prog w base spare held n 24 (([z0, z1, z2, z3, z4, z5].drop 0).take (Try.prog.cellsOf 24)) = some xs[0] := field (hf 0 _ rfl) (by omega)
  rw [show Try.prog.cellsOf 24 = 2 by kernel_rfl] at g0
  replace g0 : DataW.trod enc Try.prog w base spare held n 24 [z0, z1] = some xs[0] := g0
  have g1 : DataW.trod enc Try.prog w base spare held n 3 (([z0, z1, z2, z3, z4, z5].drop 2).take (Try.prog.cellsOf 3)) = some xs[1] := field (hf 1 _ rfl) (by omega)
  rw [show Try.prog.cellsOf 3 = 1 by kernel_rfl] at g1
  replace g1 : DataW.trod enc Try.prog w base spare held n 3 [z2] = some xs[1] := g1
  have g2 : DataW.trod enc Try.prog w base spare held n 26 (([z0, z1, z2, z3, z4, z5].drop 3).take (Try.prog.cellsOf 26)) = some xs[2] := field (hf 2 _ rfl) (by omega)
  rw [show Try.prog.cellsOf 26 = 2 by kernel_rfl] at g2
  replace g2 : DataW.trod enc Try.prog w base spare held n 26 [z3, z4] = some xs[2] := g2
  have g3 : DataW.trod enc Try.prog w base spare held n 4 (([z0, z1, z2, z3, z4, z5].drop 5).take (Try.prog.cellsOf 4)) = some xs[3] := field (hf 3 _ rfl) (by omega)
  rw [show Try.prog.cellsOf 4 = 1 by kernel_rfl] at g3
  replace g3 : DataW.trod enc Try.prog w base spare held n 4 [z5] = some xs[3] := g3
  obtain ⟨A, c, g, e0, hc, hr⟩ := rd_hp g0
  simp only [List.cons.injEq, and_true] at e0
  obtain ⟨rfl, rfl⟩ := e0
  obtain ⟨r, e1, _, i1⟩ := DataW.trod_int Try.underlying3 g1
  obtain rfl := (List.cons.inj e1).1
  obtain ⟨y, e2⟩ := rd_it g2
  simp only [List.cons.injEq, and_true] at e2
  obtain ⟨rfl, rfl⟩ := e2
  obtain ⟨d, e3, _⟩ := DataW.trod_bool Try.underlying4 g3
  obtain rfl := (List.cons.inj e3).1
  exact ⟨A, c, g, r, y, d, rfl, hc, hr⟩
end Go.Proofs.Ytopkoganfnabgaa.H
