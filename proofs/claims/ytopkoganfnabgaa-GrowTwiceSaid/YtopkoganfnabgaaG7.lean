import Derived.Test.YtopkoganfnabgaaG6
import Derived.Test.YtopkoganfnabgaaG4
import Derived.Test.YtopkoganfnabgaaG3
import Derived.ChangeArms
import Derived.OpenShut
namespace Go.Proofs.Ytopkoganfnabgaa.H
def Hts (h : Hp) : Prop := ∀ q, usedB h q = true → ∃ d l, d ≤ 20 ∧ T h d q l
/-- A root's tree, or none. -/
def Rt (h : Hp) (root : Int) (d : Nat) (l : List It) : Prop := (root = -1 ∧ d = 0 ∧ l = []) ∨ (d ≤ 20 ∧ T h d root l)
def one (p q : Int) : Int := if q = p then 1 else 0
theorem one_nonneg (p q : Int) : 0 ≤ one p q := by unfold one; split <;> omega
theorem one_self (p : Int) : one p p = 1 := by unfold one; rw [if_pos rfl]
theorem cntI_one (p q : Int) : ((cntI [p] q : Nat) : Int) = one p q := by
  unfold cntI one
  rw [List.filter_cons]
  by_cases e : p = q
  · rw [if_pos (decide_eq_true e), if_pos e.symm]; rfl
  · rw [if_neg (by simpa using e), if_neg (fun h => e h.symm)]; rfl
theorem Ct.congr {h : Hp} {R S : Int → Int} (c : Ct h R) (e : ∀ q, inB h q = true → R q = S q) : Ct h S := fun q hq => by rw [c q hq, e q hq]
/-- What a tree's node tells is a tree, lower by one. -/
theorem T.child {h : Hp} {d : Nat} {p q : Int} {l : List It} (t : T h d p l) (e : 0 < tl (clAt h p).n q) : ∃ d' l', d = d' + 1 ∧ T h d' q l' := by
  unfold tl at e
  split at e
  · omega
  · rename_i hl
    obtain ⟨d', ed, ls, rfl, f⟩ := t.inner (by simpa using hl)
    have : ¬ cntV (clAt h p).n.it q = 0 := by omega
    rw [cntV_zero] at this
    have : ∃ x ∈ (clAt h p).n.it, x.v = q := Classical.byContradiction fun hn => this fun x hx hxq => hn ⟨x, hx, hxq⟩
    obtain ⟨x, hx, rfl⟩ := this
    obtain ⟨li, _, _, t'⟩ := f.mem_l hx
    exact ⟨d', li, ed, t'⟩
theorem tells_tot {h : Hp} {B : Int} (o : Ok h B) {p : Int} (hp : inB h p = true) (q : Int) : tl (clAt h p).n q ≤ tot h q := by
  obtain ⟨k, rfl, hk⟩ := inB_nat' hp
  rw [tot_tl o]
  exact sumN_pos (f := fun i : Nat => tl (clAt h (i : Int)).n q) hk
/-- A tree lives where what is used still is as it was, and everything adds up. -/
theorem T.keep {g g' : Hp} {B : Int} {R : Int → Int} (o : Ok g' B) (c : Ct g' R) (R0 : ∀ q, 0 ≤ R q) (x : Le g g') : ∀ {d : Nat} {p : Int} {l : List It}, T g d p l → usedB g' p = true → T g' d p l
  | 0, _, _, t, _ => t.elim
  | d + 1, p, l, ⟨u, g1, e⟩, u' => by
    have en := (x.use p u').2
    have hp := (used_iff.mp u').1
    refine ⟨u', g1, ?_⟩
    rw [en]
    rcases e with e | ⟨e1, ls, e2, e3⟩
    · exact .inl e
    · refine .inr ⟨e1, ls, e2, e3.imp fun a b ha _ r => ⟨r.1, T.keep o c R0 x r.2 ?_⟩⟩
      have hin : inB g' a.v = true := by rw [inB_len x.len]; exact (used_iff.mp r.2.used).1
      have h1 := tells_tot o hp a.v
      have h2 : 0 < tl (clAt g' p).n a.v := by
        rw [en]
        unfold tl
        rw [e1, if_neg (by simp)]
        exact Nat.pos_of_ne_zero fun hz => cntV_zero.mp hz a ha rfl
      have h3 := c a.v hin
      have := R0 a.v
      exact used_iff.mpr ⟨hin, by omega⟩
theorem sound_in {h : Hp} {B : Int} {root : Int} {d : Nat} {l : List It} (o : Ok h B) (s : soundB h [root] = true) (t : Rt h root d l) : Ct h (one root) ∧ Hts h := by
  unfold soundB at s
  rw [List.all_eq_true] at s
  have hs : ∀ q : Nat, q < h.c.length → (clAt h (q : Int)).ref = one root (q : Int) + (tot h (q : Int) : Int) ∧ (heldB h [root] 25 q = true ↔ 0 < (clAt h (q : Int)).ref) := by
    intro q hq
    have := s q (List.mem_range.mpr hq)
    unfold soundAt at this
    simp only [Bool.and_eq_true, decide_eq_true_eq, beq_iff_eq, ← clAt_nat'] at this
    refine ⟨?_, by rw [this.2]; simp⟩
    rw [this.1]
    unfold refsN tot
    rw [Int.natCast_add, cntI_one]
  refine ⟨fun q hq => ?_, fun q hu => ?_⟩
  · obtain ⟨k, rfl, hk⟩ := inB_nat' hq; exact (hs k hk).1
  · have key : ∀ (k : Nat) (q : Nat), q < h.c.length → heldB h [root] k q = true → ∃ d l, d ≤ 20 ∧ T h d (q : Int) l := by
      intro k
      induction k with
      | zero =>
        intro q hq hh
        have h0 : 0 < cntI [root] (q : Int) := by unfold heldB at hh; simpa using hh
        have h1 := cntI_one root (q : Int)
        unfold one at h1
        split at h1
        · rename_i e
          rcases t with ⟨t, _⟩ | ⟨t1, t2⟩
          · omega
          · rw [e]; exact ⟨d, l, t1, t2⟩
        · omega
      | succ k ih =>
        intro q hq hh
        unfold heldB at hh
        rw [Bool.or_eq_true, List.any_eq_true] at hh
        rcases hh with hh | ⟨p, hp, hh⟩
        · exact ih q hq hh
        · rw [List.mem_range] at hp
          simp only [Bool.and_eq_true, decide_eq_true_eq] at hh
          obtain ⟨d, l, hd, t⟩ := ih p hp hh.1
          rw [tellsN_tl o hp] at hh
          obtain ⟨d', l', e, t'⟩ := t.child hh.2
          exact ⟨d', l', by omega, t'⟩
    obtain ⟨k, rfl, hk⟩ := inB_nat' (used_iff.mp hu).1
    exact key 25 k hk ((hs k hk).2.mpr (used_iff.mp hu).2)
theorem heldB_mono (h : Hp) (roots : List Int) (q : Nat) : ∀ (m n : Nat), heldB h roots n q = true → heldB h roots (n + m) q = true
  | 0, _, e => e
  | m + 1, n, e => by
    show heldB h roots (n + m + 1) q = true
    unfold heldB
    rw [heldB_mono h roots q m n e]; rfl
theorem sound_out {g : Hp} {B : Int} {p : Int} (o : Ok g B) (c : Ct g (one p)) (ht : Hts g) : soundB g [p] = true := by
  have hup : ∀ (k : Nat) (q : Nat), q < g.c.length → heldB g [p] k q = true → usedB g (q : Int) = true := by
    intro k
    induction k with
    | zero =>
      intro q hq hh
      have h0 : 0 < cntI [p] (q : Int) := by unfold heldB at hh; simpa using hh
      have h1 := cntI_one p (q : Int)
      have hin : inB g (q : Int) = true := inB_iff.mpr (by omega)
      have := c _ hin
      exact used_iff.mpr ⟨hin, by omega⟩
    | succ k ih =>
      intro q hq hh
      unfold heldB at hh
      rw [Bool.or_eq_true, List.any_eq_true] at hh
      rcases hh with hh | ⟨r, hr, hh⟩
      · exact ih q hq hh
      · rw [List.mem_range] at hr
        simp only [Bool.and_eq_true, decide_eq_true_eq] at hh
        rw [tellsN_tl o hr] at hh
        have hin : inB g (q : Int) = true := inB_iff.mpr (by omega)
        have := c _ hin
        have := tells_tot o (inB_iff.mpr (by omega : 0 ≤ (r : Int) ∧ (r : Int) < g.c.length)) (q : Int)
        have := one_nonneg p (q : Int)
        exact used_iff.mpr ⟨hin, by omega⟩
  have hdown : ∀ (n : Nat) (q : Nat) (d : Nat) (l : List It), T g d (q : Int) l → d ≤ 20 → 20 ≤ d + n → heldB g [p] n q = true := by
    intro n
    induction n with
    | zero =>
      intro q d l t hd hn
      obtain ⟨hin, hr⟩ := used_iff.mp t.used
      have h1 := c _ hin
      have h2 := cntI_one p (q : Int)
      by_cases h0 : 0 < one p (q : Int)
      · unfold heldB; exact decide_eq_true (by omega)
      · have hz : 0 < tot g (q : Int) := by omega
        rw [tot_tl o] at hz
        obtain ⟨i, hi, e⟩ := sumN_ex hz
        have hui : usedB g (i : Int) = true := by
          refine used_iff.mpr ⟨inB_iff.mpr (by omega), ?_⟩
          have := o.pos (i : Int) (inB_iff.mpr (by omega))
          refine Classical.byContradiction fun hn => ?_
          have hz := o.zero (i : Int) (inB_iff.mpr (by omega)) (by omega)
          simp only [hz] at e
          exact absurd e (by simp [tl, zNd, cntV])
        obtain ⟨d', l', hd', t'⟩ := ht _ hui
        obtain ⟨d2, l2, e2, t2⟩ := t'.child e
        have := (t2.uniq t).1
        omega
    | succ n ih =>
      intro q d l t hd hn
      obtain ⟨hin, hr⟩ := used_iff.mp t.used
      have h1 := c _ hin
      have h2 := cntI_one p (q : Int)
      by_cases h0 : 0 < one p (q : Int)
      · have : heldB g [p] 0 q = true := by unfold heldB; exact decide_eq_true (by omega)
        have := heldB_mono g [p] q (n + 1) 0 this
        rwa [Nat.zero_add] at this
      · have hz : 0 < tot g (q : Int) := by omega
        rw [tot_tl o] at hz
        obtain ⟨i, hi, e⟩ := sumN_ex hz
        have hui : usedB g (i : Int) = true := by
          refine used_iff.mpr ⟨inB_iff.mpr (by omega), ?_⟩
          have := o.pos (i : Int) (inB_iff.mpr (by omega))
          refine Classical.byContradiction fun hn => ?_
          have hz := o.zero (i : Int) (inB_iff.mpr (by omega)) (by omega)
          simp only [hz] at e
          exact absurd e (by simp [tl, zNd, cntV])
        obtain ⟨d', l', hd', t'⟩ := ht _ hui
        obtain ⟨d2, l2, e2, t2⟩ := t'.child e
        have := (t2.uniq t).1
        unfold heldB
        rw [Bool.or_eq_true, List.any_eq_true]
        refine .inr ⟨i, List.mem_range.mpr hi, ?_⟩
        rw [ih i d' l' t' hd' (by omega), Bool.true_and, tellsN_tl o hi]
        exact decide_eq_true e
  unfold soundB
  rw [List.all_eq_true]
  intro q hq
  rw [List.mem_range] at hq
  have hin : inB g (q : Int) = true := inB_iff.mpr (by omega)
  unfold soundAt
  simp only [Bool.and_eq_true, decide_eq_true_eq, beq_iff_eq, ← clAt_nat']
  refine ⟨?_, ?_⟩
  · rw [c _ hin, ← cntI_one]; unfold refsN tot; rw [Int.natCast_add]
  · by_cases hr : 0 < (clAt g (q : Int)).ref
    · rw [decide_eq_true hr]
      obtain ⟨d, l, hd, t⟩ := ht _ (used_iff.mpr ⟨hin, hr⟩)
      have := hdown 20 q d l t hd (by omega)
      exact heldB_mono g [p] q 5 20 this
    · rw [decide_eq_false hr, ← Bool.not_eq_true]
      exact fun h => hr (used_iff.mp (hup 25 q hq h)).2
/-- Where everything adds up Refs are small. -/
theorem ct_small {g : Hp} {B : Int} {p : Int} (o : Ok g B) (c : Ct g (one p)) {q : Int} (hq : inB g q = true) : (clAt g q).ref ≤ 8001 := by
  have h1 := c q hq
  have h2 : tot g q ≤ g.c.length * 4 := by
    rw [tot_tl o, ← sumN_const 4]
    refine sumN_mono fun i hi => ?_
    have hin : inB g (i : Int) = true := inB_iff.mpr (by omega)
    by_cases hr : 0 < (clAt g (i : Int)).ref
    · have := (nodeRight_iff.mp (o.right _ (used_iff.mpr ⟨hin, hr⟩))).1
      unfold tl
      split
      · omega
      · have := cntV_le (clAt g (i : Int)).n.it q; omega
    · have := o.pos _ hin
      rw [o.zero _ hin (by omega)]
      simp [tl, zNd, cntV]
  have h3 : one p q ≤ 1 := by unfold one; split <;> omega
  have := o.l2
  omega
theorem fitsH_free {h : Hp} {B : Int} {n : Int} {deep : Bool} (o : Ok h B) (e : fitsH h n deep = true) : n ≤ (freeN h : Int) := by
  unfold fitsH at e
  have h1 : freeN h ≤ h.c.length := List.length_filter_le _ _
  have := o.l2; have := o.k1; have := o.k2
  split at e
  · simpa using e
  · rw [w64_id (by omega) (by omega)] at e
    have : n ≤ (freeN h : Int) - h.keep := by simpa using e
    omega
theorem freeN_le {g g' : Hp} (x : Le g g') : freeN g' = freeN g := freeN_congr x.len x.free
/-- A tree made anew over its old one. -/
structure Anew (h g : Hp) (p : Int) (d : Nat) (l : List It) (B : Int) : Prop where
  ok : Ok g B
  ext : Ext h g
  tr : T g d p l
  new : usedB h p = false
  hts : ∀ q, usedB g q = true → usedB h q = true ∨ ∃ d' l', d' ≤ d ∧ T g d' q l'
  ct : ∀ R : Int → Int, Ct h R → Ct g (fun q => R q + one p q)
theorem lay_one {h g : Hp} {held : List Int} {x : It} {r made : List It} (e : layO h false held [x :: r] = some (g, made)) : ∃ p er, allocO h ⟨false, x :: r⟩ held = some (g, p, er) ∧ made = [⟨x.k, p⟩] := by
  unfold layO at e
  cases ha : allocO h ⟨false, x :: r⟩ held with
  | none => rw [ha] at e; simp at e
  | some t =>
    obtain ⟨g1, p, er⟩ := t
    rw [ha] at e
    simp only [layO, Option.bind_eq_bind, Option.bind_some, Option.some.injEq, Prod.mk.injEq] at e
    obtain ⟨rfl, rfl⟩ := e
    exact ⟨p, er, rfl, rfl⟩
theorem cntV_one (k p q : Int) : ((cntV [⟨k, p⟩] q : Nat) : Int) = one p q := by
  rw [cntV_cons, cntV_nil]
  unfold one
  show ((0 + if p = q then 1 else 0 : Nat) : Int) = _
  by_cases e : p = q
  · rw [if_pos e, if_pos e.symm]; rfl
  · rw [if_neg e, if_neg (fun h => e h.symm)]; rfl
/-- What is made takes the old root's place. -/
def putM (f : Nat) (g : Hp) (root : Int) : List It → Option (Hp × Int × Int)
  | [] => none
  | [y] => settledO f g y.v root
  | y :: z :: r => (overO g (y :: z :: r)).bind fun x => settledO f x.1 x.2.1 root
theorem putO_made {f : Nat} {h g : Hp} {root key val : Int} {deep : Bool} {d : Nat} {made : List It} (hh : highO 21 h root = some d) (hd : d < 20) (hk : fitsB key = true) (hv : fitsB val = true) (hf : fitsH h (2 * (d : Int) + 1) deep = true) (hr : ¬ root < 0) (a : anewO 20 h root ⟨key, val⟩ = some (g, made)) : putO f h root key val deep = putM f g root made := by
  unfold putO
  rw [hh]
  simp only [Option.bind_eq_bind, Option.bind_some]
  rw [hk, hv, if_neg (by simp), hf, decide_eq_false (by omega), if_neg (by simp), if_neg hr, a]
  rcases made with _ | ⟨y, _ | ⟨z, r⟩⟩ <;> rfl
/-- What a put comes to, ahead of its old root's end. -/
theorem build_spec {h : Hp} {B : Int} {root : Int} {d : Nat} {l : List It} {key val : Int} {deep : Bool} (f : Nat) (o : Ok h B) (hB1 : 1 ≤ B) (hB : B ≤ 1000000000) (t : T h d root l) (hd : d < 20) (hk : fitsB key = true) (hv : fitsB val = true) (hf : fitsH h (2 * (d : Int) + 1) deep = true) :
    ∃ g p d', putO f h root key val deep = settledO f g p root ∧ Anew h g p d' (ins l ⟨key, val⟩) (B + 200) ∧ (d' = d ∨ d' = d + 1) ∧ freeN h ≤ freeN g + (2 * d + 1) ∧ freeN g + d ≤ freeN h := by
  have hfree := fitsH_free o hf
  obtain ⟨g, made, ls, a1, a2, a3, a4, a5, a6, a7, a8⟩ := anew_spec d 20 h root l ⟨key, val⟩ B (by omega) o hB1 (by omega) t ⟨hk, hv⟩ (by omega)
  rw [putO_made (f := f) (t.high 21 (by omega)) hd hk hv hf (neg_of_used t.used) a1]
  clear a1
  match made, ls, a2, a3, a4, a5, a8 with
  | [], _, _, _, a4, _, _ => simp at a4
  | [y], ls, a2, a3, _, _, a8 =>
    have tr := a2.tr
    cases tr with
    | cons r rest =>
      cases rest
      rename_i li
      have e : li = ins l ⟨key, val⟩ := by simpa using a3
      rw [e] at r
      refine ⟨g, y.v, d, rfl, ⟨a2.ok.wide (by omega), a2.ext, r.2, a2.new y (by simp), a2.hts, fun R hR => (a8 R hR).congr fun q _ => ?_⟩, .inl rfl, by omega, by omega⟩
      rcases y with ⟨k, v⟩
      dsimp only
      rw [cntV_one]
  | y :: z :: r, ls, a2, a3, _, a5, a8 =>
    have hins := ins_gd t.gd.up t.gd.fit (x := ⟨key, val⟩) ⟨hk, hv⟩
    obtain ⟨g2, m2, ls2, l1, l2, l3, l4, l5, l6⟩ := lay_inner (rows := [y :: z :: r]) (ls := ls) a2.ok (by omega) (by omega) (vL (y :: z :: r)) (fun r' hr' => by rw [List.mem_singleton.mp hr']; exact ⟨by simp, by omega⟩) (by simp) (by simp) (by simp only [List.length_cons, List.length_nil]; omega) (by simpa using a2.tr) (by rw [a3]; exact hins.up)
    obtain ⟨p, er, ea, rfl⟩ := lay_one l1
    have tr := l2.tr
    cases tr with
    | cons rr rest =>
      cases rest
      rename_i li
      have e : li = ins l ⟨key, val⟩ := by rw [← a3, ← l3]; simp
      rw [e] at rr
      simp only [List.length_cons, List.length_nil] at l5
      refine ⟨g2, p, d + 1, ?_, ⟨l2.ok.wide (by omega), a2.ext.trans l2.ext, rr.2, ?_, fun q hq => ?_, fun R hR => l6 _ _ (a8 R hR) fun q hq => ?_⟩, .inr rfl, by omega, by omega⟩
      · show (overO g (y :: z :: r)).bind _ = _
        unfold overO; rw [ea]; rfl
      · have := l2.new ⟨y.k, p⟩ (by simp)
        cases hu : usedB h p with
        | false => rfl
        | true => rw [(a2.ext.use _ hu).1] at this; cases this
      · rcases l2.hts q hq with hu | hu
        · rcases a2.hts q hu with hu | ⟨d', l', h1, h2⟩
          · exact .inl hu
          · exact .inr ⟨d', l', by omega, h2.ext l2.ext⟩
        · exact .inr hu
      · have : hpN ⟨false, [y :: z :: r].flatten⟩ (vL (y :: z :: r)) q = cntV (y :: z :: r) q := by
          unfold hpN
          rw [if_neg (by simp)]
          split
          · simp
          · rename_i hq2
            exact (inL_vL.mp (by simpa using hq2)).symm
        rw [this, cntV_one]
        (try dsimp only)
        omega
/-- The old root goes. -/
theorem settle_spec {h g : Hp} {B : Int} {root p : Int} {d d' : Nat} {l l' : List It} (hB : B ≤ 1000000000) (t : T h d root l) (hd : d ≤ 20) (hd' : d' ≤ 20) (a : Anew h g p d' l' B) :
    ∃ g', settledO 25 g p root = some (g', p, 0) ∧ Ok g' B ∧ g'.c.length = h.c.length ∧ g'.keep = h.keep ∧ freeN g' = freeN g ∧ (Ct h (one root) → Hts h → Ct g' (one p) ∧ Hts g' ∧ T g' d' p l') := by
  have u := (a.ext.use root t.used).1
  obtain ⟨g', e, o', x, c⟩ := loose_spec 25 d g root B (by omega) a.ok (by omega) (t.ext a.ext).wk
  refine ⟨g', ?_, o', x.len.trans a.ext.len, x.keep.trans a.ext.keep, freeN_le x, fun hc hh => ?_⟩
  · unfold settledO looseH
    have := neg_of_used t.used
    rw [if_pos (by omega), if_pos u, e]; rfl
  · have c1 := c _ (a.ct _ hc) (fun q => by have := one_nonneg root q; have := one_nonneg p q; (try dsimp only); omega) (by have := one_self root; have := one_nonneg p root; (try dsimp only); omega)
    have c2 : Ct g' (one p) := c1.congr fun q _ => by
      (try dsimp only)
      have : (if q = root then (1 : Int) else 0) = one root q := rfl
      omega
    have hk : ∀ {d : Nat} {p : Int} {l : List It}, T g d p l → usedB g' p = true → T g' d p l := T.keep o' c2 (one_nonneg p) x
    refine ⟨c2, fun q hq => ?_, hk a.tr ?_⟩
    · have hg := (x.use q hq).1
      rcases a.hts q hg with hu | ⟨d2, l2, h1, h2⟩
      · obtain ⟨d2, l2, h1, h2⟩ := hh q hu
        exact ⟨d2, l2, h1, hk (h2.ext a.ext) hq⟩
      · exact ⟨d2, l2, by omega, hk h2 hq⟩
    · have hin : inB g' p = true := by rw [inB_len x.len]; exact (used_iff.mp a.tr.used).1
      have := c2 p hin
      rw [one_self] at this
      exact used_iff.mpr ⟨hin, by omega⟩
/-- What a put that is done comes to. -/
structure PutOk (h g : Hp) (root p : Int) (d : Nat) (l l' : List It) (B : Int) : Prop where
  ok : Ok g B
  len : g.c.length = h.c.length
  keep : g.keep = h.keep
  pos : 0 ≤ p
  lo : freeN h ≤ freeN g + (2 * d + 1)
  hi : freeN g + max d 1 ≤ freeN h
  fine : Ct h (one root) → Hts h → Ct g (one p) ∧ Hts g ∧ ∃ d', (d' = d ∨ d' = d + 1) ∧ d' ≤ 20 ∧ T g d' p l'
theorem Rt.high {h : Hp} {root : Int} {d : Nat} {l : List It} (t : Rt h root d l) : highO 21 h root = some d := by
  rcases t with ⟨rfl, rfl, rfl⟩ | ⟨hd, t⟩
  · rfl
  · exact t.high 21 (by omega)
theorem Rt.list {h : Hp} {root : Int} {d : Nat} {l : List It} (t : Rt h root d l) : listO 21 h root = some l := by
  rcases t with ⟨rfl, rfl, rfl⟩ | ⟨hd, t⟩
  · rfl
  · exact t.list 21 (by omega)
theorem Rt.up {h : Hp} {root : Int} {d : Nat} {l : List It} (t : Rt h root d l) : l.Pairwise fun a b => a.k < b.k := by
  rcases t with ⟨rfl, rfl, rfl⟩ | ⟨hd, t⟩
  · exact .nil
  · exact t.gd.up
theorem put_spec {h : Hp} {B : Int} {root : Int} {d : Nat} {l : List It} (key val : Int) (deep : Bool) (o : Ok h B) (hB1 : 1 ≤ B) (hB : B ≤ 100000000) (t : Rt h root d l) :
    ∃ g p e, putO 25 h root key val deep = some (g, p, e) ∧
      ((e = 1 ∧ g = h ∧ p = root ∧ ¬ (fitsB key = true ∧ fitsB val = true)) ∨
       (e = 3 ∧ g = h ∧ p = root ∧ (fitsB key = true ∧ fitsB val = true) ∧ ¬ (fitsH h (2 * (d : Int) + 1) deep = true ∧ d < 20)) ∨
       (e = 0 ∧ (fitsB key = true ∧ fitsB val = true) ∧ (fitsH h (2 * (d : Int) + 1) deep = true ∧ d < 20) ∧ PutOk h g root p d l (ins l ⟨key, val⟩) (B + 200))) := by
  by_cases hargs : fitsB key = true ∧ fitsB val = true
  · obtain ⟨hk, hv⟩ := hargs
    have hd20 : d ≤ 20 := by rcases t with ⟨_, rfl, _⟩ | ⟨h, _⟩ <;> omega
    by_cases hroom : fitsH h (2 * (d : Int) + 1) deep = true ∧ d < 20
    · obtain ⟨hf, hd⟩ := hroom
      rcases t with ⟨rfl, rfl, rfl⟩ | ⟨_, t⟩
      · have hfree := fitsH_free o hf
        have hx : fitsB (It.mk key val).k = true ∧ fitsB (It.mk key val).v = true := ⟨hk, hv⟩
        have hg : Gd [It.mk key val] := by
          have := ins_gd (l := []) (x := ⟨key, val⟩) .nil (fun x hx => by cases hx) hx
          simpa [ins] using this
        obtain ⟨g, made, l1, l2, l3, l4, l5⟩ := lay_leaf (rows := [[⟨key, val⟩]]) o hB1 (by omega) (fun r hr => by rw [List.mem_singleton.mp hr]; exact ⟨by simp, by simp⟩) (by simpa using hg) (by simp) (by simp only [List.length_cons, List.length_nil]; omega)
        unfold layO at l1
        obtain ⟨g1, f, ea, -⟩ := alloc_step (n := ⟨true, [⟨key, val⟩]⟩) (held := []) o (by omega) (nodeRight_iff.mpr ⟨by simp, hg⟩) (leadsB_iff.mpr (fun h => by cases h)) (by omega)
        rw [ea] at l1
        simp only [layO, Option.bind_eq_bind, Option.bind_some, Option.some.injEq, Prod.mk.injEq] at l1
        obtain ⟨rfl, rfl⟩ := l1
        have tr := l2.tr
        cases tr with
        | cons rr rest =>
          cases rest
          refine ⟨g1, f, 0, ?_, .inr (.inr ⟨rfl, ⟨hk, hv⟩, ⟨hf, hd⟩, ⟨l2.ok.wide (by omega), l2.ext.len, l2.ext.keep, ?_, ?_, ?_, fun hc hh => ⟨?_, fun q hq => ?_, 1, .inr rfl, by omega, ?_⟩⟩⟩)⟩
          · unfold putO
            have : highO 21 h (-1) = some 0 := rfl
            rw [this]
            simp only [Option.bind_eq_bind, Option.bind_some]
            rw [hk, hv, if_neg (by simp), hf, decide_eq_false (by omega), if_neg (by simp), if_pos (by omega), ea]
            rfl
          · have := neg_of_used rr.2.used; dsimp only at this; omega
          · simp only [List.length_cons, List.length_nil] at l4; omega
          · simp only [List.length_cons, List.length_nil] at l4; omega
          · refine (l5 _ hc).congr fun q hq => ?_
            rw [cntV_one]
            have : one (-1) q = 0 := by unfold one; rw [if_neg (by have := (inB_iff.mp hq).1; omega)]
            omega
          · rcases l2.hts q hq with hu | ⟨d2, l2', h1, h2⟩
            · obtain ⟨d2, l2', h1, h2⟩ := hh q hu
              exact ⟨d2, l2', h1, h2.ext l2.ext⟩
            · exact ⟨d2, l2', by omega, h2⟩
          · have : ins [] (It.mk key val) = [⟨key, val⟩] := rfl
            rw [this]; exact rr.2
      · obtain ⟨g, p, d', e, a, h1, h2, h3⟩ := build_spec 25 o hB1 (by omega) t hd hk hv hf
        obtain ⟨g', e', o', b1, b2, b3, b4⟩ := settle_spec (by omega) t hd20 (by omega) a
        refine ⟨g', p, 0, by rw [e, e'], .inr (.inr ⟨rfl, ⟨hk, hv⟩, ⟨hf, hd⟩, ⟨o', b1, b2, ?_, by omega, ?_, fun hc hh => ?_⟩⟩)⟩
        · have := neg_of_used a.tr.used; omega
        · have := t.pos; omega
        · obtain ⟨x, y, z⟩ := b4 hc hh
          exact ⟨x, y, d', h1, by omega, z⟩
    · refine ⟨h, root, 3, ?_, .inr (.inl ⟨rfl, rfl, rfl, ⟨hk, hv⟩, hroom⟩)⟩
      unfold putO
      rw [t.high]
      simp only [Option.bind_eq_bind, Option.bind_some]
      rw [hk, hv, if_neg (by simp), if_pos]
      rw [Bool.or_eq_true, decide_eq_true_eq, Bool.not_eq_true']
      by_cases h20 : d = 20
      · exact .inl h20
      · right
        rw [← Bool.not_eq_true]
        exact fun hf => hroom ⟨hf, by omega⟩
  · refine ⟨h, root, 1, ?_, .inl ⟨rfl, rfl, rfl, hargs⟩⟩
    unfold putO
    rw [t.high]
    simp only [Option.bind_eq_bind, Option.bind_some]
    rw [if_pos]
    rw [Bool.or_eq_true, Bool.not_eq_true', Bool.not_eq_true']
    cases hk : fitsB key with
    | false => exact .inl rfl
    | true =>
      cases hv : fitsB val with
      | false => exact .inr rfl
      | true => exact absurd ⟨hk, hv⟩ hargs
end Go.Proofs.Ytopkoganfnabgaa.H
namespace Go.Proofs.Ytopkoganfnabgaa.H
theorem small_of {h : Hp} {most : Nat} (hl : h.c.length ≤ most) (H : ∀ p, inB h p = true → (clAt h p).n.it.length ≤ 10 ∧ (clAt h p).ref ≤ 1000000) : smallB h most = true := by
  unfold smallB
  rw [Bool.and_eq_true, decide_eq_true_eq, all_cells]
  refine ⟨hl, fun p hp => ?_⟩
  unfold smallC
  simpa using H p hp
theorem small_ok {h : Hp} {most : Nat} (hs : smallB h most = true) (hr : rightB h = true) : Ok h 1000000 ∧ h.c.length ≤ most := by
  have o := rightB_ok.mp hr
  obtain ⟨a, b⟩ := small_facts hs
  exact ⟨⟨o.l1, o.l2, o.k1, o.k2, o.pos, fun p hp => by obtain ⟨i, rfl, hi⟩ := inB_nat' hp; rw [clAt_nat']; exact (b i hi).2, o.zero, o.pin, o.right, o.plc⟩, a⟩
theorem Ok.it_len {h : Hp} {B : Int} (o : Ok h B) {p : Int} (hp : inB h p = true) : (clAt h p).n.it.length ≤ 4 := by
  by_cases hr : 0 < (clAt h p).ref
  · exact (nodeRight_iff.mp (o.right p (used_iff.mpr ⟨hp, hr⟩))).1
  · have := o.pos p hp
    rw [o.zero p hp (by omega)]; exact Nat.zero_le _
theorem Ok.cut {h : Hp} {B C : Int} (o : Ok h B) (H : ∀ p, inB h p = true → (clAt h p).ref ≤ C) : Ok h C := ⟨o.l1, o.l2, o.k1, o.k2, o.pos, H, o.zero, o.pin, o.right, o.plc⟩
theorem Rt.tree {h : Hp} {root : Int} {d : Nat} {l : List It} (t : Rt h root d l) : treeO h root = some true := by
  rcases t with ⟨rfl, _⟩ | ⟨hd, t⟩
  · exact T_treeO (.inl rfl)
  · exact T_treeO (.inr ⟨d, l, hd, t⟩)
theorem may7_true {h : Hp} {root : Int} {most : Nat} {B : Int} {d : Nat} {l : List It} (o : Ok h B) (hl : h.c.length ≤ most) (c : Ct h (one root)) (t : Rt h root d l) : may7O h root most = some true := by
  have hc := fun q hq => ct_small o c (q := q) hq
  unfold may7O mayB
  rw [small_of hl fun p hp => ⟨by have := o.it_len hp; omega, by have := hc p hp; omega⟩, rightB_ok.mpr (o.cut fun p hp => by have := hc p hp; omega), if_pos (by rfl)]
  exact t.tree
theorem fine_some {h : Hp} {root : Int} (most : Nat) : ∃ b, fineO h [root] most = some b := by
  have : ∃ b, may8O h [root] most = some b := by
    unfold may8O
    split
    · unfold anyO
      split
      · rename_i hr
        obtain ⟨b, hb⟩ := treeO_some (rightB_ok.mp hr) root
        unfold anyL
        rw [hb]
        cases b <;> simp [anyL]
      · exact ⟨_, rfl⟩
    · exact ⟨_, rfl⟩
  obtain ⟨b, hb⟩ := this
  unfold fineO
  rw [hb]
  cases b <;> simp
/-- A sound heap with a root. -/
structure FP (h : Hp) (root : Int) (d : Nat) (l : List It) : Prop where
  ok : Ok h 8001
  ct : Ct h (one root)
  ht : Hts h
  tr : Rt h root d l
theorem fine_facts {h : Hp} {root : Int} {most : Nat} (e : fineO h [root] most = some true) : h.c.length ≤ most ∧ ∃ d l, FP h root d l := by
  unfold fineO at e
  cases hm : may8O h [root] most with
  | none => rw [hm] at e; cases e
  | some b =>
    rw [hm] at e
    cases b with
    | false => simp at e
    | true =>
      obtain ⟨s1, _, s3, s4⟩ := may8_facts hm
      obtain ⟨o, hl⟩ := small_ok s1 s3
      have hs : soundB h [root] = true := by simpa using e
      have ht : treeO h root = some true := by
        unfold anyL at s4
        cases hq : treeO h root with
        | none => rw [hq] at s4; cases s4
        | some b =>
          rw [hq] at s4
          cases b with
          | true => rfl
          | false => simp at s4
      have : ∃ d l, Rt h root d l := by
        rcases treeO_T o ht with rfl | ⟨d, l, hd, t⟩
        · exact ⟨0, [], .inl ⟨rfl, rfl, rfl⟩⟩
        · exact ⟨d, l, .inr ⟨hd, t⟩⟩
      obtain ⟨d, l, t⟩ := this
      obtain ⟨c, hh⟩ := sound_in o hs t
      exact ⟨hl, d, l, o.cut fun p hp => ct_small o c hp, c, hh, t⟩
theorem FP.fine {h : Hp} {root : Int} {d : Nat} {l : List It} (f : FP h root d l) {most : Nat} (hl : h.c.length ≤ most) : fineO h [root] most = some true := by
  have hs := sound_out f.ok f.ct f.ht
  have h1 : smallB h most = true := small_of hl fun p hp => ⟨by have := f.ok.it_len hp; omega, by have := f.ok.le p hp; omega⟩
  have h2 : rightB h = true := rightB_ok.mpr (f.ok.wide (by decide))
  unfold fineO may8O anyO anyL
  rw [h1, h2, f.tr.tree, hs]
  rfl
theorem FP.may7 {h : Hp} {root : Int} {d : Nat} {l : List It} (f : FP h root d l) {most : Nat} (hl : h.c.length ≤ most) : may7O h root most = some true := may7_true f.ok hl f.ct f.tr
/-- What a put comes to in a sound heap. -/
theorem FP.put {h : Hp} {root : Int} {d : Nat} {l : List It} (f : FP h root d l) (key val : Int) (deep : Bool) :
    ∃ g p e, putO 25 h root key val deep = some (g, p, e) ∧
      ((e = 1 ∧ g = h ∧ p = root ∧ ¬ (fitsB key = true ∧ fitsB val = true)) ∨
       (e = 3 ∧ g = h ∧ p = root ∧ (fitsB key = true ∧ fitsB val = true) ∧ ¬ (fitsH h (2 * (d : Int) + 1) deep = true ∧ d < 20)) ∨
       (e = 0 ∧ (fitsB key = true ∧ fitsB val = true) ∧ (fitsH h (2 * (d : Int) + 1) deep = true ∧ d < 20) ∧ 0 ≤ p ∧ g.c.length = h.c.length ∧ g.keep = h.keep ∧ freeN h ≤ freeN g + (2 * d + 1) ∧ freeN g + max d 1 ≤ freeN h ∧ ∃ d', (d' = d ∨ d' = d + 1) ∧ FP g p d' (ins l ⟨key, val⟩))) := by
  obtain ⟨g, p, e, h1, h2⟩ := put_spec key val deep f.ok (by decide) (by decide) f.tr
  refine ⟨g, p, e, h1, ?_⟩
  rcases h2 with h2 | h2 | ⟨a, b, c, k⟩
  · exact .inl h2
  · exact .inr (.inl h2)
  · obtain ⟨x, y, d', z1, z2, z3⟩ := k.fine f.ct f.ht
    exact .inr (.inr ⟨a, b, c, k.pos, k.len, k.keep, k.lo, k.hi, d', z1, ⟨k.ok.cut fun q hq => ct_small k.ok x hq, x, y, .inr ⟨z2, z3⟩⟩⟩)
end Go.Proofs.Ytopkoganfnabgaa.H
namespace Go.Proofs.Ytopkoganfnabgaa.H
open Go.RowKit Go.Proofs.YtopkoganfnabgaaW.PrintWords Go.Proofs.YtopkoganfnabgaaW.PrintLast Go.Proofs.YtopkoganfnabgaaW.PrintMore
attribute [local go_sem] max2_int min2_int max_two min_two max_three min_three max_four min_four
set_option linter.unusedVariables false
set_option linter.unusedSimpArgs false
theorem one_int (W : World) (x : Int) : (Kd.int .i64).C (W.alloc (.cells #[.int .i64 x] 3)) (some ⟨W.heap.size, 0, none⟩) 1 [x] := by
  refine ⟨rfl, by decide, fun _ => ⟨_, rfl, fun j p hj => ?_⟩⟩
  have hj0 : j = 0 := by
    have := (List.getElem?_eq_some_iff.1 hj).1
    simp at this
    exact this
  subst hj0
  cases hj
  refine ⟨[.int .i64 x], rfl, rfl, fun i u hu => ?_⟩
  have hi : i = 0 := by
    have := (List.getElem?_eq_some_iff.1 hu).1
    simpa using this
  subst hi
  rw [show (({ block := W.heap.size, off := 0 } : Addr).add (0 * (Kd.int .i64).sz + 0)) = ⟨W.heap.size, 0, none⟩ from rfl, blk_cell (blk_new W _) 0]
  exact hu
/-- Where a law of grow stands behind its first regions. -/
structure LwSt (w W : World) (A : Option Addr) (c : Nat) (h : Hp) (x : It) (n : Nat) : Prop where
  b0 : Below w.heap.size w W
  hh : W.heap[w.heap.size + n]? = some (.cells #[.slice A h.c.length c, .int .i64 h.keep] 24 (0, 0))
  hx : W.heap[w.heap.size + n + 1]? = some (.cells #[.int .i64 x.k, .int .i64 x.v] 26 (0, 0))
  cl : kCl.C W A h.c.length h.c
theorem LwSt.step {w W W' : World} {A : Option Addr} {c : Nat} {h : Hp} {x : It} {n : Nat} (s : LwSt w W A c h x n) (hb : Below W.heap.size W W') : LwSt w W' A c h x n := ⟨below_step s.b0 hb, blk_below s.hh hb, blk_below s.hx hb, Kd.C_below s.cl hb⟩
end Go.Proofs.Ytopkoganfnabgaa.H
namespace Go.Proofs.Ytopkoganfnabgaa.H
theorem ff (p q r : It → Bool) (l : List It) (h : ∀ a, (q a && p a) = r a) : (l.filter p).filter q = l.filter r := by
  rw [List.filter_filter]
  exact List.filter_congr fun a _ => by rw [← h a, Bool.and_comm]
theorem ff_nil (p q : It → Bool) (l : List It) (h : ∀ a, p a = true → q a = false) : (l.filter p).filter q = [] := by
  rw [List.filter_filter, List.filter_eq_nil_iff]
  intro a _
  cases hp : p a with
  | false => simp
  | true => rw [h a hp]; simp
theorem ins_lt {l : List It} {x y : It} (h : x.k < y.k) : ins (ins l x) y = ins (ins l y) x := by
  have e1 := ff (fun a => decide (a.k < x.k)) (fun a => decide (a.k < y.k)) (fun a => decide (a.k < x.k)) l (fun a => by by_cases h1 : a.k < x.k <;> simp [h1]; omega)
  have e2 := ff_nil (fun a => decide (a.k < x.k)) (fun a => decide (y.k < a.k)) l (fun a ha => by simp at ha ⊢; omega)
  have e3 := ff (fun a => decide (x.k < a.k)) (fun a => decide (y.k < a.k)) (fun a => decide (y.k < a.k)) l (fun a => by by_cases h1 : y.k < a.k <;> simp [h1]; omega)
  have e4 := ff (fun a => decide (a.k < y.k)) (fun a => decide (a.k < x.k)) (fun a => decide (a.k < x.k)) l (fun a => by by_cases h1 : a.k < x.k <;> simp [h1]; omega)
  have e5 := ff_nil (fun a => decide (y.k < a.k)) (fun a => decide (a.k < x.k)) l (fun a ha => by simp at ha ⊢; omega)
  have e6 := ff (fun a => decide (y.k < a.k)) (fun a => decide (x.k < a.k)) (fun a => decide (y.k < a.k)) l (fun a => by by_cases h1 : y.k < a.k <;> simp [h1]; omega)
  have e7 : (l.filter fun a => decide (x.k < a.k)).filter (fun a => decide (a.k < y.k)) = (l.filter fun a => decide (a.k < y.k)).filter (fun a => decide (x.k < a.k)) := by
    rw [List.filter_filter, List.filter_filter]; exact List.filter_congr fun a _ => by rw [Bool.and_comm]
  unfold ins
  simp only [List.filter_append, List.filter_cons, e1, e2, e3, e4, e5, e6, e7]
  rw [if_pos (decide_eq_true h), if_neg (by simp; omega), if_neg (by simp; omega), if_pos (decide_eq_true h)]
  simp
theorem ins_comm {l : List It} {x y : It} (h : x.k ≠ y.k) : ins (ins l x) y = ins (ins l y) x := by
  by_cases h1 : x.k < y.k
  · exact ins_lt h1
  · exact (ins_lt (by omega)).symm
theorem ins_same {l : List It} {x y : It} (h : x.k = y.k) : ins (ins l x) y = ins l y := by
  have e1 := ff (fun a => decide (a.k < x.k)) (fun a => decide (a.k < y.k)) (fun a => decide (a.k < y.k)) l (fun a => by rw [h, Bool.and_self])
  have e2 := ff_nil (fun a => decide (a.k < x.k)) (fun a => decide (y.k < a.k)) l (fun a ha => by simp at ha ⊢; omega)
  have e3 := ff (fun a => decide (x.k < a.k)) (fun a => decide (y.k < a.k)) (fun a => decide (y.k < a.k)) l (fun a => by rw [h, Bool.and_self])
  have e4 := ff_nil (fun a => decide (x.k < a.k)) (fun a => decide (a.k < y.k)) l (fun a ha => by simp at ha ⊢; omega)
  unfold ins
  simp only [List.filter_append, List.filter_cons, e1, e2, e3, e4]
  rw [if_neg (by simp; omega), if_neg (by simp; omega)]
  simp
theorem ins_same_len {l : List It} {x y : It} (h : x.k = y.k) : (ins l y).length = (ins l x).length := by
  unfold ins
  rw [h]
  simp
theorem find_filter {l : List It} {p : It → Bool} {key : Int} (h : ∀ a, a.k = key → p a = true) : (l.filter p).find? (fun a => decide (a.k = key)) = l.find? (fun a => decide (a.k = key)) := by
  induction l with
  | nil => rfl
  | cons a l ih =>
    rw [List.filter_cons, List.find?_cons]
    by_cases hk : a.k = key
    · rw [if_pos (h a hk), List.find?_cons]
      simp [hk]
    · rw [decide_eq_false hk]
      split
      · rw [List.find?_cons, decide_eq_false hk]; exact ih
      · exact ih
theorem find_none' {l : List It} {p : It → Bool} {key : Int} (h : ∀ a, p a = true → a.k ≠ key) : (l.filter p).find? (fun a => decide (a.k = key)) = none := by
  rw [List.find?_eq_none]
  intro a ha
  simpa using h a (List.mem_filter.mp ha).2
theorem getL_ins (l : List It) (x : It) (key : Int) : getL (ins l x) key = if x.k = key then (x.v, 0) else getL l key := by
  unfold getL ins
  rw [List.find?_append, List.find?_cons]
  by_cases e : x.k = key
  · rw [if_pos e, find_none' (fun a ha => by simp at ha; omega), decide_eq_true e]; rfl
  · rw [if_neg e, decide_eq_false e]
    by_cases h1 : key < x.k
    · rw [find_filter (fun a ha => by simp; omega), find_none' (fun a ha => by simp at ha; omega)]
      simp
    · rw [find_none' (fun a ha => by simp at ha; omega), find_filter (fun a ha => by simp; omega)]
      simp
end Go.Proofs.Ytopkoganfnabgaa.H
namespace Go.Proofs.Ytopkoganfnabgaa.H
open Go.RowKit Go.Proofs.YtopkoganfnabgaaW.PrintWords Go.Proofs.YtopkoganfnabgaaW.PrintLast Go.Proofs.YtopkoganfnabgaaW.PrintMore
attribute [local go_sem] max2_int min2_int max_two min_two max_three min_three max_four min_four
set_option linter.unusedVariables false
set_option linter.unusedSimpArgs false
/-- A box that holds a heap. -/
structure Bx (W : World) (s : Nat) (B : Option Addr) (cb : Nat) (g : Hp) : Prop where
  bx : W.heap[s]? = some (.cells #[.slice B g.c.length cb, .int .i64 g.keep] 24 (0, 0))
  cl : kCl.C W B g.c.length g.c
  le : g.c.length ≤ cb
theorem Bx.step {W W' : World} {s : Nat} {B : Option Addr} {cb : Nat} {g : Hp} (b : Bx W s B cb g) (hb : Below W.heap.size W W') : Bx W' s B cb g := ⟨blk_below b.bx hb, Kd.C_below b.cl hb, b.le⟩
theorem Bx.new {W : World} {B : Option Addr} {cb : Nat} {g : Hp} (hc : kCl.C W B g.c.length g.c) (hl : g.c.length ≤ cb) : Bx (W.alloc (.cells #[.slice B g.c.length cb, .int .i64 g.keep] 24)) W.heap.size B cb g := ⟨blk_new W _, Kd.C_alloc hc _, hl⟩
theorem Bx.c0 {W : World} {s : Nat} {B : Option Addr} {cb : Nat} {g : Hp} (b : Bx W s B cb g) : W.cell? ⟨s, 0, none⟩ = some (.slice B g.c.length cb) := (blk_cell b.bx 0).trans rfl
theorem Bx.c1 {W : World} {s : Nat} {B : Option Addr} {cb : Nat} {g : Hp} (b : Bx W s B cb g) : W.cell? ⟨s, 1, none⟩ = some (.int .i64 g.keep) := (blk_cell b.bx 1).trans rfl
/-- A box that holds an item. -/
structure Ix (W : World) (s : Nat) (x : It) : Prop where
  bx : W.heap[s]? = some (.cells #[.int .i64 x.k, .int .i64 x.v] 26 (0, 0))
theorem Ix.step {W W' : World} {s : Nat} {x : It} (b : Ix W s x) (hb : Below W.heap.size W W') : Ix W' s x := ⟨blk_below b.bx hb⟩
theorem Ix.c0 {W : World} {s : Nat} {x : It} (b : Ix W s x) : W.cell? ⟨s, 0, none⟩ = some (.int .i64 x.k) := (blk_cell b.bx 0).trans rfl
theorem Ix.c1 {W : World} {s : Nat} {x : It} (b : Ix W s x) : W.cell? ⟨s, 1, none⟩ = some (.int .i64 x.v) := (blk_cell b.bx 1).trans rfl
structure TwSt (w W : World) (A : Option Addr) (c : Nat) (h : Hp) (x y : It) : Prop where
  b0 : Below w.heap.size w W
  hh : Bx W (w.heap.size + 1) A c h
  hx : Ix W (w.heap.size + 1 + 1) x
  hy : Ix W (w.heap.size + 1 + 1 + 1) y
theorem TwSt.step {w W W' : World} {A : Option Addr} {c : Nat} {h : Hp} {x y : It} (s : TwSt w W A c h x y) (hb : Below W.heap.size W W') : TwSt w W' A c h x y := ⟨below_step s.b0 hb, s.hh.step hb, s.hx.step hb, s.hy.step hb⟩
/-- What put comes to, as a contract. -/
abbrev PutC (g g' : Hp) (r k v p e : Int) (deep : Bool) : Prop := ∀ (B : Option Addr) (cb : Nat) (W : World), kCl.C W B g.c.length g.c → g.c.length ≤ cb → Calls Try.prog 13 #[.agg #[.slice B g.c.length cb, .int .i64 g.keep], .int .i64 r, .int .i64 k, .int .i64 v, .bool deep] W fun e' w' => ∃ B' cb', e' = .returned (.tuple #[.agg #[.slice B' g'.c.length cb', .int .i64 g'.keep], .int .i64 p, .int .i64 e]) ∧ g'.c.length ≤ cb' ∧ kCl.C w' B' g'.c.length g'.c ∧ Below W.heap.size W w'
theorem putC {g g' : Hp} {r k v p e : Int} {deep : Bool} (h : putO 25 g r k v deep = some (g', p, e)) : PutC g g' r k v p e deep := fun B cb W hcl hle => growPut_walk B cb g g' r k v p e deep 25 W hcl hle h
abbrev MayC (g : Hp) (r : Int) : Prop := ∀ (B : Option Addr) (cb : Nat) (W : World), kCl.C W B g.c.length g.c → Calls Try.prog 12 #[.agg #[.slice B g.c.length cb, .int .i64 g.keep], .int .i64 r, .int .i64 40] W fun e w' => e = .returned (.bool true) ∧ Below W.heap.size W w'
theorem mayC {g : Hp} {r : Int} {d : Nat} {l : List It} (f : FP g r d l) (hl : g.c.length ≤ 40) : MayC g r := fun B cb W hcl => may07_walk B cb g r 40 true W hcl (f.may7 hl)
abbrev ListC (g : Hp) (r : Int) (l : List It) (n : Nat) : Prop := ∀ (B : Option Addr) (cb : Nat) (W : World), kCl.C W B g.c.length g.c → Calls Try.prog 24 #[.agg #[.slice B g.c.length cb, .int .i64 g.keep], .int .i64 r] W fun e w' => ∃ D d, e = .returned (.slice D n d) ∧ n ≤ d ∧ kIt.C w' D n l ∧ Below W.heap.size W w'
theorem listC {g : Hp} {r : Int} {d : Nat} {l : List It} {n : Nat} (f : Rt g r d l) (hn : l.length = n) : ListC g r l n := fun B cb W hcl => by subst hn; exact list_walk 21 B cb g r l W hcl f.list
abbrev FineC (A : Option Addr) (c : Nat) (h : Hp) (root : Int) (most : Int) (b : Bool) : Prop := ∀ (W : World) (Ar : Option Addr), (Kd.int .i64).C W Ar 1 [root] → kCl.C W A h.c.length h.c → Calls Try.prog 18 #[.agg #[.slice A h.c.length c, .int .i64 h.keep], .slice Ar 1 1, .slice none 0 0, .int .i64 most] W fun e w' => e = .returned (.bool b) ∧ Below W.heap.size W w'
theorem fineC {A : Option Addr} {c : Nat} {h : Hp} {root : Int} {b : Bool} (most : Nat) (hb : fineO h [root] most = some b) : FineC A c h root most b := fun W Ar hrr hcl => fine_walk A Ar c 1 h [root] most b W hcl hrr hb
set_option maxHeartbeats 4000000 in
set_option maxRecDepth 100000 in
theorem twice_walk (A : Option Addr) (c : Nat) (h : Hp) (root : Int) (x y : It) (w : World) (hr : kCl.C w A h.c.length h.c) (hcc : h.c.length ≤ c) :
    Calls Try.prog 5 #[.agg #[.slice A h.c.length c, .int .i64 h.keep, .int .i64 root, .int .i64 x.k, .int .i64 x.v, .int .i64 y.k, .int .i64 y.v]] w fun e w' => e = .returned (.bool true) ∧ Below w.heap.size w w' := by
  obtain ⟨W1, hW1⟩ : ∃ W1, W1 = (((w.alloc (.cells #[.slice A h.c.length c, .int .i64 h.keep, .int .i64 root, .int .i64 x.k, .int .i64 x.v, .int .i64 y.k, .int .i64 y.v] 51)).alloc (.cells #[.slice A h.c.length c, .int .i64 h.keep] 24)).alloc (.cells #[.int .i64 x.k, .int .i64 x.v] 26)).alloc (.cells #[.int .i64 y.k, .int .i64 y.v] 26) := ⟨_, rfl⟩
  have S0 := Aside0.mk (show TwSt w W1 A c h x y by
    rw [hW1]
    exact ⟨below_alloc (below_alloc (below_alloc (below_alloc (Below.refl _ _) _) _) _) _, ⟨blk_alloc (blk_alloc (blk2 w _ _) _) _, Kd.C_alloc (Kd.C_alloc (Kd.C_alloc (Kd.C_alloc hr _) _) _) _, hcc⟩, ⟨blk_alloc (blk3 w _ _ _) _⟩, ⟨blk4 w _ _ _ _⟩⟩)
  have hW1' := Aside0.mk hW1
  obtain ⟨b, hb⟩ := fine_some (h := h) (root := root) 40
  have HFI := Aside0.mk (show FineC A c h root 40 b from fineC 40 hb)
  clear hW1 hr hcc
  cases b with
  | false =>
    clear hb
    (go_enter Try.func5, Try.ntmps5; go_upto_region 5 with (fail); rw [← hW1'.out]; go_upto_region 6 with (first | (go_at_call 11; (with_reducible refine (shown9_walk _).mono ?_); rintro e w1 ⟨rfl, hb1⟩; have S1 := Aside0.mk (S0.out.step hb1); have c0 := S1.out.hh.c0; have c1 := S1.out.hh.c1; clear hb1) | fail))
    go_wp2_with (first | (go_at_call 18; (with_reducible refine (HFI.out _ _ (one_int _ root) (Kd.C_below S1.out.hh.cl (by repeat (first | (with_reducible exact Below.refl _ _) | (with_reducible refine below_alloc ?_ _) | (with_reducible refine below_drew1 ?_) | (with_reducible refine pw_below_drewN ?_ _) | fail)))).mono ?_); rintro e w2 ⟨rfl, hb2⟩; have S2 := Aside0.mk (S1.out.step (below_step (below_alloc (Below.refl _ _) _) hb2)); have y0 := S2.out.hh.c0; have y1 := S2.out.hh.c1; have x0 := S2.out.hx.c0; have x1 := S2.out.hx.c1; clear hb2) | fail)
    go_ret
    exact ⟨rfl, S2.out.b0⟩
  | true =>
    obtain ⟨hl40, d, l, fp⟩ := fine_facts hb
    obtain ⟨a, p, e, hput, hcase⟩ := fp.put x.k x.v true
    obtain ⟨b, q, f, hput2, hcase2⟩ := fp.put y.k y.v true
    have HP1 := Aside0.mk (putC hput)
    have HP2 := Aside0.mk (putC hput2)
    clear hb hput hput2
    have HC1 := Aside0.mk hcase
    have HC2 := Aside0.mk hcase2
    have HL := Aside0.mk hl40
    clear hcase hcase2 hl40 fp
    (go_enter Try.func5, Try.ntmps5; go_upto_region 5 with (fail); rw [← hW1'.out]; go_upto_region 6 with (first | (go_at_call 11; (with_reducible refine (shown9_walk _).mono ?_); rintro e w1 ⟨rfl, hb1⟩; have S1 := Aside0.mk (S0.out.step hb1); have c0 := S1.out.hh.c0; have c1 := S1.out.hh.c1; clear hb1) | fail))
    go_upto_region 8 with (first | (go_at_call 18; (with_reducible refine (HFI.out _ _ (one_int _ root) (Kd.C_below S1.out.hh.cl (by repeat (first | (with_reducible exact Below.refl _ _) | (with_reducible refine below_alloc ?_ _) | (with_reducible refine below_drew1 ?_) | (with_reducible refine pw_below_drewN ?_ _) | fail)))).mono ?_); rintro e w2 ⟨rfl, hb2⟩; have S2 := Aside0.mk (S1.out.step (below_step (below_alloc (Below.refl _ _) _) hb2)); have y0 := S2.out.hh.c0; have y1 := S2.out.hh.c1; have x0 := S2.out.hx.c0; have x1 := S2.out.hx.c1; clear hb2) | fail)
    have z0 := S2.out.hy.c0
    have z1 := S2.out.hy.c1
    go_upto_region 9 with (first | (go_at_call 13; (with_reducible refine (HP1.out _ _ _ (Kd.C_below S2.out.hh.cl (by repeat (first | (with_reducible exact Below.refl _ _) | (with_reducible refine below_alloc ?_ _) | (with_reducible refine below_drew1 ?_) | (with_reducible refine pw_below_drewN ?_ _) | (with_reducible exact Below.refl _ _)))) S2.out.hh.le).mono ?_); rintro e w3 ⟨E1, k1, rfl, hc3, hr3, hb3⟩; have HR3 := Aside0.mk (And.intro hc3 hr3); have HB3 := Aside0.mk hb3; clear hc3 hr3 hb3) | fail)
    obtain ⟨s3, hs3⟩ : ∃ s, s = w3.heap.size := ⟨_, rfl⟩
    (obtain ⟨W4, hW4⟩ : ∃ W, W = w3.alloc (.cells #[.slice E1 a.c.length k1, .int .i64 a.keep] 24) := ⟨_, rfl⟩; have hb4 : Below w2.heap.size w2 W4 := (by rw [hW4]; exact below_alloc HB3.out _); have BA4 := Aside0.mk (show Bx W4 w3.heap.size E1 k1 a by rw [hW4]; exact Bx.new HR3.out.2 HR3.out.1); rw [← hW4]; clear hW4)
    rw [← hs3] at BA4 ⊢
    have S4 := Aside0.mk (S2.out.step hb4)
    clear hb4 hs3 x0 x1 y0 y1 z0 z1 c0 c1
    have y0 := S4.out.hh.c0
    have y1 := S4.out.hh.c1
    have z0 := S4.out.hy.c0
    have z1 := S4.out.hy.c1
    go_upto_region 10 with (first | (go_at_call 13; (with_reducible refine (HP2.out _ _ _ (Kd.C_below S4.out.hh.cl (by repeat (first | (with_reducible exact Below.refl _ _) | (with_reducible refine below_alloc ?_ _) | (with_reducible refine below_drew1 ?_) | (with_reducible refine pw_below_drewN ?_ _) | (with_reducible exact Below.refl _ _)))) S4.out.hh.le).mono ?_); rintro e w3 ⟨E2, k2, rfl, hc3, hr3, hb3⟩; have HR3 := Aside0.mk (And.intro hc3 hr3); have HB3 := Aside0.mk hb3; clear hc3 hr3 hb3) | fail)
    obtain ⟨s5, hs5⟩ : ∃ s, s = w3.heap.size := ⟨_, rfl⟩
    (obtain ⟨W6, hW6⟩ : ∃ W, W = w3.alloc (.cells #[.slice E2 b.c.length k2, .int .i64 b.keep] 24) := ⟨_, rfl⟩; have hb4 : Below W4.heap.size W4 W6 := (by rw [hW6]; exact below_alloc HB3.out _); have BB6 := Aside0.mk (show Bx W6 w3.heap.size E2 k2 b by rw [hW6]; exact Bx.new HR3.out.2 HR3.out.1); rw [← hW6]; clear hW6)
    rw [← hs5] at BB6 ⊢
    have S6 := Aside0.mk (S4.out.step hb4)
    have BA6 := Aside0.mk (BA4.out.step hb4)
    clear hb4 hs5 y0 y1 z0 z1
    have e0 : e ≠ 0 ∨ e = 0 := by omega
    have f0 : f ≠ 0 ∨ f = 0 := by omega
    rcases e0 with e0 | rfl
    · have q1 : (e != 0) = true := bne_t e0
      clear e0
      go_wp2_with fail
      go_ret
      exact ⟨rfl, S6.out.b0⟩
    rcases f0 with f0 | rfl
    · have q1 : (f != 0) = true := bne_t f0
      clear f0
      go_wp2_with fail
      go_ret
      exact ⟨rfl, S6.out.b0⟩
    rcases HC1.out with ⟨h0, _⟩ | ⟨h0, _⟩ | ⟨-, hax, -, -, hal, -, -, -, da, -, fa⟩
    · cases h0
    · cases h0
    rcases HC2.out with ⟨h0, _⟩ | ⟨h0, _⟩ | ⟨-, hay, -, -, hbl, -, -, -, db, -, fb⟩
    · cases h0
    · cases h0
    have HM1 := Aside0.mk (mayC fa (by have := HL.out; omega))
    have HM2 := Aside0.mk (mayC fb (by have := HL.out; omega))
    obtain ⟨c', r, g, hput3, hcase3⟩ := fa.put y.k y.v true
    obtain ⟨d', s, i, hput4, hcase4⟩ := fb.put x.k x.v true
    have HP3 := Aside0.mk (putC hput3)
    have HP4 := Aside0.mk (putC hput4)
    have HC3 := Aside0.mk hcase3
    have HC4 := Aside0.mk hcase4
    have HF := Aside0.mk (And.intro fa fb)
    have HAXY := Aside0.mk (And.intro hax (And.intro hay (And.intro hal hbl)))
    clear hput3 hput4 hcase3 hcase4 fa fb hax hay hal hbl HC1 HC2 HP1 HP2
    have a0 := BA6.out.c0
    have a1 := BA6.out.c1
    have b0 := BB6.out.c0
    have b1 := BB6.out.c1
    go_upto_region 14 with (first | ((go_at_call 12; (with_reducible refine (HM1.out _ _ _ (Kd.C_below BA6.out.cl (by repeat (first | (with_reducible exact Below.refl _ _) | (with_reducible refine below_alloc ?_ _) | (with_reducible refine below_drew1 ?_) | (with_reducible refine pw_below_drewN ?_ _) | (with_reducible exact Below.refl _ _) | (with_reducible exact BA6.out))))).mono ?_); rintro e w7 ⟨rfl, hb7⟩; have HB7 := Aside0.mk (below_step (show Below W6.heap.size W6 _ from (by repeat (first | (with_reducible exact Below.refl _ _) | (with_reducible refine below_alloc ?_ _) | (with_reducible refine below_drew1 ?_) | (with_reducible refine pw_below_drewN ?_ _) | (with_reducible exact Below.refl _ _) | (with_reducible exact BA6.out)))) hb7); clear hb7); have b2 := (BB6.out.step HB7.out).c0; have b3 := (BB6.out.step HB7.out).c1) | (go_at_call 12; (with_reducible refine (HM2.out _ _ _ (Kd.C_below BB6.out.cl (by repeat (first | (with_reducible exact Below.refl _ _) | (with_reducible refine below_alloc ?_ _) | (with_reducible refine below_drew1 ?_) | (with_reducible refine pw_below_drewN ?_ _) | (with_reducible exact Below.refl _ _) | (with_reducible exact HB7.out))))).mono ?_); rintro e w8 ⟨rfl, hb7⟩; have HB8 := Aside0.mk (below_step (show Below W6.heap.size W6 _ from (by repeat (first | (with_reducible exact Below.refl _ _) | (with_reducible refine below_alloc ?_ _) | (with_reducible refine below_drew1 ?_) | (with_reducible refine pw_below_drewN ?_ _) | (with_reducible exact Below.refl _ _) | (with_reducible exact HB7.out)))) hb7); clear hb7) | fail)
    have S8 := Aside0.mk (S6.out.step HB8.out)
    have BA8 := Aside0.mk (BA6.out.step HB8.out)
    have BB8 := Aside0.mk (BB6.out.step HB8.out)
    clear a0 a1 b0 b1 b2 b3
    have z0 := S8.out.hy.c0
    have z1 := S8.out.hy.c1
    have a0 := BA8.out.c0
    have a1 := BA8.out.c1
    go_upto_region 15 with (first | (go_at_call 13; (with_reducible refine (HP3.out _ _ _ (Kd.C_below BA8.out.cl (by repeat (first | (with_reducible exact Below.refl _ _) | (with_reducible refine below_alloc ?_ _) | (with_reducible refine below_drew1 ?_) | (with_reducible refine pw_below_drewN ?_ _) | (with_reducible exact Below.refl _ _)))) BA8.out.le).mono ?_); rintro e w3 ⟨E3, k3, rfl, hc3, hr3, hb3⟩; have HR3 := Aside0.mk (And.intro hc3 hr3); have HB3 := Aside0.mk hb3; clear hc3 hr3 hb3) | fail)
    obtain ⟨s9, hs9⟩ : ∃ s, s = w3.heap.size := ⟨_, rfl⟩
    (obtain ⟨W10, hW10⟩ : ∃ W, W = w3.alloc (.cells #[.slice E3 c'.c.length k3, .int .i64 c'.keep] 24) := ⟨_, rfl⟩; have hb4 : Below w8.heap.size w8 W10 := (by rw [hW10]; exact below_alloc HB3.out _); have BC10 := Aside0.mk (show Bx W10 w3.heap.size E3 k3 c' by rw [hW10]; exact Bx.new HR3.out.2 HR3.out.1); rw [← hW10]; clear hW10)
    rw [← hs9] at BC10 ⊢
    have S10 := Aside0.mk (S8.out.step hb4)
    have BA10 := Aside0.mk (BA8.out.step hb4)
    have BB10 := Aside0.mk (BB8.out.step hb4)
    clear hb4 hs9 z0 z1 a0 a1
    have x0 := S10.out.hx.c0
    have x1 := S10.out.hx.c1
    have b0 := BB10.out.c0
    have b1 := BB10.out.c1
    go_upto_region 16 with (first | (go_at_call 13; (with_reducible refine (HP4.out _ _ _ (Kd.C_below BB10.out.cl (by repeat (first | (with_reducible exact Below.refl _ _) | (with_reducible refine below_alloc ?_ _) | (with_reducible refine below_drew1 ?_) | (with_reducible refine pw_below_drewN ?_ _) | (with_reducible exact Below.refl _ _)))) BB10.out.le).mono ?_); rintro e w3 ⟨E4, k4, rfl, hc3, hr3, hb3⟩; have HR3 := Aside0.mk (And.intro hc3 hr3); have HB3 := Aside0.mk hb3; clear hc3 hr3 hb3) | fail)
    obtain ⟨s11, hs11⟩ : ∃ s, s = w3.heap.size := ⟨_, rfl⟩
    (obtain ⟨W12, hW12⟩ : ∃ W, W = w3.alloc (.cells #[.slice E4 d'.c.length k4, .int .i64 d'.keep] 24) := ⟨_, rfl⟩; have hb4 : Below W10.heap.size W10 W12 := (by rw [hW12]; exact below_alloc HB3.out _); have BD12 := Aside0.mk (show Bx W12 w3.heap.size E4 k4 d' by rw [hW12]; exact Bx.new HR3.out.2 HR3.out.1); rw [← hW12]; clear hW12)
    rw [← hs11] at BD12 ⊢
    have S12 := Aside0.mk (S10.out.step hb4)
    have BA12 := Aside0.mk (BA10.out.step hb4)
    have BC12 := Aside0.mk (BC10.out.step hb4)
    clear hb4 hs11 x0 x1 b0 b1
    rcases HC3.out with ⟨_, _, _, h0⟩ | ⟨rfl, _⟩ | ⟨rfl, -, -, -, hcl, -, -, -, dc, -, fc⟩
    · exact absurd HAXY.out.2.1 h0
    · go_wp2_with fail
      go_ret
      exact ⟨rfl, S12.out.b0⟩
    rcases HC4.out with ⟨_, _, _, h0⟩ | ⟨rfl, _⟩ | ⟨rfl, -, -, -, hdl, -, -, -, dd, -, fd⟩
    · exact absurd HAXY.out.1 h0
    · go_wp2_with fail
      go_ret
      exact ⟨rfl, S12.out.b0⟩
    have HM3 := Aside0.mk (mayC fc (by have := HL.out; have := HAXY.out.2.2; omega))
    have HM4 := Aside0.mk (mayC fd (by have := HL.out; have := HAXY.out.2.2; omega))
    have HFF := Aside0.mk (And.intro fc fd)
    have hfa := HF.out.1
    clear fc fd hcl hdl HC3 HC4 HP3 HP4 HM1 HM2
    have a0 := BC12.out.c0
    have a1 := BC12.out.c1
    have b0 := BD12.out.c0
    have b1 := BD12.out.c1
    go_upto_region 20 with (first | ((go_at_call 12; (with_reducible refine (HM3.out _ _ _ (Kd.C_below BC12.out.cl (by repeat (first | (with_reducible exact Below.refl _ _) | (with_reducible refine below_alloc ?_ _) | (with_reducible refine below_drew1 ?_) | (with_reducible refine pw_below_drewN ?_ _) | (with_reducible exact Below.refl _ _) | (with_reducible exact BC12.out))))).mono ?_); rintro e w13 ⟨rfl, hb7⟩; have HB13 := Aside0.mk (below_step (show Below W12.heap.size W12 _ from (by repeat (first | (with_reducible exact Below.refl _ _) | (with_reducible refine below_alloc ?_ _) | (with_reducible refine below_drew1 ?_) | (with_reducible refine pw_below_drewN ?_ _) | (with_reducible exact Below.refl _ _) | (with_reducible exact BC12.out)))) hb7); clear hb7); have b2 := (BD12.out.step HB13.out).c0; have b3 := (BD12.out.step HB13.out).c1) | (go_at_call 12; (with_reducible refine (HM4.out _ _ _ (Kd.C_below BD12.out.cl (by repeat (first | (with_reducible exact Below.refl _ _) | (with_reducible refine below_alloc ?_ _) | (with_reducible refine below_drew1 ?_) | (with_reducible refine pw_below_drewN ?_ _) | (with_reducible exact Below.refl _ _) | (with_reducible exact HB13.out))))).mono ?_); rintro e w14 ⟨rfl, hb7⟩; have HB14 := Aside0.mk (below_step (show Below W12.heap.size W12 _ from (by repeat (first | (with_reducible exact Below.refl _ _) | (with_reducible refine below_alloc ?_ _) | (with_reducible refine below_drew1 ?_) | (with_reducible refine pw_below_drewN ?_ _) | (with_reducible exact Below.refl _ _) | (with_reducible exact HB13.out)))) hb7); clear hb7) | fail)
    have S14 := Aside0.mk (S12.out.step HB14.out)
    have BA14 := Aside0.mk (BA12.out.step HB14.out)
    have BC14 := Aside0.mk (BC12.out.step HB14.out)
    have BD14 := Aside0.mk (BD12.out.step HB14.out)
    clear a0 a1 b0 b1 b2 b3
    have x0 := S14.out.hx.c0
    have y0 := S14.out.hy.c0
    obtain ⟨fc, fd⟩ := HFF.out
    by_cases hk : x.k = y.k
    · have q1 : (x.k != y.k) = false := bne_f hk
      rw [ins_same hk] at fc
      obtain ⟨N, hN⟩ : ∃ N, N = (ins l y).length := ⟨_, rfl⟩
      have HLA := Aside0.mk (listC (n := N) hfa.tr (by rw [hN, ins_same_len hk]))
      have HLC := Aside0.mk (listC (n := N) fc.tr hN.symm)
      have HGE := Aside0.mk (show ∀ (B : Option Addr) (cb : Nat) (W : World), kCl.C W B c'.c.length c'.c → Calls Try.prog 25 #[.agg #[.slice B c'.c.length cb, .int .i64 c'.keep], .int .i64 r, .int .i64 y.k] W fun e w' => e = .returned (.tuple #[.int .i64 y.v, .int .i64 0]) ∧ Below W.heap.size W w' from fun B cb W hcl => by
        have := get07_walk 21 B cb c' r y.k (ins l y) W hcl fc.tr.list
        rw [getL_ins, if_pos rfl] at this
        exact this)
      clear hk hN fc fd hfa
      have a0 := BC14.out.c0
      have a1 := BC14.out.c1
      go_upto_region 23 with (first | (go_at_call 25; (with_reducible refine (HGE.out _ _ _ (Kd.C_below BC14.out.cl (by repeat (first | (with_reducible exact Below.refl _ _) | (with_reducible refine below_alloc ?_ _) | (with_reducible refine below_drew1 ?_) | (with_reducible refine pw_below_drewN ?_ _) | (with_reducible exact Below.refl _ _))))).mono ?_); rintro e w15 ⟨rfl, hb15⟩; have HB15 := Aside0.mk hb15; clear hb15) | fail)
      have S15 := Aside0.mk (S14.out.step HB15.out)
      have BA15 := Aside0.mk (BA14.out.step HB15.out)
      have BC15 := Aside0.mk (BC14.out.step HB15.out)
      clear a0 a1 x0 y0
      have y1 := S15.out.hy.c1
      have a0 := BC15.out.c0
      have a1 := BC15.out.c1
      have b0 := BA15.out.c0
      have b1 := BA15.out.c1
      go_region_held3 (fun w' => w'.cell? ⟨s9, 0, none⟩ = some (.slice E3 c'.c.length k3) ∧ w'.cell? ⟨s9, 1, none⟩ = some (.int .i64 c'.keep) ∧ w'.cell? ⟨s3, 0, none⟩ = some (.slice E1 a.c.length k1) ∧ w'.cell? ⟨s3, 1, none⟩ = some (.int .i64 a.keep) ∧ w'.cell? ⟨w.heap.size + 1 + 1 + 1, 1, none⟩ = some (.int .i64 y.v)) (first | exact ⟨a0, a1, b0, b1, y1⟩ | exact (fun (H : Below w15.heap.size w15 _) => ⟨(BC15.out.step H).c0, (BC15.out.step H).c1, (BA15.out.step H).c0, (BA15.out.step H).c1, (S15.out.step H).hy.c1⟩) (by repeat (first | (with_reducible exact Below.refl _ _) | (with_reducible refine below_alloc ?_ _) | (with_reducible refine below_drew1 ?_) | (with_reducible refine pw_below_drewN ?_ _) | (with_reducible exact HI4.out) | (with_reducible exact HI3.out)))) (first | (go_at_call 24; (with_reducible refine (HLC.out _ _ _ (Kd.C_below BC15.out.cl (by repeat (first | (with_reducible exact Below.refl _ _) | (with_reducible refine below_alloc ?_ _) | (with_reducible refine below_drew1 ?_) | (with_reducible refine pw_below_drewN ?_ _) | (with_reducible exact Below.refl _ _))))).mono ?_); rintro e w16 ⟨D6, d6, rfl, hd6, hr6, hb6⟩; have HI3 := Aside0.mk (below_step (show Below w15.heap.size w15 _ from (by repeat (first | (with_reducible exact Below.refl _ _) | (with_reducible refine below_alloc ?_ _) | (with_reducible refine below_drew1 ?_) | (with_reducible refine pw_below_drewN ?_ _) | (with_reducible exact Below.refl _ _)))) hb6); clear hd6 hr6 hb6) | (go_at_call 24; (with_reducible refine (HLA.out _ _ _ (Kd.C_below BA15.out.cl (by repeat (first | (with_reducible exact Below.refl _ _) | (with_reducible refine below_alloc ?_ _) | (with_reducible refine below_drew1 ?_) | (with_reducible refine pw_below_drewN ?_ _) | (with_reducible exact HI3.out))))).mono ?_); rintro e w17 ⟨D7, d7, rfl, hd7, hr7, hb7⟩; have HI4 := Aside0.mk (below_step (show Below w15.heap.size w15 _ from (by repeat (first | (with_reducible exact Below.refl _ _) | (with_reducible refine below_alloc ?_ _) | (with_reducible refine below_drew1 ?_) | (with_reducible refine pw_below_drewN ?_ _) | (with_reducible exact HI3.out)))) hb7); clear hd7 hr7 hb7) | fail)
      all_goals (go_wp2; go_ret; exact ⟨rfl, below_step S15.out.b0 HI4.out⟩)
    · have q1 : (x.k != y.k) = true := bne_t hk
      rw [← ins_comm hk] at fd
      obtain ⟨L, hL⟩ : ∃ L, L = ins (ins l x) y := ⟨_, rfl⟩
      rw [← hL] at fc fd
      obtain ⟨N, hN⟩ : ∃ N, N = L.length := ⟨_, rfl⟩
      have HLC := Aside0.mk (listC (n := N) fc.tr hN.symm)
      have HLD := Aside0.mk (listC (n := N) fd.tr hN.symm)
      have HIT := Aside0.mk (show ∀ (D E : Option Addr) (m n : Nat) (W : World), kIt.C W D N L → kIt.C W E N L → Calls Try.prog 23 #[.slice D N m, .slice E N n] W fun e w' => e = .returned (.bool true) ∧ Below W.heap.size W w' from fun D E m n W h1 h2 => by
        subst hN
        have := items_walk D E m n L L W h1 h2
        rw [decide_eq_true rfl] at this
        exact this)
      clear hk hN hL fc fd hfa
      have a0 := BC14.out.c0
      have a1 := BC14.out.c1
      have b0 := BD14.out.c0
      have b1 := BD14.out.c1
      go_upto_region 21 with fail
      go_region_held3 (fun w' => w'.cell? ⟨s9, 0, none⟩ = some (.slice E3 c'.c.length k3) ∧ w'.cell? ⟨s9, 1, none⟩ = some (.int .i64 c'.keep) ∧ w'.cell? ⟨s11, 0, none⟩ = some (.slice E4 d'.c.length k4) ∧ w'.cell? ⟨s11, 1, none⟩ = some (.int .i64 d'.keep)) (first | exact ⟨a0, a1, b0, b1⟩ | exact (fun (H : Below w14.heap.size w14 _) => ⟨(BC14.out.step H).c0, (BC14.out.step H).c1, (BD14.out.step H).c0, (BD14.out.step H).c1⟩) (by repeat (first | (with_reducible exact Below.refl _ _) | (with_reducible refine below_alloc ?_ _) | (with_reducible refine below_drew1 ?_) | (with_reducible refine pw_below_drewN ?_ _) | (with_reducible exact HI5.out) | (with_reducible exact HI4.out) | (with_reducible exact HI3.out)))) (first | (go_at_call 24; (with_reducible refine (HLC.out _ _ _ (Kd.C_below BC14.out.cl (by repeat (first | (with_reducible exact Below.refl _ _) | (with_reducible refine below_alloc ?_ _) | (with_reducible refine below_drew1 ?_) | (with_reducible refine pw_below_drewN ?_ _) | (with_reducible exact Below.refl _ _))))).mono ?_); rintro e w16 ⟨D6, d6, rfl, hd6, hr6, hb6⟩; have HR6 := Aside0.mk hr6; have HI3 := Aside0.mk (below_step (show Below w14.heap.size w14 _ from (by repeat (first | (with_reducible exact Below.refl _ _) | (with_reducible refine below_alloc ?_ _) | (with_reducible refine below_drew1 ?_) | (with_reducible refine pw_below_drewN ?_ _) | (with_reducible exact Below.refl _ _)))) hb6); clear hd6 hr6 hb6) | (go_at_call 24; (with_reducible refine (HLD.out _ _ _ (Kd.C_below BD14.out.cl (by repeat (first | (with_reducible exact Below.refl _ _) | (with_reducible refine below_alloc ?_ _) | (with_reducible refine below_drew1 ?_) | (with_reducible refine pw_below_drewN ?_ _) | (with_reducible exact HI3.out))))).mono ?_); rintro e w17 ⟨D7, d7, rfl, hd7, hr7, hb7⟩; have HR7 := Aside0.mk hr7; have HI4 := Aside0.mk (below_step (show Below w14.heap.size w14 _ from (by repeat (first | (with_reducible exact Below.refl _ _) | (with_reducible refine below_alloc ?_ _) | (with_reducible refine below_drew1 ?_) | (with_reducible refine pw_below_drewN ?_ _) | (with_reducible exact HI3.out)))) hb7); have HR67 := Aside0.mk (Kd.C_below HR6.out (below_step (show Below w16.heap.size w16 _ from (by repeat (first | (with_reducible exact Below.refl _ _) | (with_reducible refine below_alloc ?_ _) | (with_reducible refine below_drew1 ?_) | (with_reducible refine pw_below_drewN ?_ _) | (with_reducible exact Below.refl _ _)))) hb7)); clear hd7 hr7 hb7) | (go_at_call 23; (with_reducible refine (HIT.out _ _ _ _ _ (Kd.C_below HR67.out (by repeat (first | (with_reducible exact Below.refl _ _) | (with_reducible refine below_alloc ?_ _) | (with_reducible refine below_drew1 ?_) | (with_reducible refine pw_below_drewN ?_ _) | (with_reducible exact Below.refl _ _)))) (Kd.C_below HR7.out (by repeat (first | (with_reducible exact Below.refl _ _) | (with_reducible refine below_alloc ?_ _) | (with_reducible refine below_drew1 ?_) | (with_reducible refine pw_below_drewN ?_ _) | (with_reducible exact Below.refl _ _))))).mono ?_); rintro e w18 ⟨rfl, hb8⟩; have HI5 := Aside0.mk (below_step (show Below w14.heap.size w14 _ from (by repeat (first | (with_reducible exact Below.refl _ _) | (with_reducible refine below_alloc ?_ _) | (with_reducible refine below_drew1 ?_) | (with_reducible refine pw_below_drewN ?_ _) | (with_reducible exact HI4.out)))) hb8); clear hb8) | fail)
      all_goals (go_wp2; go_ret; exact ⟨rfl, below_step S14.out.b0 HI5.out⟩)
end Go.Proofs.Ytopkoganfnabgaa.H
namespace Go.Proofs.Ytopkoganfnabgaa.H
open Go.RowKit Go.Proofs.YtopkoganfnabgaaW.PrintWords Go.Proofs.YtopkoganfnabgaaW.PrintLast Go.Proofs.YtopkoganfnabgaaW.PrintMore
attribute [local go_sem] max2_int min2_int max_two min_two max_three min_three max_four min_four
set_option linter.unusedVariables false
set_option linter.unusedSimpArgs false
/-- What a value of type t reads as, as a Lean datum of the kind d. -/
def Rd {α : Type} (P : Program) (t : TypeId) (d : Kd α) (I : α → Prop) : Prop :=
  ∀ (H : Type) (enc : TypeId × Value → H) (w : World) (base : Nat) (spare : Nat → Bool) (held : Bool) (fuel : Nat) (cs : List Value) (x : DataW H × List MemPlace), DataW.trod enc P w base spare held fuel t cs = some x → ∃ a, d.K w a cs ∧ I a
theorem rd_choose {α : Type} (n : Nat) (Q : Nat → α → Prop) (h : ∀ i, i < n → ∃ a, Q i a) : ∃ l : List α, l.length = n ∧ ∀ i a, l[i]? = some a → Q i a := by
  induction n with
  | zero => exact ⟨[], rfl, fun i a e => by simp at e⟩
  | succ n ih =>
    obtain ⟨l, hl, hq⟩ := ih (fun i hi => h i (by omega))
    obtain ⟨a, ha⟩ := h n (by omega)
    refine ⟨l ++ [a], by simp [hl], fun i b e => ?_⟩
    by_cases hi : i < l.length
    · rw [List.getElem?_append_left hi] at e; exact hq i b e
    · rw [List.getElem?_append_right (by omega)] at e
      have : i - l.length = 0 := by
        rcases Nat.eq_zero_or_pos (i - l.length) with h | h
        · exact h
        · rw [List.getElem?_eq_none (by simp; omega)] at e; cases e
      rw [this] at e
      have hin : i = n := by omega
      subst hin
      simp at e
      rw [← e]; exact ha
theorem mapM_get {α β : Type} (f : α → Option β) : ∀ (l : List α) (cs : List β), l.mapM f = some cs → ∀ (i : Nat) (a : α), l[i]? = some a → f a = cs[i]?
  | [], cs, h, i, a, e => by simp at e
  | x :: l, cs, h, i, a, e => by
    rw [List.mapM_cons] at h
    simp only [Option.bind_eq_bind, Option.bind_eq_some_iff, Option.pure_def, Option.some.injEq] at h
    obtain ⟨b, hb, bs, hbs, rfl⟩ := h
    cases i with
    | zero => simp at e; subst e; simpa using hb
    | succ i => simpa using mapM_get f l bs hbs i a (by simpa using e)
theorem cells_get {w : World} {base n : Nat} {a : Addr} {cs : List Value} (h : w.cells? base a n = some cs) : cs.length = n ∧ ∀ i, i < n → w.cell? (a.add i) = cs[i]? := by
  unfold World.cells? at h
  split at h
  · have h2 := mapM_get _ _ _ h
    refine ⟨?_, fun i hi => h2 i i (by simp [hi])⟩
    have e := congrArg (Option.map List.length) h
    have : ∀ (l : List Nat) (bs : List Value), (l.mapM fun i => w.cell? (a.add i)) = some bs → bs.length = l.length := by
      intro l
      induction l with
      | nil => intro bs hb; simp at hb; subst hb; rfl
      | cons y l ih =>
        intro bs hb
        rw [List.mapM_cons] at hb
        simp only [Option.bind_eq_bind, Option.bind_eq_some_iff, Option.pure_def, Option.some.injEq] at hb
        obtain ⟨b, _, bs', hbs, rfl⟩ := hb
        simp [ih bs' hbs]
    simpa using this _ _ h
  · cases h
theorem rd_slice {α : Type} {P : Program} {t e : TypeId} {d : Kd α} {I : α → Prop} (ht : P.underlying t = some (.slice e)) (hc : P.cellsOf e = d.sz) (he : Rd P e d I) : Rd P t (Kd.slice e d) (fun xs => ∀ x ∈ xs, I x) := by
  intro H enc w base spare held fuel cs x h
  rcases DataW.trod_slice ht h with ⟨rfl, _⟩ | ⟨a, len, cap, elems, rest, n, _, rfl, _, _, hl, hm, hlen, hel, _, _⟩
  · exact ⟨[], ⟨none, 0, rfl, Nat.le_refl _, rfl, by simp, fun h => absurd h (by simp)⟩, fun _ hx => absurd hx (by simp)⟩
  · obtain ⟨xs, hxl, hxs⟩ := rd_choose len (fun i y => (∃ c, c.length = d.sz ∧ d.K w y c ∧ ∀ j u, c[j]? = some u → w.cell? (a.add (i * d.sz + j)) = some u) ∧ I y) (fun i hi => by
      have h1 := hel i hi
      rw [List.getElem?_eq_getElem (by omega), Option.bind_eq_some_iff, hc] at h1
      obtain ⟨c, h2, h3⟩ := h1
      obtain ⟨y, hk, hI⟩ := he H enc w base spare held n c _ h3
      obtain ⟨c1, c2⟩ := cells_get h2
      refine ⟨y, ⟨c, c1, hk, fun j u hu => ?_⟩, hI⟩
      have hj : j < c.length := (List.getElem?_eq_some_iff.1 hu).1
      have := c2 j (by omega)
      rw [hu] at this
      rw [← this, Addr.add_add])
    refine ⟨xs, ⟨some a, cap, by rw [hxl], by omega, rfl, by unfold maxLen at hm; omega, fun _ => ⟨a, rfl, fun j p hp => (hxs j p hp).1⟩⟩, fun x hx => ?_⟩
    obtain ⟨i, hi, rfl⟩ := List.getElem_of_mem hx
    exact (hxs i _ (List.getElem?_eq_getElem hi)).2
theorem cons_of {α : Type} {l : List α} {n : Nat} (h : l.length = n + 1) : ∃ a t, l = a :: t ∧ t.length = n := by
  cases l with
  | nil => simp at h
  | cons a t => exact ⟨a, t, rfl, by simpa using h⟩
theorem field {H : Type} {enc : TypeId × Value → H} {P : Program} {w : World} {base : Nat} {spare : Nat → Bool} {held : Bool} {n : Nat} {t : TypeId} {cs : List Value} {xs : List (DataW H × List MemPlace)} {j : Nat}
    (h : DataW.trod enc P w base spare held n t cs = xs[j]?) (hj : j < xs.length) : DataW.trod enc P w base spare held n t cs = some xs[j] := by rw [h, List.getElem?_eq_getElem hj]
def kHp : Kd Hp := (Kd.pair (Kd.slice 79 kCl) (Kd.int .i64)).iso (fun h => (h.c, h.keep))
theorem rd_item : Rd Try.prog 26 kIt (fun _ => True) := by
  intro H enc w base spare held fuel cs x h
  obtain ⟨xs, n, rfl, rfl, hl, hx, hf⟩ := DataW.trod_struct Try.underlying26 h
  rw [show Try.prog.cellsOf 26 = 2 by kernel_rfl] at hl
  have hxl : xs.length = 2 := hx
  obtain ⟨z0, y0, rfl, hl0⟩ := cons_of hl
  obtain ⟨z1, y1, rfl, hl1⟩ := cons_of hl0
  obtain rfl := List.eq_nil_of_length_eq_zero hl1
  have g0 : DataW.trod enc Try.prog w base spare held n 3 (([z0, z1].drop 0).take (Try.prog.cellsOf 3)) = some xs[0] := field (hf 0 _ rfl) (by omega)
  rw [show Try.prog.cellsOf 3 = 1 by kernel_rfl] at g0
  replace g0 : DataW.trod enc Try.prog w base spare held n 3 [z0] = some xs[0] := g0
  have g1 : DataW.trod enc Try.prog w base spare held n 3 (([z0, z1].drop 1).take (Try.prog.cellsOf 3)) = some xs[1] := field (hf 1 _ rfl) (by omega)
  rw [show Try.prog.cellsOf 3 = 1 by kernel_rfl] at g1
  replace g1 : DataW.trod enc Try.prog w base spare held n 3 [z1] = some xs[1] := g1
  obtain ⟨a, e0, _, i0⟩ := DataW.trod_int Try.underlying3 g0
  obtain rfl := (List.cons.inj e0).1
  obtain ⟨b, e1, _, i1⟩ := DataW.trod_int Try.underlying3 g1
  obtain rfl := (List.cons.inj e1).1
  exact ⟨⟨a, b⟩, ⟨[.int .i64 a], [.int .i64 b], rfl, rfl, rfl⟩, trivial⟩
theorem rd_items : Rd Try.prog 27 (Kd.slice 26 kIt) (fun xs => ∀ x ∈ xs, True) := rd_slice Try.underlying27 (by kernel_rfl) rd_item
theorem rd_node : Rd Try.prog 77 kNd (fun _ => True) := by
  intro H enc w base spare held fuel cs x h
  obtain ⟨xs, n, rfl, rfl, hl, hx, hf⟩ := DataW.trod_struct Try.underlying77 h
  rw [show Try.prog.cellsOf 77 = 2 by kernel_rfl] at hl
  have hxl : xs.length = 2 := hx
  obtain ⟨z0, y0, rfl, hl0⟩ := cons_of hl
  obtain ⟨z1, y1, rfl, hl1⟩ := cons_of hl0
  obtain rfl := List.eq_nil_of_length_eq_zero hl1
  have g0 : DataW.trod enc Try.prog w base spare held n 4 (([z0, z1].drop 0).take (Try.prog.cellsOf 4)) = some xs[0] := field (hf 0 _ rfl) (by omega)
  rw [show Try.prog.cellsOf 4 = 1 by kernel_rfl] at g0
  replace g0 : DataW.trod enc Try.prog w base spare held n 4 [z0] = some xs[0] := g0
  have g1 : DataW.trod enc Try.prog w base spare held n 27 (([z0, z1].drop 1).take (Try.prog.cellsOf 27)) = some xs[1] := field (hf 1 _ rfl) (by omega)
  rw [show Try.prog.cellsOf 27 = 1 by kernel_rfl] at g1
  replace g1 : DataW.trod enc Try.prog w base spare held n 27 [z1] = some xs[1] := g1
  obtain ⟨a, e0, _⟩ := DataW.trod_bool Try.underlying4 g0
  obtain rfl := (List.cons.inj e0).1
  obtain ⟨l, k1, _⟩ := rd_items H enc w base spare held n _ _ g1
  exact ⟨⟨a, l⟩, ⟨[.bool a], [z1], rfl, rfl, k1⟩, trivial⟩
theorem rd_cell : Rd Try.prog 79 kCl (fun _ => True) := by
  intro H enc w base spare held fuel cs x h
  obtain ⟨xs, n, rfl, rfl, hl, hx, hf⟩ := DataW.trod_struct Try.underlying79 h
  rw [show Try.prog.cellsOf 79 = 4 by kernel_rfl] at hl
  have hxl : xs.length = 3 := hx
  obtain ⟨z0, y0, rfl, hl0⟩ := cons_of hl
  obtain ⟨z1, y1, rfl, hl1⟩ := cons_of hl0
  obtain ⟨z2, y2, rfl, hl2⟩ := cons_of hl1
  obtain ⟨z3, y3, rfl, hl3⟩ := cons_of hl2
  obtain rfl := List.eq_nil_of_length_eq_zero hl3
  have g0 : DataW.trod enc Try.prog w base spare held n 3 (([z0, z1, z2, z3].drop 0).take (Try.prog.cellsOf 3)) = some xs[0] := field (hf 0 _ rfl) (by omega)
  rw [show Try.prog.cellsOf 3 = 1 by kernel_rfl] at g0
  replace g0 : DataW.trod enc Try.prog w base spare held n 3 [z0] = some xs[0] := g0
  have g1 : DataW.trod enc Try.prog w base spare held n 4 (([z0, z1, z2, z3].drop 1).take (Try.prog.cellsOf 4)) = some xs[1] := field (hf 1 _ rfl) (by omega)
  rw [show Try.prog.cellsOf 4 = 1 by kernel_rfl] at g1
  replace g1 : DataW.trod enc Try.prog w base spare held n 4 [z1] = some xs[1] := g1
  have g2 : DataW.trod enc Try.prog w base spare held n 77 (([z0, z1, z2, z3].drop 2).take (Try.prog.cellsOf 77)) = some xs[2] := field (hf 2 _ rfl) (by omega)
  rw [show Try.prog.cellsOf 77 = 2 by kernel_rfl] at g2
  replace g2 : DataW.trod enc Try.prog w base spare held n 77 [z2, z3] = some xs[2] := g2
  obtain ⟨a, e0, _, i0⟩ := DataW.trod_int Try.underlying3 g0
  obtain rfl := (List.cons.inj e0).1
  obtain ⟨b, e1, _⟩ := DataW.trod_bool Try.underlying4 g1
  obtain rfl := (List.cons.inj e1).1
  obtain ⟨n', k2, _⟩ := rd_node H enc w base spare held n _ _ g2
  exact ⟨⟨a, b, n'⟩, ⟨[.int .i64 a], [.bool b, z2, z3], rfl, rfl, [.bool b], [z2, z3], rfl, rfl, k2⟩, trivial⟩
theorem rd_cells : Rd Try.prog 22 (Kd.slice 79 kCl) (fun xs => ∀ x ∈ xs, True) := rd_slice Try.underlying22 (by kernel_rfl) rd_cell
theorem rd_heap : Rd Try.prog 24 kHp (fun _ => True) := by
  intro H enc w base spare held fuel cs x h
  obtain ⟨xs, n, rfl, rfl, hl, hx, hf⟩ := DataW.trod_struct Try.underlying24 h
  rw [show Try.prog.cellsOf 24 = 2 by kernel_rfl] at hl
  have hxl : xs.length = 2 := hx
  obtain ⟨z0, y0, rfl, hl0⟩ := cons_of hl
  obtain ⟨z1, y1, rfl, hl1⟩ := cons_of hl0
  obtain rfl := List.eq_nil_of_length_eq_zero hl1
  have g0 : DataW.trod enc Try.prog w base spare held n 22 (([z0, z1].drop 0).take (Try.prog.cellsOf 22)) = some xs[0] := field (hf 0 _ rfl) (by omega)
  rw [show Try.prog.cellsOf 22 = 1 by kernel_rfl] at g0
  replace g0 : DataW.trod enc Try.prog w base spare held n 22 [z0] = some xs[0] := g0
  have g1 : DataW.trod enc Try.prog w base spare held n 3 (([z0, z1].drop 1).take (Try.prog.cellsOf 3)) = some xs[1] := field (hf 1 _ rfl) (by omega)
  rw [show Try.prog.cellsOf 3 = 1 by kernel_rfl] at g1
  replace g1 : DataW.trod enc Try.prog w base spare held n 3 [z1] = some xs[1] := g1
  obtain ⟨l, k0, _⟩ := rd_cells H enc w base spare held n _ _ g0
  obtain ⟨a, e1, _, i1⟩ := DataW.trod_int Try.underlying3 g1
  obtain rfl := (List.cons.inj e1).1
  exact ⟨⟨l, a⟩, ⟨[z0], [.int .i64 a], rfl, k0, rfl⟩, trivial⟩
theorem rd_hp {H : Type} {enc : TypeId × Value → H} {w : World} {base : Nat} {spare : Nat → Bool} {held : Bool} {fuel : Nat} {cs : List Value} {x : DataW H × List MemPlace} (h : DataW.trod enc Try.prog w base spare held fuel 24 cs = some x) : ∃ (A : Option Addr) (c : Nat) (g : Hp), cs = [.slice A g.c.length c, .int .i64 g.keep] ∧ g.c.length ≤ c ∧ kCl.C w A g.c.length g.c := by
  obtain ⟨g, ⟨c0, c1, rfl, ⟨A, c, rfl, h1, h2⟩, rfl⟩, _⟩ := rd_heap H enc w base spare held fuel cs x h
  exact ⟨A, c, g, rfl, h1, h2⟩
theorem rd_it {H : Type} {enc : TypeId × Value → H} {w : World} {base : Nat} {spare : Nat → Bool} {held : Bool} {fuel : Nat} {cs : List Value} {x : DataW H × List MemPlace} (h : DataW.trod enc Try.prog w base spare held fuel 26 cs = some x) : ∃ y : It, cs = [.int .i64 y.k, .int .i64 y.v] := by
  obtain ⟨y, ⟨c0, c1, rfl, rfl, rfl⟩, _⟩ := rd_item H enc w base spare held fuel cs x h
  exact ⟨y, rfl⟩
theorem rd_twice {H : Type} {enc : TypeId × Value → H} {w : World} {base : Nat} {spare : Nat → Bool} {held : Bool} {fuel : Nat} {cs : List Value} {x : DataW H × List MemPlace} (h : DataW.trod enc Try.prog w base spare held fuel 51 cs = some x) : ∃ (A : Option Addr) (c : Nat) (g : Hp) (r : Int) (y u : It), cs = [.slice A g.c.length c, .int .i64 g.keep, .int .i64 r, .int .i64 y.k, .int .i64 y.v, .int .i64 u.k, .int .i64 u.v] ∧ g.c.length ≤ c ∧ kCl.C w A g.c.length g.c := by
  obtain ⟨xs, n, rfl, rfl, hl, hx, hf⟩ := DataW.trod_struct Try.underlying51 h
  rw [show Try.prog.cellsOf 51 = 7 by kernel_rfl] at hl
  have hxl : xs.length = 4 := hx
  obtain ⟨z0, y0, rfl, hl0⟩ := cons_of hl
  obtain ⟨z1, y1, rfl, hl1⟩ := cons_of hl0
  obtain ⟨z2, y2, rfl, hl2⟩ := cons_of hl1
  obtain ⟨z3, y3, rfl, hl3⟩ := cons_of hl2
  obtain ⟨z4, y4, rfl, hl4⟩ := cons_of hl3
  obtain ⟨z5, y5, rfl, hl5⟩ := cons_of hl4
  obtain ⟨z6, y6, rfl, hl6⟩ := cons_of hl5
  obtain rfl := List.eq_nil_of_length_eq_zero hl6
  have g0 : DataW.trod enc Try.prog w base spare held n 24 (([z0, z1, z2, z3, z4, z5, z6].drop 0).take (Try.prog.cellsOf 24)) = some xs[0] := field (hf 0 _ rfl) (by omega)
  rw [show Try.prog.cellsOf 24 = 2 by kernel_rfl] at g0
  replace g0 : DataW.trod enc Try.prog w base spare held n 24 [z0, z1] = some xs[0] := g0
  have g1 : DataW.trod enc Try.prog w base spare held n 3 (([z0, z1, z2, z3, z4, z5, z6].drop 2).take (Try.prog.cellsOf 3)) = some xs[1] := field (hf 1 _ rfl) (by omega)
  rw [show Try.prog.cellsOf 3 = 1 by kernel_rfl] at g1
  replace g1 : DataW.trod enc Try.prog w base spare held n 3 [z2] = some xs[1] := g1
  have g2 : DataW.trod enc Try.prog w base spare held n 26 (([z0, z1, z2, z3, z4, z5, z6].drop 3).take (Try.prog.cellsOf 26)) = some xs[2] := field (hf 2 _ rfl) (by omega)
  rw [show Try.prog.cellsOf 26 = 2 by kernel_rfl] at g2
  replace g2 : DataW.trod enc Try.prog w base spare held n 26 [z3, z4] = some xs[2] := g2
  have g3 : DataW.trod enc Try.prog w base spare held n 26 (([z0, z1, z2, z3, z4, z5, z6].drop 5).take (Try.prog.cellsOf 26)) = some xs[3] := field (hf 3 _ rfl) (by omega)
  rw [show Try.prog.cellsOf 26 = 2 by kernel_rfl] at g3
  replace g3 : DataW.trod enc Try.prog w base spare held n 26 [z5, z6] = some xs[3] := g3
  obtain ⟨A, c, g, e0, hc, hr⟩ := rd_hp g0
  simp only [List.cons.injEq, and_true] at e0
  obtain ⟨rfl, rfl⟩ := e0
  obtain ⟨r, e1, _, i1⟩ := DataW.trod_int Try.underlying3 g1
  obtain rfl := (List.cons.inj e1).1
  obtain ⟨y, e2⟩ := rd_it g2
  simp only [List.cons.injEq, and_true] at e2
  obtain ⟨rfl, rfl⟩ := e2
  obtain ⟨u, e3⟩ := rd_it g3
  simp only [List.cons.injEq, and_true] at e3
  obtain ⟨rfl, rfl⟩ := e3
  exact ⟨A, c, g, r, y, u, rfl, hc, hr⟩
end Go.Proofs.Ytopkoganfnabgaa.H
