import Derived.Test.YtodejilhgpejnaaGreatG4
namespace Go.Proofs.YtodejilhgpejnaaGreat.Q
open Go.RowKit Go.Proofs.YtodejilhgpejnaaGreatW.PrintWords Go.Proofs.YtodejilhgpejnaaGreatW.PrintLast Go.Proofs.YtodejilhgpejnaaGreatW.PrintMore
attribute [local go_sem] max2_int min2_int max_two min_two max_three min_three max_four min_four
set_option linter.unusedVariables false
set_option linter.unusedSimpArgs false
theorem law_a (blocks keep : Int) (w : World) (h : 200 < blocks) : Calls Tryz.prog 3 #[.int .i64 blocks, .int .i64 keep] w fun e w' => e = .returned (.bool true) ∧ Below w.heap.size w w' := by
  have HS := Aside0.mk shown15_walk
  have q1 : decide (200 < blocks) = true := decide_eq_true h
  clear h
  go_enter Tryz.func3, Tryz.ntmps3
  go_wp2_with (first | (go_at_call 4; (with_reducible refine (HS.out _).mono ?_); rintro e w2 ⟨rfl, hb⟩; have HB := Aside0.mk hb; clear hb) | fail)
  go_ret
  exact ⟨rfl, HB.out⟩
structure LwSt (W : World) (db sb db' sb' N : Nat) (D D' : Option Addr) (m m' : Nat) (l : List ByteArray) (B B' : Option Addr) (n : Nat) (keep : Nat) : Prop where
  hd : W.heap[db]? = some (.cells #[.slice D N m, .slice none 0 0] 26 (0, 0))
  hs : W.heap[sb]? = some (.cells (stW B n n keep 1 1) 33 (0, 0))
  hd' : W.heap[db']? = some (.cells #[.slice D' N m', .slice none 0 0] 26 (0, 0))
  hs' : W.heap[sb']? = some (.cells (stW B' n n keep 1 1) 33 (0, 0))
  str : Kd.C Kd.string W D N l
  str' : Kd.C Kd.string W D' N l
  zc : ZC W B n
  zc' : ZC W B' n
theorem LwSt.step {W W' : World} {db sb db' sb' N : Nat} {D D' : Option Addr} {m m' : Nat} {l : List ByteArray} {B B' : Option Addr} {n : Nat} {keep : Nat} (s : LwSt W db sb db' sb' N D D' m m' l B B' n keep) (hb : Below W.heap.size W W') : LwSt W' db sb db' sb' N D D' m m' l B B' n keep :=
  ⟨blk_below s.hd hb, blk_below s.hs hb, blk_below s.hd' hb, blk_below s.hs' hb, Kd.C_below s.str hb, Kd.C_below s.str' hb, ZC_below s.zc hb, ZC_below s.zc' hb⟩
set_option maxHeartbeats 8000000 in
set_option maxRecDepth 100000 in
theorem law_b (N keep n : Nat) (w : World) (h1 : 1 ≤ N) (h2 : N ≤ 200) (hn : cellsF N = n) (h0 : 1 ≤ n) (hk : keep ≤ n) : Calls Tryz.prog 3 #[.int .i64 N, .int .i64 keep] w fun e w' => e = .returned (.bool true) ∧ Below w.heap.size w w' := by
  have HS := Aside0.mk shown15_walk
  have HF := Aside0.mk (fun W => format_walk N keep n W h1 h2 hn h0 hk)
  have HG := Aside0.mk (fun W => rformat_walk N keep n W h1 h2 hn h0 hk)
  have HCE := Aside0.mk (show ∀ W, Calls Tryz.prog 10 #[.int .i64 N] W fun e w' => e = .returned (.int .i64 (n : Nat)) ∧ W = w' from fun W => hn ▸ refCells_walk N W (by omega))
  have HN := Aside0.mk (show 1 ≤ N ∧ N ≤ 200 ∧ n ≤ 2000 from ⟨h1, h2, by rw [← hn]; exact (cells_spec N).1⟩)
  have q1 : decide (200 < N) = false := decide_eq_false (by omega)
  have q2 : decide ((200 : Int) < (N : Int)) = false := decide_eq_false (by omega)
  clear h1 h2 hn h0 hk
  go_enter Tryz.func3, Tryz.ntmps3
  go_upto_region 5 with (first | (go_at_call 4; (with_reducible refine (HS.out _).mono ?_); rintro e w1 ⟨rfl, hb⟩; have HB1 := Aside0.mk hb; clear hb) | (go_at_call 5; (with_reducible refine (HF.out _).mono ?_); rintro e w2 ⟨D, m, B, rfl, hm, hC, hz, hb⟩; have H2 := Aside0.mk (And.intro hC hz); have HB2 := Aside0.mk (below_step HB1.out hb); clear hm hC hz hb) | fail)
  obtain ⟨W3, hW3⟩ : ∃ W3, W3 = (w2.alloc (.cells #[.slice D N m, .slice none 0 0] 26)).alloc (.cells #[.slice B n n, .int .i64 keep, .slice none 0 0, .slice none 0 0, .int .i64 1, .int .i64 1] 33) := ⟨_, rfl⟩
  obtain ⟨db, hdb⟩ : ∃ db, db = w2.heap.size := ⟨_, rfl⟩
  obtain ⟨sb, hsb⟩ : ∃ sb, sb = w2.heap.size + 1 := ⟨_, rfl⟩
  have hb3 : Below w2.heap.size w2 W3 := by rw [hW3]; exact below_alloc (below_alloc (Below.refl _ _) _) _
  have HD3 := Aside0.mk (show W3.heap[db]? = some (.cells #[.slice D N m, .slice none 0 0] 26 (0, 0)) by rw [hW3, hdb]; exact blk_alloc (blk_new _ _) _)
  have HS3 := Aside0.mk (show W3.heap[sb]? = some (.cells (stW B n n keep 1 1) 33 (0, 0)) by rw [hW3, hsb]; exact blk2 w2 _ _)
  have HR3 := Aside0.mk (And.intro (Kd.C_below H2.out.1 hb3) (ZC_below H2.out.2 hb3))
  have HB3 := Aside0.mk (below_step HB2.out hb3)
  rw [← hW3, ← hsb, ← hdb]
  clear hW3 hdb hsb hb3 H2 HS HF
  go_upto_region 6 with (first | (go_at_call 6; (with_reducible refine (HG.out _).mono ?_); rintro e w4 ⟨D', m', B', rfl, hm, hC, hz, hb⟩; have H4 := Aside0.mk (And.intro hC (And.intro hz hb)); clear hm hC hz hb) | fail)
  obtain ⟨W5, hW5⟩ : ∃ W5, W5 = (w4.alloc (.cells #[.slice D' N m', .slice none 0 0] 26)).alloc (.cells #[.slice B' n n, .int .i64 keep, .slice none 0 0, .slice none 0 0, .int .i64 1, .int .i64 1] 33) := ⟨_, rfl⟩
  obtain ⟨db', hdb⟩ : ∃ db, db = w4.heap.size := ⟨_, rfl⟩
  obtain ⟨sb', hsb⟩ : ∃ sb, sb = w4.heap.size + 1 := ⟨_, rfl⟩
  have hb5 : Below w4.heap.size w4 W5 := by rw [hW5]; exact below_alloc (below_alloc (Below.refl _ _) _) _
  have S5 := Aside0.mk (show LwSt W5 db sb db' sb' N D D' m m' (fmtL N keep n) B B' n keep from
    ⟨blk_below (blk_below HD3.out H4.out.2.2) hb5, blk_below (blk_below HS3.out H4.out.2.2) hb5, by rw [hW5, hdb]; exact blk_alloc (blk_new _ _) _, by rw [hW5, hsb]; exact blk2 w4 _ _, Kd.C_below (Kd.C_below HR3.out.1 H4.out.2.2) hb5, Kd.C_below H4.out.1 hb5, ZC_below (ZC_below HR3.out.2 H4.out.2.2) hb5, ZC_below H4.out.2.1 hb5⟩)
  have HB5 := Aside0.mk (below_step (below_step HB3.out H4.out.2.2) hb5)
  rw [← hW5, ← hsb, ← hdb]
  clear hW5 hdb hsb hb5 H4 HG HD3 HS3 HR3
  (have xa := (blk_cell S5.out.hd 0).trans (show _ = some (Value.slice D N m) from rfl); have xb := (blk_cell S5.out.hd 1).trans (show _ = some (Value.slice none 0 0) from rfl))
  (have xc := (blk_cell S5.out.hs 0).trans (show _ = some (Value.slice B n n) from rfl); have xd := (blk_cell S5.out.hs 1).trans (show _ = some (Value.int .i64 keep) from rfl); have xe := (blk_cell S5.out.hs 2).trans (show _ = some (Value.slice none 0 0) from rfl); have xf := (blk_cell S5.out.hs 3).trans (show _ = some (Value.slice none 0 0) from rfl); have xg := (blk_cell S5.out.hs 4).trans (show _ = some (Value.int .i64 1) from rfl); have xh := (blk_cell S5.out.hs 5).trans (show _ = some (Value.int .i64 1) from rfl))
  (have ya := (blk_cell S5.out.hd' 0).trans (show _ = some (Value.slice D' N m') from rfl); have yb := (blk_cell S5.out.hd' 1).trans (show _ = some (Value.slice none 0 0) from rfl))
  (have yc := (blk_cell S5.out.hs' 0).trans (show _ = some (Value.slice B' n n) from rfl); have yd := (blk_cell S5.out.hs' 1).trans (show _ = some (Value.int .i64 keep) from rfl); have ye := (blk_cell S5.out.hs' 2).trans (show _ = some (Value.slice none 0 0) from rfl); have yf := (blk_cell S5.out.hs' 3).trans (show _ = some (Value.slice none 0 0) from rfl); have yg := (blk_cell S5.out.hs' 4).trans (show _ = some (Value.int .i64 1) from rfl); have yh := (blk_cell S5.out.hs' 5).trans (show _ = some (Value.int .i64 1) from rfl))
  have HSD := Aside0.mk (sdisk_walk D N m D' m' (fmtL N keep n) W5 S5.out.str S5.out.str' (by have := HN.out; omega))
  have HSS := Aside0.mk (fun (W : World) (hb : Below W5.heap.size W5 W) => sstate_walk B n n B' n keep 1 1 W (ZC_below S5.out.zc hb) (ZC_below S5.out.zc' hb) HN.out.2.2)
  go_wp2_with (first | (go_at_call 7; (with_reducible refine HSD.out.mono ?_); rintro e w6 ⟨rfl, hb⟩; have S6 := Aside0.mk (S5.out.step hb); have HB6 := Aside0.mk hb; clear hb xa xb xc xd xe xf xg xh ya yb yc yd ye yf yg yh; (have xc := (blk_cell S6.out.hs 0).trans (show _ = some (Value.slice B n n) from rfl); have xd := (blk_cell S6.out.hs 1).trans (show _ = some (Value.int .i64 keep) from rfl); have xe := (blk_cell S6.out.hs 2).trans (show _ = some (Value.slice none 0 0) from rfl); have xf := (blk_cell S6.out.hs 3).trans (show _ = some (Value.slice none 0 0) from rfl); have xg := (blk_cell S6.out.hs 4).trans (show _ = some (Value.int .i64 1) from rfl); have xh := (blk_cell S6.out.hs 5).trans (show _ = some (Value.int .i64 1) from rfl)); (have yc := (blk_cell S6.out.hs' 0).trans (show _ = some (Value.slice B' n n) from rfl); have yd := (blk_cell S6.out.hs' 1).trans (show _ = some (Value.int .i64 keep) from rfl); have ye := (blk_cell S6.out.hs' 2).trans (show _ = some (Value.slice none 0 0) from rfl); have yf := (blk_cell S6.out.hs' 3).trans (show _ = some (Value.slice none 0 0) from rfl); have yg := (blk_cell S6.out.hs' 4).trans (show _ = some (Value.int .i64 1) from rfl); have yh := (blk_cell S6.out.hs' 5).trans (show _ = some (Value.int .i64 1) from rfl))) | (go_at_call 8; (with_reducible refine (HSS.out _ HB6.out).mono ?_); rintro e w7 ⟨rfl, hb⟩; have S7 := Aside0.mk (S6.out.step hb); have HB7 := Aside0.mk (below_step (below_step HB5.out HB6.out) hb); clear hb xc xd xe xf xg xh yc yd ye yf yg yh) | fail)
  (have xa := (blk_cell S7.out.hd 0).trans (show _ = some (Value.slice D N m) from rfl); have xb := (blk_cell S7.out.hd 1).trans (show _ = some (Value.slice none 0 0) from rfl))
  (have xc := (blk_cell S7.out.hs 0).trans (show _ = some (Value.slice B n n) from rfl); have xd := (blk_cell S7.out.hs 1).trans (show _ = some (Value.int .i64 keep) from rfl); have xe := (blk_cell S7.out.hs 2).trans (show _ = some (Value.slice none 0 0) from rfl); have xf := (blk_cell S7.out.hs 3).trans (show _ = some (Value.slice none 0 0) from rfl); have xg := (blk_cell S7.out.hs 4).trans (show _ = some (Value.int .i64 1) from rfl); have xh := (blk_cell S7.out.hs 5).trans (show _ = some (Value.int .i64 1) from rfl))
  have HRI := Aside0.mk (fun (W : World) (hb : Below w7.heap.size w7 W) => right_walk D N m (fmtL N keep n) W (Kd.C_below S7.out.str hb) HN.out.1 (by have := HN.out; omega) (fun k hk => fmt_size N keep n k hk))
  go_region_held3 (fun w' => w'.cell? ⟨db, 0, none⟩ = some (.slice D N m) ∧ w'.cell? ⟨db, 1, none⟩ = some (.slice none 0 0) ∧ w'.cell? ⟨sb, 0, none⟩ = some (.slice B n n) ∧ w'.cell? ⟨sb, 2, none⟩ = some (.slice none 0 0) ∧ w'.cell? ⟨sb, 3, none⟩ = some (.slice none 0 0) ∧ w'.cell? ⟨sb, 4, none⟩ = some (.int .i64 1) ∧ w'.cell? ⟨sb, 5, none⟩ = some (.int .i64 1)) (first | with_reducible exact ⟨xa, xb, xc, xe, xf, xg, xh⟩ | exact (fun (H : Below w7.heap.size w7 _) => ⟨bcell H xa, bcell H xb, bcell H xc, bcell H xe, bcell H xf, bcell H xg, bcell H xh⟩) (by repeat (first | (with_reducible exact Below.refl _ _) | (with_reducible refine below_alloc ?_ _) | (with_reducible refine below_drew1 ?_) | (with_reducible refine pw_below_drewN ?_ _) | (with_reducible exact HB8.out)))) (first | (go_at_call 9; (with_reducible refine (HRI.out _ (by repeat (first | (with_reducible exact Below.refl _ _) | (with_reducible refine below_alloc ?_ _) | (with_reducible refine below_drew1 ?_) | (with_reducible refine pw_below_drewN ?_ _) | (with_reducible exact Below.refl _ _)))).mono ?_); rintro e w8 ⟨rfl, hb⟩; have HB8 := Aside0.mk (show Below w7.heap.size w7 w8 from below_step (by repeat (first | (with_reducible exact Below.refl _ _) | (with_reducible refine below_alloc ?_ _) | (with_reducible refine below_drew1 ?_) | (with_reducible refine pw_below_drewN ?_ _) | (with_reducible exact Below.refl _ _))) hb); clear hb) | (go_at_call 10; (with_reducible refine (HCE.out _).mono ?_); rintro e w9 ⟨rfl, rfl⟩) | fail)
  all_goals
    go_wp2
    go_ret
    exact ⟨by first | rfl | simp, below_step HB7.out HB8.out⟩
end Go.Proofs.YtodejilhgpejnaaGreat.Q
namespace Go.Proofs.YtodejilhgpejnaaGreat.Q
open Go.RowKit Go.Proofs.YtodejilhgpejnaaGreatW.PrintWords Go.Proofs.YtodejilhgpejnaaGreatW.PrintLast Go.Proofs.YtodejilhgpejnaaGreatW.PrintMore
attribute [local go_sem] max2_int min2_int max_two min_two max_three min_three max_four min_four
set_option linter.unusedVariables false
set_option linter.unusedSimpArgs false
structure LzSt (W : World) (db sb db' sb' : Nat) : Prop where
  hd : W.heap[db]? = some (.cells #[.slice none 0 0, .slice none 0 0] 26 (0, 0))
  hs : W.heap[sb]? = some (.cells #[.slice none 0 0, .int .i64 0, .slice none 0 0, .slice none 0 0, .int .i64 0, .int .i64 0] 33 (0, 0))
  hd' : W.heap[db']? = some (.cells #[.slice none 0 0, .slice none 0 0] 26 (0, 0))
  hs' : W.heap[sb']? = some (.cells #[.slice none 0 0, .int .i64 0, .slice none 0 0, .slice none 0 0, .int .i64 0, .int .i64 0] 33 (0, 0))
theorem LzSt.step {W W' : World} {db sb db' sb' : Nat} (s : LzSt W db sb db' sb') (hb : Below W.heap.size W W') : LzSt W' db sb db' sb' := ⟨blk_below s.hd hb, blk_below s.hs hb, blk_below s.hd' hb, blk_below s.hs' hb⟩
set_option maxHeartbeats 8000000 in
set_option maxRecDepth 100000 in
theorem law_c (blocks keep : Int) (w : World) (hb : blocks ≤ 200) (h : blocks < 1 ∨ (cellsF blocks.toNat : Int) < 1 ∨ keep < 0 ∨ (cellsF blocks.toNat : Int) < keep) : Calls Tryz.prog 3 #[.int .i64 blocks, .int .i64 keep] w fun e w' => e = .returned (.bool true) ∧ Below w.heap.size w w' := by
  have HS := Aside0.mk shown15_walk
  have HF := Aside0.mk (fun W => formatNo_walk blocks keep W hb h)
  have HG := Aside0.mk (fun W => rformatNo_walk blocks keep W hb h)
  have q2 : decide ((200 : Int) < blocks) = false := decide_eq_false (by omega)
  clear hb h
  go_enter Tryz.func3, Tryz.ntmps3
  go_upto_region 5 with (first | (go_at_call 4; (with_reducible refine (HS.out _).mono ?_); rintro e w1 ⟨rfl, hb⟩; have HB1 := Aside0.mk hb; clear hb) | (go_at_call 5; (with_reducible refine (HF.out _).mono ?_); rintro e w2 ⟨rfl, hb⟩; have HB2 := Aside0.mk (below_step HB1.out hb); clear hb) | fail)
  obtain ⟨W3, hW3⟩ : ∃ W3, W3 = (w2.alloc (.cells #[.slice none 0 0, .slice none 0 0] 26)).alloc (.cells #[.slice none 0 0, .int .i64 0, .slice none 0 0, .slice none 0 0, .int .i64 0, .int .i64 0] 33) := ⟨_, rfl⟩
  obtain ⟨db, hdb⟩ : ∃ db, db = w2.heap.size := ⟨_, rfl⟩
  obtain ⟨sb, hsb⟩ : ∃ sb, sb = w2.heap.size + 1 := ⟨_, rfl⟩
  have hb3 : Below w2.heap.size w2 W3 := by rw [hW3]; exact below_alloc (below_alloc (Below.refl _ _) _) _
  have HD3 := Aside0.mk (show W3.heap[db]? = some (.cells #[.slice none 0 0, .slice none 0 0] 26 (0, 0)) by rw [hW3, hdb]; exact blk_alloc (blk_new _ _) _)
  have HS3 := Aside0.mk (show W3.heap[sb]? = some (.cells #[.slice none 0 0, .int .i64 0, .slice none 0 0, .slice none 0 0, .int .i64 0, .int .i64 0] 33 (0, 0)) by rw [hW3, hsb]; exact blk2 w2 _ _)
  have HB3 := Aside0.mk (below_step HB2.out hb3)
  rw [← hW3, ← hsb, ← hdb]
  clear hW3 hdb hsb hb3 HS HF
  go_upto_region 6 with (first | (go_at_call 6; (with_reducible refine (HG.out _).mono ?_); rintro e w4 ⟨rfl, hb⟩; have H4 := Aside0.mk hb; clear hb) | fail)
  obtain ⟨W5, hW5⟩ : ∃ W5, W5 = (w4.alloc (.cells #[.slice none 0 0, .slice none 0 0] 26)).alloc (.cells #[.slice none 0 0, .int .i64 0, .slice none 0 0, .slice none 0 0, .int .i64 0, .int .i64 0] 33) := ⟨_, rfl⟩
  obtain ⟨db', hdb⟩ : ∃ db, db = w4.heap.size := ⟨_, rfl⟩
  obtain ⟨sb', hsb⟩ : ∃ sb, sb = w4.heap.size + 1 := ⟨_, rfl⟩
  have hb5 : Below w4.heap.size w4 W5 := by rw [hW5]; exact below_alloc (below_alloc (Below.refl _ _) _) _
  have S5 := Aside0.mk (show LzSt W5 db sb db' sb' from
    ⟨blk_below (blk_below HD3.out H4.out) hb5, blk_below (blk_below HS3.out H4.out) hb5, by rw [hW5, hdb]; exact blk_alloc (blk_new _ _) _, by rw [hW5, hsb]; exact blk2 w4 _ _⟩)
  have HB5 := Aside0.mk (below_step (below_step HB3.out H4.out) hb5)
  rw [← hW5, ← hsb, ← hdb]
  clear hW5 hdb hsb hb5 H4 HG HD3 HS3
  (have xa := (blk_cell S5.out.hd 0).trans (show _ = some (Value.slice none 0 0) from rfl); have xb := (blk_cell S5.out.hd 1).trans (show _ = some (Value.slice none 0 0) from rfl))
  (have xc := (blk_cell S5.out.hs 0).trans (show _ = some (Value.slice none 0 0) from rfl); have xd := (blk_cell S5.out.hs 1).trans (show _ = some (Value.int .i64 0) from rfl); have xe := (blk_cell S5.out.hs 2).trans (show _ = some (Value.slice none 0 0) from rfl); have xf := (blk_cell S5.out.hs 3).trans (show _ = some (Value.slice none 0 0) from rfl); have xg := (blk_cell S5.out.hs 4).trans (show _ = some (Value.int .i64 0) from rfl); have xh := (blk_cell S5.out.hs 5).trans (show _ = some (Value.int .i64 0) from rfl))
  (have ya := (blk_cell S5.out.hd' 0).trans (show _ = some (Value.slice none 0 0) from rfl); have yb := (blk_cell S5.out.hd' 1).trans (show _ = some (Value.slice none 0 0) from rfl))
  (have yc := (blk_cell S5.out.hs' 0).trans (show _ = some (Value.slice none 0 0) from rfl); have yd := (blk_cell S5.out.hs' 1).trans (show _ = some (Value.int .i64 0) from rfl); have ye := (blk_cell S5.out.hs' 2).trans (show _ = some (Value.slice none 0 0) from rfl); have yf := (blk_cell S5.out.hs' 3).trans (show _ = some (Value.slice none 0 0) from rfl); have yg := (blk_cell S5.out.hs' 4).trans (show _ = some (Value.int .i64 0) from rfl); have yh := (blk_cell S5.out.hs' 5).trans (show _ = some (Value.int .i64 0) from rfl))
  have HSD := Aside0.mk (show Calls Tryz.prog 7 #[.agg #[.slice none 0 0, .slice none 0 0], .agg #[.slice none 0 0, .slice none 0 0]] W5 fun e w' => e = .returned (.bool true) ∧ Below W5.heap.size W5 w' from sdisk_walk none 0 0 none 0 [] W5 (Kd.C_nil _ _) (Kd.C_nil _ _) (by decide))
  have HSS := Aside0.mk (show ∀ W : World, Calls Tryz.prog 8 #[.agg #[.slice none 0 0, .int .i64 0, .slice none 0 0, .slice none 0 0, .int .i64 0, .int .i64 0], .agg #[.slice none 0 0, .int .i64 0, .slice none 0 0, .slice none 0 0, .int .i64 0, .int .i64 0]] W fun e w' => e = .returned (.bool true) ∧ Below W.heap.size W w' from fun W => sstate_walk none 0 0 none 0 0 0 0 W (Kd.C_nil _ _) (Kd.C_nil _ _) (by decide))
  go_upto_region 8 with (first | (go_at_call 7; (with_reducible refine HSD.out.mono ?_); rintro e w6 ⟨rfl, hb⟩; have S6 := Aside0.mk (S5.out.step hb); have HB6 := Aside0.mk hb; clear hb xa xb xc xd xe xf xg xh ya yb yc yd ye yf yg yh; (have xc := (blk_cell S6.out.hs 0).trans (show _ = some (Value.slice none 0 0) from rfl); have xd := (blk_cell S6.out.hs 1).trans (show _ = some (Value.int .i64 0) from rfl); have xe := (blk_cell S6.out.hs 2).trans (show _ = some (Value.slice none 0 0) from rfl); have xf := (blk_cell S6.out.hs 3).trans (show _ = some (Value.slice none 0 0) from rfl); have xg := (blk_cell S6.out.hs 4).trans (show _ = some (Value.int .i64 0) from rfl); have xh := (blk_cell S6.out.hs 5).trans (show _ = some (Value.int .i64 0) from rfl)); (have yc := (blk_cell S6.out.hs' 0).trans (show _ = some (Value.slice none 0 0) from rfl); have yd := (blk_cell S6.out.hs' 1).trans (show _ = some (Value.int .i64 0) from rfl); have ye := (blk_cell S6.out.hs' 2).trans (show _ = some (Value.slice none 0 0) from rfl); have yf := (blk_cell S6.out.hs' 3).trans (show _ = some (Value.slice none 0 0) from rfl); have yg := (blk_cell S6.out.hs' 4).trans (show _ = some (Value.int .i64 0) from rfl); have yh := (blk_cell S6.out.hs' 5).trans (show _ = some (Value.int .i64 0) from rfl))) | (go_at_call 8; (with_reducible refine (HSS.out _).mono ?_); rintro e w7 ⟨rfl, hb⟩; have S7 := Aside0.mk (S6.out.step hb); have HB7 := Aside0.mk (below_step (below_step HB5.out HB6.out) hb); clear hb xc xd xe xf xg xh yc yd ye yf yg yh) | fail)
  (have xa := (blk_cell S7.out.hd 0).trans (show _ = some (Value.slice none 0 0) from rfl); have xb := (blk_cell S7.out.hd 1).trans (show _ = some (Value.slice none 0 0) from rfl))
  (have xc := (blk_cell S7.out.hs 0).trans (show _ = some (Value.slice none 0 0) from rfl); have xd := (blk_cell S7.out.hs 1).trans (show _ = some (Value.int .i64 0) from rfl); have xe := (blk_cell S7.out.hs 2).trans (show _ = some (Value.slice none 0 0) from rfl); have xf := (blk_cell S7.out.hs 3).trans (show _ = some (Value.slice none 0 0) from rfl); have xg := (blk_cell S7.out.hs 4).trans (show _ = some (Value.int .i64 0) from rfl); have xh := (blk_cell S7.out.hs 5).trans (show _ = some (Value.int .i64 0) from rfl))
  go_quiet (fail)
  all_goals
    go_wp2
    go_ret
    exact ⟨by first | rfl | simp, pw_below_drewN HB7.out _⟩
theorem law_all (blocks keep : Int) (w : World) : Calls Tryz.prog 3 #[.int .i64 blocks, .int .i64 keep] w fun e w' => e = .returned (.bool true) ∧ Below w.heap.size w w' := by
  by_cases h : 200 < blocks
  · exact law_a blocks keep w h
  · by_cases h2 : blocks < 1 ∨ (cellsF blocks.toNat : Int) < 1 ∨ keep < 0 ∨ (cellsF blocks.toNat : Int) < keep
    · exact law_c blocks keep w (by omega) h2
    · obtain ⟨N, rfl⟩ := Int.eq_ofNat_of_zero_le (show 0 ≤ blocks by omega)
      obtain ⟨k, rfl⟩ := Int.eq_ofNat_of_zero_le (show 0 ≤ keep by omega)
      rw [Int.toNat_natCast] at h2
      exact law_b N k (cellsF N) w (by omega) (by omega) rfl (by omega) (by omega)
end Go.Proofs.YtodejilhgpejnaaGreat.Q
