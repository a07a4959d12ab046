import Derived.Test.YtodejilhgpejnaaGreatP5
namespace Go.Proofs.YtodejilhgpejnaaGreat.Q
open Go.RowKit Go.Proofs.YtodejilhgpejnaaGreatW.PrintWords Go.Proofs.YtodejilhgpejnaaGreatW.PrintLast Go.Proofs.YtodejilhgpejnaaGreatW.PrintMore
attribute [local go_sem] max2_int min2_int max_two min_two max_three min_three max_four min_four
set_option linter.unusedVariables false
set_option linter.unusedSimpArgs false
/-- A free cell's cells. -/
def z4c : List Value := [.int .i64 0, .bool false, .bool false, .slice none 0 0]
/-- A row of free cells. -/
def ZC (w : World) (A : Option Addr) (n : Nat) : Prop := Kd.C (Kd.raw 4) w A n (List.replicate n z4c)
theorem ZC_below {w w1 : World} {A : Option Addr} {n : Nat} (h : ZC w A n) (hb : Below w.heap.size w w1) : ZC w1 A n := Kd.C_below h hb
theorem at_Z {w : World} {A : Option Addr} {n : Nat} (h : ZC w A n) (k : Nat) (hk : k < n) : ∃ ad, A = some ad ∧ w.cell? (ad.add (k * 4)) = some (.int .i64 0) ∧ w.cell? ⟨(ad.add (k * 4)).block, (ad.add (k * 4)).off + 1, none⟩ = some (.bool false) ∧ w.cell? ⟨(ad.add (k * 4)).block, (ad.add (k * 4)).off + 2, none⟩ = some (.bool false) ∧ w.cell? ⟨(ad.add (k * 4)).block, (ad.add (k * 4)).off + 3, none⟩ = some (.slice none 0 0) := by
  obtain ⟨ad, c, e, _, hK, hc0⟩ := Kd.C_get h z4c (k : Int) (by omega) (by omega)
  have hc : ∀ j u, c[j]? = some u → w.cell? (ad.add (k * 4 + j)) = some u := hc0
  have hz : (List.replicate n z4c).getD (k : Int).toNat z4c = z4c := by
    rw [List.getD_eq_getElem?_getD]
    cases hq : (List.replicate n z4c)[(k : Int).toNat]? with
    | none => rfl
    | some y => exact List.eq_of_mem_replicate (List.mem_of_getElem? hq)
  rw [hz] at hK
  obtain ⟨rfl, _⟩ := hK
  exact ⟨ad, e, hc 0 _ rfl, by rw [← add_field _ _ 1 (by omega)]; exact hc 1 _ rfl, by rw [← add_field _ _ 2 (by omega)]; exact hc 2 _ rfl, by rw [← add_field _ _ 3 (by omega)]; exact hc 3 _ rfl⟩
def bookL (next keep n : Nat) : List Int := le4 next ++ [0] ++ [0, 0] ++ [(keep : Int) % 256, (keep : Int) / 256] ++ [(n : Int) % 256, (n : Int) / 256]
theorem C_new1 (w : World) (o : Obj) (l : List Int) (hm : l.length ≤ 9223372036854775807) : Kd.C (Kd.int .u8) ((w.alloc o).alloc (.cells (l.map (Value.int .u8)).toArray 5)) (some ⟨w.heap.size + 1, 0, none⟩) l.length l := by
  have h := blk_new (w.alloc o) (.cells (l.map (Value.int .u8)).toArray 5)
  rw [World.size_alloc] at h
  exact C_cells _ _ l (0, 0) h hm
theorem fa1 (w : World) (s x : Int) : Kd.C (Kd.int .u8) ((w.alloc (.cells #[.int .u8 (s % 256), .int .u8 (s / 256 % 256), .int .u8 (s / 65536 % 256), .int .u8 (s / 16777216)] 5)).alloc (.cells #[.int .u8 x] 5)) (some ⟨w.heap.size, 0, none⟩) 4 (le4 s) := Kd.C_alloc (app_t2 w s) _
theorem fa2 (w : World) (s x : Int) : Kd.C (Kd.int .u8) ((w.alloc (.cells #[.int .u8 x] 5)).alloc (.cells #[.int .u8 (s % 256), .int .u8 (s / 256 % 256), .int .u8 (s / 65536 % 256), .int .u8 (s / 16777216)] 5)) (some ⟨w.heap.size + 1, 0, none⟩) 4 (le4 s) := by
  have h := app_t2 (w.alloc (.cells #[.int .u8 x] 5)) s
  rw [World.size_alloc] at h
  exact h
theorem fy1 (w : World) (s x : Int) : Kd.C (Kd.int .u8) ((w.alloc (.cells #[.int .u8 (s % 256), .int .u8 (s / 256 % 256), .int .u8 (s / 65536 % 256), .int .u8 (s / 16777216)] 5)).alloc (.cells #[.int .u8 x] 5)) (some ⟨w.heap.size + 1, 0, none⟩) 1 [x] := by
  have h := blk_new (w.alloc (.cells #[.int .u8 (s % 256), .int .u8 (s / 256 % 256), .int .u8 (s / 65536 % 256), .int .u8 (s / 16777216)] 5)) (.cells #[.int .u8 x] 5)
  rw [World.size_alloc] at h
  exact C_cells _ _ [x] (0, 0) h (show (1 : Nat) ≤ _ by decide)
theorem fy2 (w : World) (s x : Int) : Kd.C (Kd.int .u8) ((w.alloc (.cells #[.int .u8 x] 5)).alloc (.cells #[.int .u8 (s % 256), .int .u8 (s / 256 % 256), .int .u8 (s / 65536 % 256), .int .u8 (s / 16777216)] 5)) (some ⟨w.heap.size, 0, none⟩) 1 [x] := Kd.C_alloc (C_cells _ _ [x] (0, 0) (blk_new w _) (show (1 : Nat) ≤ _ by decide)) _
set_option maxHeartbeats 2000000 in
set_option maxRecDepth 100000 in
theorem book_walk (A : Option Addr) (n c keep next gen : Nat) (w : World) (hz : ZC w A n) (hn : n ≤ 2000) (hk : keep ≤ 2000) (hx : next ≤ 2147483647) :
    Calls Tryz.prog 43 #[.agg #[.slice A n c, .int .i64 keep, .slice none 0 0, .slice none 0 0, .int .i64 next, .int .i64 gen]] w fun e w' => ∃ v, e = .returned (.tuple #[v, .int .i64 0]) ∧ (Kd.int .u8).R 5 w' w.heap.size (fun _ => True) v (bookL next keep n ++ List.replicate (2 * n) 0) ∧ Below w.heap.size w w' := by
  have HZ := Aside0.mk hz
  have HN := Aside0.mk hn
  have HK := Aside0.mk hk
  have HX := Aside0.mk hx
  clear hz hn hk hx
  go_enter Tryz.func43, Tryz.ntmps43
  go_upto_region 1 with fail
  generalize hw1 : w.alloc _ = w1
  have HB1 := Aside0.mk (show Below w.heap.size w w1 from hw1 ▸ below_alloc (Below.refl _ _) _)
  have BX1 := Aside0.mk (show w1.heap[w.heap.size]? = some (.cells #[.slice A n c, .int .i64 keep, .slice none 0 0, .slice none 0 0, .int .i64 next, .int .i64 gen] 33 (0, 0)) from hw1 ▸ blk_new _ _)
  clear hw1
  go_cut [4] (fun v4 wc => Aside0 ((Kd.int .u8).R 5 wc w.heap.size (fun k => w.heap.size < k) v4 (le4 (next : Int) ++ [0])) ∧ Aside0 (Below w1.heap.size w1 wc))
  case first =>
    have b2 := (blk_cell BX1.out 2).trans (show _ = some (Value.slice none 0 0) from rfl)
    have b4 := (blk_cell BX1.out 4).trans (show _ = some (Value.int .i64 next) from rfl)
    have hz1 := blk_lt BX1.out
    have FA1 := Aside0.mk (fa1 w1 (next : Int) (IntKind.u8.wrap 0))
    have FA2 := Aside0.mk (fa2 w1 (next : Int) (IntKind.u8.wrap 0))
    have FY1 := Aside0.mk (fy1 w1 (next : Int) (IntKind.u8.wrap 0))
    have FY2 := Aside0.mk (fy2 w1 (next : Int) (IntKind.u8.wrap 0))
    go_region_held3 (fun w' => w'.cell? ⟨w.heap.size, 2, none⟩ = some (.slice none 0 0) ∧ w'.cell? ⟨w.heap.size, 4, none⟩ = some (.int .i64 next)) (first | exact ⟨b2, b4⟩ | exact (fun (h : Below w1.heap.size w1 _) => ⟨(h.cell (World.block_lt_of_cell? _ _ b2)).trans b2, (h.cell (World.block_lt_of_cell? _ _ b4)).trans b4⟩) (by repeat (first | (with_reducible exact Below.refl _ _) | (with_reducible refine below_alloc ?_ _) | (with_reducible refine below_drew1 ?_) | (with_reducible refine pw_below_drewN ?_ _) | (with_reducible exact HB2.out)))) (first | (go_at_call 69; (with_reducible refine (put4_walk _ _ (by have := HX.out; omega)).mono ?_); rintro e w' ⟨rfl, rfl⟩) | (refine append_full_step (Kd.int .u8) u8_KM rfl (.tmp 11) (.tmp 16) 83 5 (.int .u8 0) 1 rfl Tryz.underlying83 info_u8 rfl (by decide) _ 4 (le4 (next : Int)) _ 1 1 [IntKind.u8.wrap 0] rfl rfl ?ha ?hy (by decide) (by unfold maxLen; decide) (by decide) (fun h => by cases h) ?_; (case ha => first | (with_reducible exact Kd.C_drew FA1.out) | (with_reducible exact Kd.C_drew FA2.out)); (case hy => first | (with_reducible exact Kd.C_drew FY1.out) | (with_reducible exact Kd.C_drew FY2.out)); intro A2 c2 w2 hc ho hb; have HB2 := Aside0.mk (show Below w1.heap.size w1 w2 from below_step (by repeat (first | (with_reducible exact Below.refl _ _) | (with_reducible refine below_alloc ?_ _) | (with_reducible refine below_drew1 ?_) | (with_reducible refine pw_below_drewN ?_ _) )) hb); have HO2 := Aside0.mk (Kd.R_mono (Kd.R_bound (Kd.R_lower ho (show w1.heap.size ≤ _ from (Below.size (show Below w1.heap.size w1 _ by repeat (first | (with_reducible exact Below.refl _ _) | (with_reducible refine below_alloc ?_ _) | (with_reducible refine below_drew1 ?_) | (with_reducible refine pw_below_drewN ?_ _) )))))) (ok' := fun k => w1.heap.size ≤ k) (fun _ hk => hk.2.1)); clear hc ho hb) | fail)
    all_goals
      go_wp2
      go_meet
      case rel => exact ⟨⟨Kd.R_mono (Kd.R_lower HO2.out (below_size HB1.out)) (fun k hk => by omega)⟩, HB2⟩
  case rest =>
    obtain ⟨HO2, HB2⟩ := hcut
    have BX2 := Aside0.mk (blk_below BX1.out HB2.out)
    have b2 := (blk_cell BX2.out 2).trans (show _ = some (Value.slice none 0 0) from rfl)
    have hne : IntKind.u8.wrap 0 = 0 := rfl
    have HB2w := Aside0.mk (show Below w.heap.size w wc from below_step HB1.out HB2.out)
    obtain ⟨A4, c4, hv⟩ := Kd.R_slice HO2.out
    rw [show (le4 (next : Int) ++ [0] : List Int).length = 5 from rfl] at hv
    subst hv
    go_upto_region 7 with fail
    refine wp_loop_rounds 1 ?_
    rw [rounds_succ]
    go_upto_region 7 with fail
    go_cut [4] (fun v4 w7 => Aside0 ((Kd.int .u8).R 5 w7 w.heap.size (fun _ => True) v4 (bookL next keep n)) ∧ Aside0 (Below wc.heap.size wc w7))
    case first =>
      have b0 := (blk_cell BX2.out 0).trans (show _ = some (Value.slice A n c) from rfl)
      have b1 := (blk_cell BX2.out 1).trans (show _ = some (Value.int .i64 keep) from rfl)
      have b3 := (blk_cell BX2.out 3).trans (show _ = some (Value.slice none 0 0) from rfl)
      go_region_held3 (fun w' => w'.cell? ⟨w.heap.size, 0, none⟩ = some (.slice A n c) ∧ w'.cell? ⟨w.heap.size, 1, none⟩ = some (.int .i64 keep) ∧ w'.cell? ⟨w.heap.size, 3, none⟩ = some (.slice none 0 0)) (first | exact ⟨b0, b1, b3⟩ | exact (fun (h : Below wc.heap.size wc _) => ⟨(h.cell (World.block_lt_of_cell? _ _ b0)).trans b0, (h.cell (World.block_lt_of_cell? _ _ b1)).trans b1, (h.cell (World.block_lt_of_cell? _ _ b3)).trans b3⟩) (by repeat (first | (with_reducible exact Below.refl _ _) | (with_reducible refine below_alloc ?_ _) | (with_reducible refine below_drew1 ?_) | (with_reducible refine pw_below_drewN ?_ _) | (with_reducible exact HB6.out) | (with_reducible exact HB5.out) | (with_reducible exact HB4.out) | (with_reducible exact HB3.out)))) (first | (go_at_call 71; (with_reducible refine (todoPrint_walk _ _ _).mono ?_); rintro e w3 ⟨rfl, hw⟩; have HT3 := Aside0.mk (show Kd.C (Kd.int .u8) w3 (some ⟨wc.heap.size, 0, none⟩) 2 [0, 0] from hw ▸ C_cells _ _ [0, 0] (0, 0) (blk_new _ _) (show (2 : Nat) ≤ _ by decide)); have HB3 := Aside0.mk (show Below wc.heap.size wc w3 from hw ▸ (by repeat (first | (with_reducible exact Below.refl _ _) | (with_reducible refine below_alloc ?_ _) | (with_reducible refine below_drew1 ?_) | (with_reducible refine pw_below_drewN ?_ _) ))); clear hw) | (go_at_call 69; (with_reducible refine (put2_walk keep _ (by have := HK.out; omega)).mono ?_); rintro e w4 ⟨rfl, hw⟩; have HT4 := Aside0.mk (show Kd.C (Kd.int .u8) w4 (some ⟨w3.heap.size, 0, none⟩) 2 [(keep : Int) % 256, (keep : Int) / 256] from hw ▸ C_cells _ _ [(keep : Int) % 256, (keep : Int) / 256] (0, 0) (blk_new _ _) (show (2 : Nat) ≤ _ by decide)); have HB4 := Aside0.mk (show Below wc.heap.size wc w4 from hw ▸ below_alloc HB3.out _); have HB34 := Aside0.mk (show Below w3.heap.size w3 w4 from hw ▸ below_alloc (Below.refl _ _) _); clear hw) | (go_at_call 69; (with_reducible refine (put2_walk n _ (by have := HN.out; omega)).mono ?_); rintro e w5 ⟨rfl, hw⟩; have HT5 := Aside0.mk (show Kd.C (Kd.int .u8) w5 (some ⟨w4.heap.size, 0, none⟩) 2 [(n : Int) % 256, (n : Int) / 256] from hw ▸ C_cells _ _ [(n : Int) % 256, (n : Int) / 256] (0, 0) (blk_new _ _) (show (2 : Nat) ≤ _ by decide)); have HB5 := Aside0.mk (show Below wc.heap.size wc w5 from hw ▸ below_alloc HB4.out _); have HB45 := Aside0.mk (show Below w4.heap.size w4 w5 from hw ▸ below_alloc (Below.refl _ _) _); clear hw) | (go_at_call 70; (with_reducible refine (concat4_walk w5.heap.size _ _ _ _ c4 2 2 2 (le4 (next : Int) ++ [0]) [0, 0] [(keep : Int) % 256, (keep : Int) / 256] [(n : Int) % 256, (n : Int) / 256] _ (blk_new _ _) ?s1 ?s2 ?s3 ?s4).mono ?_); (case s1 => exact Kd.C_alloc (Kd.C_below (Kd.R_reads' HO2.out).2.2 HB5.out) _); (case s2 => exact Kd.C_alloc (Kd.C_below (Kd.C_below HT3.out HB34.out) HB45.out) _); (case s3 => exact Kd.C_alloc (Kd.C_below HT4.out HB45.out) _); (case s4 => exact Kd.C_alloc HT5.out _); rintro e w6 ⟨v6, rfl, ho, hb⟩; have HB6 := Aside0.mk (show Below wc.heap.size wc w6 from below_step (below_alloc HB5.out _) hb); have HO6 := Aside0.mk (R_base ho (show w.heap.size ≤ _ from (Nat.le_trans (below_size HB2w.out) (below_alloc HB5.out _).size))); clear ho hb) | fail)
      all_goals
        go_wp2
        go_meet
        case rel => exact ⟨HO6, HB6⟩
    case rest =>
      obtain ⟨HO7, HB7⟩ := hcut
      have HB7w := Aside0.mk (show Below w.heap.size w wc from below_step HB2w.out HB7.out)
      have HZ7 := Aside0.mk (ZC_below HZ.out HB7w.out)
      have BX7 := Aside0.mk (blk_below BX2.out HB7.out)
      have b0 := (blk_cell BX7.out 0).trans (show _ = some (Value.slice A n c) from rfl)
      clear HB7 BX2 HO2 b2 HB2
      go_wp2
      go_loopg [4, 55] n (fun g s4 s55 wr => ∃ k : Nat, s55 = .int .i64 k ∧ k + g = n ∧ Aside0 ((Kd.int .u8).R 5 wr w.heap.size (fun _ => True) s4 (bookL next keep n ++ List.replicate (2 * k) 0)) ∧ Aside0 (Below w.heap.size w wr))
      case atStart => exact ⟨0, rfl, by omega, ⟨by simpa using HO7.out⟩, HB7w⟩
      case round =>
        obtain ⟨k, rfl, hk, HO, HB⟩ := hrel
        by_cases hlt : k < n
        · obtain ⟨g1, rfl⟩ : ∃ g1, gk = g1 + 1 := ⟨gk - 1, by omega⟩
          have c1 : decide (k < n) = true := decide_eq_true hlt
          have c2 : (k < n) = True := eq_true hlt
          obtain ⟨ad, e1, z0, z1, z2, z3⟩ := at_Z (ZC_below HZ.out HB.out) k hlt
          cases e1
          have HKK := Aside0.mk (And.intro hlt hk)
          have hp := fun W => put2_walk 0 W (by decide)
          rw [show ((0 : Nat) : Int) = 0 from rfl] at hp
          have HP := Aside0.mk hp
          clear hp hlt hk
          go_wp2_with (first | (go_at_call 69; (with_reducible refine (HP.out _).mono ?_); rintro e w' ⟨rfl, rfl⟩) | ((with_reducible refine gate_builtin (b := .append) (xs := #[.tmp 62, .tmp 65]) rfl ?_); at_builtin; refine Kd.R_append_rows (Kd.int .u8) (w0 := w) w.heap.size rfl (.tmp 62) (.tmp 65) 83 5 (.int .u8 0) 1 rfl Tryz.underlying83 info_u8 rfl (by decide) (by omega) _ (bookL next keep n ++ List.replicate (2 * k) 0) [0, 0] _ 2 2 (fun _ => True) (fun _ => False) rfl rfl (Kd.R_alloc (Kd.R_alloc HO.out _) _) (C_new1 wr _ [0, 0] (show (2 : Nat) ≤ _ by decide)) (fun _ _ h => h) (fun _ h => h.elim) (fun _ _ => trivial) (below_alloc (below_alloc HB.out _) _) (below_size (below_alloc (below_alloc HB.out _) _)) (by have := HN.out; have := HKK.out; simp [bookL, le4]; omega) ?_; intro v1 w5 ho hb hg hat; have HO5 := Aside0.mk ho; have HB5 := Aside0.mk hb; clear ho hb hg hat) | fail)
          go_roundg g1
          case measure => omega
          case rel => exact ⟨k + 1, by rw [show wrap64 ((k : Int) + 1) = ((k + 1 : Nat) : Int) by (have := HKK.out; have := HN.out; unfold wrap64; omega)], by have := HKK.out; omega, ⟨by have h := HO5.out; rw [List.append_assoc, show List.replicate (2 * k) (0 : Int) ++ [0, 0] = List.replicate (2 * (k + 1)) 0 by rw [show 2 * (k + 1) = 2 * k + 2 by omega, ← List.replicate_append_replicate]; rfl] at h; exact h⟩, HB5⟩
        · have c1 : decide (k < n) = false := decide_eq_false hlt
          have c2 : (k < n) = False := eq_false hlt
          obtain rfl : k = n := by omega
          clear hlt hk
          go_wp2
          go_ret2
          exact ⟨_, rfl, HO.out, HB.out⟩
end Go.Proofs.YtodejilhgpejnaaGreat.Q
