import Derived.Test.YtodejilhgpejnaaGreatP3
import Derived.Test.YtodejilhgpejnaaGreatPA
import Derived.Lib.SlBytesConst
import Derived.Lib.AppendZeros
namespace Go.Proofs.YtodejilhgpejnaaGreat.Q
open Go.RowKit Go.Proofs.YtodejilhgpejnaaGreatW.PrintWords Go.Proofs.YtodejilhgpejnaaGreatW.PrintLast Go.Proofs.YtodejilhgpejnaaGreatW.PrintMore
attribute [local go_sem] max2_int min2_int max_two min_two max_three min_three max_four min_four
set_option linter.unusedVariables false
set_option linter.unusedSimpArgs false
def z40 : Array Value := (List.replicate 40 (Value.int .u8 0)).toArray
theorem z40_R (w : World) : Kd.R (Kd.int .u8) 5 (w.alloc (.cells z40 5)) w.heap.size (fun _ => True) (.slice (some ⟨w.heap.size, 0, none⟩) 36 40) (List.replicate 36 0) := by
  refine Kd.R_of_own (enc := Value.int .u8) (h1 := fun _ => rfl) ⟨by simp [encs], .inr ⟨w.heap.size, 40, z40, by simp, Nat.le_refl _, blk_new _ _, ?_⟩⟩ (fun _ _ => trivial)
  refine ⟨by simp, ?_, ?_, ?_⟩
  all_goals (first | decide | rfl | (unfold maxLen; decide))
/-- A row filled up to 36. -/
def padF (l : List Int) : List Int := l ++ List.replicate (36 - l.length) 0
def le4 (s : Int) : List Int := [s % 256, s / 256 % 256, s / 65536 % 256, s / 16777216]
def sealS (l : List Int) : ByteArray := strOfNums (padF l ++ le4 (sumF (padF l)))
theorem pad_eq (l : List Int) (h : l.length ≤ 36) : l.take (min l.length 36) ++ (List.replicate 36 (0 : Int)).drop (min l.length 36) = padF l := by
  rw [Nat.min_eq_left h, List.take_length, List.drop_replicate]
  rfl
theorem sum_C {w : World} {base : Nat} {a : Option Addr} {c : Nat} {l : List Int} (h : Kd.R (Kd.int .u8) 5 w base (fun _ => True) (.slice a 36 c) l) (hl : l.length = 36) : Kd.C (Kd.int .u8) w a 36 l := by
  have := (Kd.R_reads' h).2.2
  rwa [hl] at this
set_option maxHeartbeats 2000000 in
set_option maxRecDepth 100000 in
theorem seal_walk (A : Option Addr) (c : Nat) (l : List Int) (w : World) (hr : Kd.C (Kd.int .u8) w A l.length l) (hl : ∀ x ∈ l, 0 ≤ x ∧ x < 256) (hn : l.length ≤ 36) :
    Calls Tryz.prog 80 #[.slice A l.length c] w fun e w' => e = .returned (.tuple #[.string (sealS l), .int .i64 0]) ∧ Below w.heap.size w w' := by
  have hp : (padF l).length = 36 := by unfold padF; simp; omega
  have hpl : ∀ x ∈ padF l, 0 ≤ x ∧ x < 256 := by
    intro x hx
    unfold padF at hx
    rcases List.mem_append.1 hx with hx | hx
    · exact hl x hx
    · rw [List.eq_of_mem_replicate hx]; omega
  have hm : ∀ w : World, (Instr.makeSlice 83 (.int .i64 36) (.int .i64 40)).run Tryz.prog w = .ok (.slice (some ⟨w.heap.size, 0, none⟩) 36 40) (w.alloc (.cells z40 5)) := fun w => by kernel_rfl
  have c1 : decide ((36 : Int) < (l.length : Int)) = false := decide_eq_false (by omega)
  have c2 : decide (36 < l.length) = false := decide_eq_false (by omega)
  have HR := Aside0.mk hr
  have HN := Aside0.mk hn
  have HP := Aside0.mk hp
  have HPL := Aside0.mk hpl
  have HSUM := Aside0.mk (fun (W : World) (h : Kd.C (Kd.int .u8) W (some ⟨w.heap.size, 0, none⟩) 36 (padF l)) => by
    have h2 := sum_walk (some ⟨w.heap.size, 0, none⟩) 40 (padF l) W (by rw [hp]; exact h) hpl (by omega)
    rwa [hp] at h2)
  clear hr hl hn hp hpl
  go_enter Tryz.func80, Tryz.ntmps80
  go_wp2_with (first | ((with_reducible refine gate_builtin (b := .copy) (xs := #[.tmp 9, .tmp 10]) rfl ?_); refine Kd.R_copy (enc := Value.int .u8) (h1 := fun _ => rfl) (0 : Int) (w0 := w) w.heap.size rfl (.tmp 9) (.tmp 10) 83 83 5 rfl Tryz.underlying83 (by kernel_rfl) (.slice (some ⟨w.heap.size, 0, none⟩) 36 40) (List.replicate 36 0) l A l.length c (fun _ => True) rfl rfl (z40_R w) (Kd.C_alloc HR.out _) (below_alloc (Below.refl _ _) _) (by simp) ?_; intro w1 ho hb hg; rw [List.length_replicate, pad_eq l HN.out] at ho; have HO1 : Aside0 (Kd.R (Kd.int .u8) 5 w1 w.heap.size (fun _ => True) (.slice (some ⟨w.heap.size, 0, none⟩) 36 40) (padF l)) := ⟨ho⟩; have HB1 := Aside0.mk hb; clear ho hb hg) | (go_at_call 78; (with_reducible refine (HSUM.out _ (sum_C HO1.out HP.out)).mono ?_); rintro e w2 ⟨s, rfl, hs1, hs2, rfl⟩; have HS1 := Aside0.mk hs1; have HS2 := Aside0.mk hs2; clear hs1 hs2) | (go_at_call 69; (with_reducible refine (put4_walk _ _ (by have := HS2.out; omega)).mono ?_); rintro e w3 ⟨rfl, rfl⟩) | ((with_reducible refine gate_builtin (b := .append) (xs := #[.tmp 12, .tmp 15]) rfl ?_); at_builtin; refine Kd.R_append_rows (Kd.int .u8) (w0 := w) w.heap.size rfl (.tmp 12) (.tmp 15) 83 5 (.int .u8 0) 1 rfl Tryz.underlying83 info_u8 rfl (by decide) (by omega) _ (padF l) (le4 (s : Int)) _ 4 4 (fun _ => True) (fun _ => False) rfl rfl (Kd.R_alloc HO1.out _) (C_cells _ _ (le4 (s : Int)) (0, 0) (blk_new _ _) (show (4 : Nat) ≤ _ by decide)) (fun _ _ h => h) (fun _ h => h.elim) (fun _ _ => trivial) (below_alloc HB1.out _) (below_size (below_alloc HB1.out _)) (by rw [HP.out]; decide) ?_; intro v1 w4 ho hb hg hat; obtain ⟨L, hL⟩ : ∃ L, L = padF l ++ le4 (s : Int) := ⟨_, rfl⟩; rw [← hL] at ho; obtain ⟨A2, c2, rfl⟩ := Kd.R_slice ho; have HCV := Kd.C_string (P := Tryz.prog) (c := c2) Tryz.underlying83 Tryz.underlying5 Tryz.underlying9 (Kd.R_reads' ho).2.2; have HLL := Aside0.mk hL; have HB4 := Aside0.mk hb; clear ho hb hg hat hL))
  go_ret2
  exact ⟨by rw [HLL.out, ← HS1.out]; rfl, HB4.out⟩
theorem lit_R (w : World) (base : Nat) (l : List Int) (h : base ≤ w.heap.size) (hn : l.length ≤ maxLen) : Kd.R (Kd.int .u8) 5 (w.alloc (.cells (l.map (Value.int .u8)).toArray 5)) base (fun _ => True) (.slice (some ⟨w.heap.size, 0, none⟩) l.length l.length) l := by
  refine Kd.R_of_own (enc := Value.int .u8) (h1 := fun _ => rfl) ⟨by simp [encs], .inr ⟨w.heap.size, l.length, _, rfl, h, blk_new _ _, Nat.le_refl _, hn, by simp, ?_⟩⟩ (fun _ _ => trivial)
  rw [Nat.mul_one, List.take_of_length_le (by simp)]
  simp [encs]
set_option maxHeartbeats 2000000 in
set_option maxRecDepth 100000 in
theorem slotRight_walk (g size sum : Nat) (w : World) (h1 : 1 ≤ g) (h2 : g ≤ 2147483647) (h3 : size ≤ 2147483647) (h4 : sum ≤ 4294967295) :
    Calls Tryz.prog 79 #[.agg #[.int .i64 g, .int .i64 size, .int .i64 sum]] w fun e w' => e = .returned (.bool true) ∧ Below w.heap.size w w' := by
  have c1 : decide ((1 : Int) ≤ (g : Int)) = true := decide_eq_true (by omega)
  have c2 : decide ((g : Int) ≤ 2147483647) = true := decide_eq_true (by omega)
  have c3 : decide ((0 : Int) ≤ (size : Int)) = true := decide_eq_true (by omega)
  have c4 : decide ((size : Int) ≤ 2147483647) = true := decide_eq_true (by omega)
  have H4 := Aside0.mk h4
  have hne : ∀ (a : Addr) (w : World), (binOp .neq 83 (.slice (some a) 4 4) (.slice none 0 0)).run Tryz.prog w = .ok (.bool true) w := fun a w => by kernel_rfl
  clear h1 h2 h3 h4
  go_enter Tryz.func79, Tryz.ntmps79
  go_wp2_with (first | (go_at_call 69; (with_reducible refine (put4_walk _ _ H4.out).mono ?_); rintro e w1 ⟨rfl, rfl⟩))
  go_ret
  exact ⟨rfl, below_alloc (below_alloc (Below.refl _ _) _) _⟩
set_option maxHeartbeats 200000 in
theorem app_t1 (w1 : World) : Kd.C (Kd.int .u8) (w1.alloc (.cells #[.int .u8 97, .int .u8 115] 5 (2, 3))) (some ⟨w1.heap.size, 0, none⟩) 2 [97, 115] := C_cells _ _ [97, 115] (2, 3) (blk_new _ _) (show (2 : Nat) ≤ _ by decide)
set_option maxHeartbeats 200000 in
theorem app_t2 (w1 : World) (g : Int) : Kd.C (Kd.int .u8) (w1.alloc (.cells #[.int .u8 (g % 256), .int .u8 (g / 256 % 256), .int .u8 (g / 65536 % 256), .int .u8 (g / 16777216)] 5)) (some ⟨w1.heap.size, 0, none⟩) 4 (le4 g) := C_cells _ _ (le4 g) (0, 0) (blk_new _ _) (show (4 : Nat) ≤ _ by decide)
theorem app_t5 (w2 : World) (a : Addr) (s : Int) (L : List Int) (n : Nat) (h1 : Kd.C (Kd.int .u8) w2 (some a) n L) (hn : n + 4 ≤ 100000) : ∃ v' w', (Builtin.append_ #[83, 83] 83 #[.slice (some a) n n, .slice (some ⟨w2.heap.size, 0, none⟩) 4 4]).run Tryz.prog (w2.alloc (.cells #[.int .u8 (s % 256), .int .u8 (s / 256 % 256), .int .u8 (s / 65536 % 256), .int .u8 (s / 16777216)] 5)) = .ok v' w' ∧ (Kd.int .u8).R 5 w' w2.heap.size (fun _ => True) v' (L ++ le4 s) ∧ Below w2.heap.size w2 w' := by
  have e2 : Kd.C (Kd.int .u8) (w2.alloc (.cells #[.int .u8 (s % 256), .int .u8 (s / 256 % 256), .int .u8 (s / 65536 % 256), .int .u8 (s / 16777216)] 5)) (some ⟨w2.heap.size, 0, none⟩) 4 (le4 s) := app_t2 w2 s
  have e1 := Kd.C_alloc h1 (.cells #[.int .u8 (s % 256), .int .u8 (s / 256 % 256), .int .u8 (s / 65536 % 256), .int .u8 (s / 16777216)] 5)
  have hb0 := below_alloc (Below.refl w2.heap.size w2) (.cells #[.int .u8 (s % 256), .int .u8 (s / 256 % 256), .int .u8 (s / 65536 % 256), .int .u8 (s / 16777216)] 5)
  generalize w2.alloc _ = W at e1 e2 hb0 ⊢
  obtain ⟨A', c', w', h, _, h3, h4⟩ := run_append_full (Kd.int .u8) u8_KM 83 83 5 (.int .u8 0) 1 Tryz.underlying83 info_u8 rfl (by decide) W _ n L e1 _ 4 4 (le4 s) e2 (by decide) (by unfold maxLen; omega) (by omega) (fun h => by cases h)
  exact ⟨_, w', h, R_deep h3 hb0.size, below_step hb0 h4⟩
theorem R_base {w : World} {b c : Nat} {v : Value} {xs : List Int} (h : (Kd.int .u8).R 5 w b (fun _ => True) v xs) (hb : c ≤ b) : (Kd.int .u8).R 5 w c (fun _ => True) v xs := Kd.R_lower h hb
def slotL (g size sum : Nat) : List Int := [97, 115] ++ le4 g ++ le4 size ++ le4 sum
set_option maxHeartbeats 2000000 in
set_option maxRecDepth 100000 in
theorem slotPrint_walk (g size sum : Nat) (w : World) (h1 : 1 ≤ g) (h2 : g ≤ 2147483647) (h3 : size ≤ 2147483647) (h4 : sum ≤ 4294967295) :
    Calls Tryz.prog 47 #[.agg #[.int .i64 g, .int .i64 size, .int .i64 sum]] w fun e w' => e = .returned (.tuple #[.string (sealS (slotL g size sum)), .int .i64 0]) ∧ Below w.heap.size w w' := by
  have hcv := fun (w : World) => Lib.run_convert_bytes_const (P := Tryz.prog) w 83 5 #[.int .u8 97, .int .u8 115] 2 2 Tryz.underlying83 Tryz.underlying5
  have hi0 : ∀ w : World, (Instr.index 149 (.agg #[.int .i64 g, .int .i64 size, .int .i64 sum]) (.int .i64 0)).run Tryz.prog w = .ok (.int .i64 g) w := fun w => by kernel_rfl
  have hi1 : ∀ w : World, (Instr.index 149 (.agg #[.int .i64 g, .int .i64 size, .int .i64 sum]) (.int .i64 1)).run Tryz.prog w = .ok (.int .i64 size) w := fun w => by kernel_rfl
  have hi2 : ∀ w : World, (Instr.index 149 (.agg #[.int .i64 g, .int .i64 size, .int .i64 sum]) (.int .i64 2)).run Tryz.prog w = .ok (.int .i64 sum) w := fun w => by kernel_rfl
  have HG := Aside0.mk (And.intro h1 h2)
  have H3 := Aside0.mk h3
  have H4 := Aside0.mk h4
  clear h1 h2 h3 h4
  go_enter Tryz.func47, Tryz.ntmps47
  go_wp2_with (first | (go_at_call 79; (with_reducible refine (slotRight_walk g size sum _ HG.out.1 HG.out.2 H3.out H4.out).mono ?_); rintro e w1 ⟨rfl, hb⟩; have HB1 := Aside0.mk hb; have hx := (blk_cell (blk_below (blk_new w (.cells #[.int .i64 g, .int .i64 size, .int .i64 sum] 107)) hb) 0).trans (show _ = some (Value.int .i64 g) from rfl); have hy := (blk_cell (blk_below (blk_new w (.cells #[.int .i64 g, .int .i64 size, .int .i64 sum] 107)) hb) 1).trans (show _ = some (Value.int .i64 size) from rfl); have hz := (blk_cell (blk_below (blk_new w (.cells #[.int .i64 g, .int .i64 size, .int .i64 sum] 107)) hb) 2).trans (show _ = some (Value.int .i64 sum) from rfl); have zz : w.heap.size < w1.heap.size := (by have := below_size hb; simp at this; omega); have HB2i := Aside0.mk (show Below w.heap.size w w1 from below_step (below_alloc (Below.refl _ _) _) hb); have HB2l := Aside0.mk (below_alloc HB2i.out (.cells #[.int .u8 97, .int .u8 115] 5)); clear hb))
  have E1 := Aside0.mk (app_t1 w1)
  have HBW := Aside0.mk (below_alloc HB2i.out (.cells #[.int .u8 97, .int .u8 115] 5 (2, 3)))
  revert E1 HBW
  generalize w1.alloc (.cells #[.int .u8 97, .int .u8 115] 5 (2, 3)) = W2
  intro E1 HBW
  refine wp_loop_rounds 4 ?_
  rw [rounds_succ]
  go_wp2_with (first | (go_at_call 69; (with_reducible refine (put4_walk _ _ (by have := HG.out; omega)).mono ?_); rintro e w' ⟨rfl, rfl⟩) | ((with_reducible refine gate_builtin (b := .append) (xs := #[.tmp 22, .tmp 24]) rfl ?_); at_builtin; obtain ⟨v2, w2, happ, ho, hb⟩ := app_t5 W2 ⟨w1.heap.size, 0, none⟩ (g : Int) [97, 115] 2 E1.out (by decide); refine Lib.wpList_append_run _ rfl _ _ _ _ rfl _ _ rfl rfl _ _ happ ?_; have HB2 := Aside0.mk (show Below w.heap.size w w2 from below_step HBW.out hb); have HO2 := Aside0.mk (R_base ho (below_size HBW.out)); clear ho hb happ))
  rw [rounds_succ]
  go_wp2_with (first | (go_at_call 69; (with_reducible refine (put4_walk _ _ (by have := H3.out; omega)).mono ?_); rintro e w' ⟨rfl, rfl⟩) | ((with_reducible refine gate_builtin (b := .append) (xs := #[.tmp 22, .tmp 24]) rfl ?_); at_builtin; refine Kd.R_append_rows (Kd.int .u8) (w0 := w) w.heap.size rfl (.tmp 22) (.tmp 24) 83 5 (.int .u8 0) 1 rfl Tryz.underlying83 info_u8 rfl (by decide) (by omega) _ ([97, 115] ++ le4 g) (le4 (size : Int)) _ 4 4 (fun _ => True) (fun _ => False) rfl rfl (Kd.R_alloc HO2.out _) (C_cells _ _ (le4 (size : Int)) (0, 0) (blk_new _ _) (show (4 : Nat) ≤ _ by decide)) (fun _ _ h => h) (fun _ h => h.elim) (fun _ _ => trivial) (below_alloc HB2.out _) (below_size (below_alloc HB2.out _)) (by simp [le4]) ?_; intro v3 w3 ho hb hg hat; have HO3 := Aside0.mk ho; have HB3 := Aside0.mk hb; clear ho hb hg hat))
  rw [rounds_succ]
  go_wp2_with (first | (go_at_call 69; (with_reducible refine (put4_walk _ _ (H4.out)).mono ?_); rintro e w' ⟨rfl, rfl⟩) | ((with_reducible refine gate_builtin (b := .append) (xs := #[.tmp 22, .tmp 24]) rfl ?_); at_builtin; refine Kd.R_append_rows (Kd.int .u8) (w0 := w) w.heap.size rfl (.tmp 22) (.tmp 24) 83 5 (.int .u8 0) 1 rfl Tryz.underlying83 info_u8 rfl (by decide) (by omega) _ ([97, 115] ++ le4 g ++ le4 size) (le4 (sum : Int)) _ 4 4 (fun _ => True) (fun _ => False) rfl rfl (Kd.R_alloc HO3.out _) (C_cells _ _ (le4 (sum : Int)) (0, 0) (blk_new _ _) (show (4 : Nat) ≤ _ by decide)) (fun _ _ h => h) (fun _ h => h.elim) (fun _ _ => trivial) (below_alloc HB3.out _) (below_size (below_alloc HB3.out _)) (by simp [le4]) ?_; intro v4 w4 ho hb hg hat; have HO4 := Aside0.mk ho; have HB4 := Aside0.mk hb; clear ho hb hg hat))
  obtain ⟨L, hL⟩ : ∃ L, L = slotL g size sum := ⟨_, rfl⟩
  have ho4 : (Kd.int .u8).R 5 w4 w.heap.size (fun _ => True) v4 L := by rw [hL]; exact HO4.out
  have hLl : L.length = 14 := by rw [hL]; rfl
  have hLb : ∀ x ∈ L, 0 ≤ x ∧ x < 256 := by
    rw [hL]
    intro x hx
    unfold slotL at hx
    have h4 := H4.out
    have h3 := H3.out
    have hg := HG.out
    simp only [List.mem_append, le4, List.mem_cons, List.not_mem_nil, or_false] at hx
    omega
  have HL := Aside0.mk hL
  have HLL := Aside0.mk hLl
  have HLB := Aside0.mk hLb
  have HO5 := Aside0.mk ho4
  clear hL hLl hLb ho4
  clear HO4
  obtain ⟨A4, c4, rfl⟩ := Kd.R_slice HO5.out
  rw [rounds_succ]
  go_wp2_with (first | (go_at_call 80; (with_reducible refine (seal_walk A4 c4 L _ (Kd.R_reads' HO5.out).2.2 HLB.out (by rw [HLL.out]; decide)).mono ?_); rintro e w5 ⟨rfl, hb⟩; have HB5 := Aside0.mk (show Below w.heap.size w w5 from below_step HB4.out hb); clear hb))
  go_ret2
  exact ⟨by rw [HL.out]; rfl, HB5.out⟩
set_option maxHeartbeats 2000000 in
set_option maxRecDepth 100000 in
theorem slotBook_walk (A : Option Addr) (c : Nat) (l : List Int) (w : World) (hr : Kd.C (Kd.int .u8) w A l.length l) (hl : ∀ x ∈ l, 0 ≤ x ∧ x < 256) (hn : l.length ≤ 100000) :
    Calls Tryz.prog 46 #[.slice A l.length c] w fun e w' => ∃ s : Nat, e = .returned (.tuple #[.int .i64 l.length, .int .i64 s]) ∧ sumF l = (s : Int) ∧ s < 4294967296 ∧ w' = w := by
  have HS := Aside0.mk (sum_walk A c l w hr hl hn)
  clear hr hl hn
  go_enter Tryz.func46, Tryz.ntmps46
  go_wp2_with (first | (go_at_call 78; (with_reducible refine HS.out.mono ?_); rintro e w1 ⟨s, rfl, h1, h2, rfl⟩; have H1 := Aside0.mk h1; have H2 := Aside0.mk h2; clear h1 h2))
  go_ret2
  exact ⟨s, rfl, H1.out, H2.out, rfl⟩
end Go.Proofs.YtodejilhgpejnaaGreat.Q
