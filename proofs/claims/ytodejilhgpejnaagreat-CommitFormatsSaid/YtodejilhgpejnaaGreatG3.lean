import Derived.Test.YtodejilhgpejnaaGreatG2
import Derived.LoopN
namespace Go.Proofs.YtodejilhgpejnaaGreat.Q
open Go.RowKit Go.Proofs.YtodejilhgpejnaaGreatW.PrintWords Go.Proofs.YtodejilhgpejnaaGreatW.PrintLast Go.Proofs.YtodejilhgpejnaaGreatW.PrintMore
attribute [local go_sem] max2_int min2_int max_two min_two max_three min_three max_four min_four
set_option linter.unusedVariables false
set_option linter.unusedSimpArgs false
theorem bxor_comm (a b : Int) : bits .xor .u32 a b = bits .xor .u32 b a := by
  have h : (BitVec.ofInt 32 a ^^^ BitVec.ofInt 32 b) = (BitVec.ofInt 32 b ^^^ BitVec.ofInt 32 a) := BitVec.xor_comm _ _
  unfold bits
  show IntKind.u32.wrap ((BitVec.ofInt 32 a ^^^ BitVec.ofInt 32 b).toNat : Int) = IntKind.u32.wrap ((BitVec.ofInt 32 b ^^^ BitVec.ofInt 32 a).toNat : Int)
  rw [h]
theorem band_one (x : Nat) (hx : x < 4294967296) : bits .and .u32 (x : Int) 1 = (x : Int) % 2 := by
  have h := bits_mask .u32 32 (by decide) (fun n h0 h1 => by rw [IntKind.wrap_u32]; omega) 1 (by decide) (x : Int) (by omega) (by omega)
  exact h
theorem bit_odd (x : Nat) (hx : x < 4294967296) (h : (x : Int) % 2 = 1) : bitF (x : Int) = bits .xor .u32 ((x / 2 : Nat) : Int) 3988292384 := by
  unfold bitF
  rw [band_one x hx, h, if_pos (by decide)]
  rfl
theorem bit_even (x : Nat) (hx : x < 4294967296) (h : ¬ (x : Int) % 2 = 1) : bitF (x : Int) = ((x / 2 : Nat) : Int) := by
  unfold bitF
  rw [band_one x hx, if_neg (by simpa using h)]
  rfl
set_option maxHeartbeats 4000000 in
set_option maxRecDepth 100000 in
theorem refSum_walk (A : Option Addr) (c : Nat) (l : List Int) (w : World) (hr : Kd.C (Kd.int .u8) w A l.length l) (hl : ∀ x ∈ l, 0 ≤ x ∧ x < 256) (hn : l.length ≤ 100000) :
    Calls Tryz.prog 95 #[.slice A l.length c] w fun e w' => ∃ s : Nat, e = .returned (.int .i64 s) ∧ sumF l = (s : Int) ∧ s < 4294967296 ∧ w' = w := by
  have HR := Aside0.mk hr
  have HL := Aside0.mk hl
  have HN := Aside0.mk hn
  clear hr hl
  go_enter Tryz.func95, Tryz.ntmps95
  go_wp2
  go_loopg [3, 4, 5, 6] l.length (fun g s3 s4 s5 s6 wr => ∃ (k x : Nat), wr = w ∧ s3 = .int .i64 x ∧ s4 = .int .i64 k ∧ k + g = l.length ∧ Aside0 (x < 4294967296 ∧ (l.take k).foldl byteF 4294967295 = (x : Int)))
  case atStart => exact ⟨0, 4294967295, rfl, rfl, rfl, by omega, by decide, rfl⟩
  case round =>
    obtain ⟨k, x, rfl, rfl, rfl, hk, HX⟩ := hrel
    by_cases hlt : k < l.length
    · obtain ⟨g1, rfl⟩ : ∃ g1, gk = g1 + 1 := ⟨gk - 1, by omega⟩
      have c1 : decide (k < l.length) = true := decide_eq_true hlt
      have c2 : (k < l.length) = True := eq_true hlt
      have c3 : decide ((k : Int) < (l.length : Int)) = true := decide_eq_true (by omega)
      obtain ⟨ad, rfl, hy⟩ := Kd.at_int HR.out (k : Int) (by omega) (by omega)
      rw [Int.toNat_natCast] at hy
      have hyb : 0 ≤ rd l (k : Int) ∧ rd l (k : Int) < 256 := HL.out _ (by unfold rd; rw [Int.toNat_natCast, List.getD_eq_getElem?_getD, List.getElem?_eq_getElem hlt]; exact List.getElem_mem _)
      obtain ⟨y, hy1⟩ : ∃ y : Nat, rd l (k : Int) = (y : Int) := ⟨(rd l (k : Int)).toNat, by omega⟩
      rw [hy1] at hy hyb
      have HY := Aside0.mk (And.intro hy1 (show y < 256 by omega))
      have HK := Aside0.mk (And.intro hlt hk)
      have HW := Aside0.mk (show wrap64 ((k : Int) + 1) = ((k + 1 : Nat) : Int) by unfold wrap64; omega)
      obtain ⟨m0, hm0, hm1⟩ := bits_nat .xor (x : Int) (y : Int)
      have HM0 := Aside0.mk (And.intro hm0 hm1)
      have HXW := Aside0.mk (fun W => xor_walk x y W HX.out.1 (by have := HY.out.2; omega))
      have HF := Aside0.mk (show ∀ m : Nat, itN bitF 8 (m0 : Int) = (m : Int) → (l.take (k + 1)).foldl byteF 4294967295 = (m : Int) from fun m hm => by
        rw [take_rd l k hlt, List.foldl_append, HX.out.2, hy1]
        show byteF (x : Int) (y : Int) = _
        unfold byteF
        rw [hm0, hm])
      have hw1 : wrap64 (y : Int) = (y : Int) := by unfold wrap64; omega
      clear hy1 hlt hk hyb hm0 hm1
      go_wp2_with (first | (go_at_call 112; (with_reducible refine (HXW.out _).mono ?_); rintro e w' ⟨he, hw⟩; rw [HM0.out.1] at he; subst he; subst hw) | fail)
      go_loopg [3, 5, 6] 8 (fun g s3 s5 s6 wr2 => ∃ (j z : Nat), wr2 = wr ∧ s3 = .int .i64 z ∧ s5 = .int .i64 j ∧ j + g = 8 ∧ Aside0 (z < 4294967296 ∧ itN bitF j (m0 : Int) = (z : Int)))
      case atStart => exact ⟨0, m0, rfl, rfl, rfl, rfl, HM0.out.2, rfl⟩
      case round =>
        obtain ⟨j, z, rfl, rfl, rfl, hj, HZ⟩ := hrel
        by_cases h8 : j < 8
        · obtain ⟨g2, rfl⟩ : ∃ g2, gk = g2 + 1 := ⟨gk - 1, by omega⟩
          have d1 : decide ((j : Int) < 8) = true := decide_eq_true (by omega)
          have d2 : decide (j < 8) = true := decide_eq_true h8
          have HJ := Aside0.mk (And.intro h8 hj)
          have HW2 := Aside0.mk (show wrap64 ((j : Int) + 1) = ((j + 1 : Nat) : Int) by unfold wrap64; omega)
          have HZW := Aside0.mk (show wrap64 ((z : Int) / 2) = (z : Int) / 2 by have := HZ.out.1; unfold wrap64; omega)
          have HH := Aside0.mk (show ((z : Int) / 2) = ((z / 2 : Nat) : Int) by omega)
          by_cases ho : (z : Int) % 2 = 1
          · have o1 : ((z : Int) % 2 == 1) = true := by simp [ho]
            obtain ⟨m, hm, hm2⟩ := bits_nat .xor ((z / 2 : Nat) : Int) 3988292384
            have HM := Aside0.mk (And.intro hm hm2)
            have HB := Aside0.mk (show itN bitF (j + 1) (m0 : Int) = (m : Int) by rw [itN, HZ.out.2, bit_odd z HZ.out.1 ho, hm])
            have HXV := Aside0.mk (show ∀ W, Calls Tryz.prog 112 #[.int .i64 ((z : Int) / 2), .int .i64 3988292384] W fun e w' => e = .returned (.int .i64 (m : Int)) ∧ W = w' from fun W => by
              have h := xor_walk (z / 2) 3988292384 W (by have := HZ.out.1; omega) (by decide)
              rw [← HH.out] at h
              rw [← HH.out] at hm
              rw [show ((3988292384 : Nat) : Int) = 3988292384 from rfl, hm] at h
              exact h)
            have hzw := HZW.out
            clear h8 hj hm hm2
            go_wp2_with (first | (go_at_call 112; (with_reducible refine (HXV.out _).mono ?_); rintro e w' ⟨rfl, rfl⟩) | fail)
            clear hzw
            go_roundg g2
            case measure => omega
            case rel => exact ⟨j + 1, m, rfl, rfl, by rw [HW2.out], by have := HJ.out.2; omega, HM.out.2, HB.out⟩
          · have o1 : ((z : Int) % 2 == 1) = false := by simp [ho]
            have HB := Aside0.mk (show itN bitF (j + 1) (m0 : Int) = ((z / 2 : Nat) : Int) by rw [itN, HZ.out.2, bit_even z HZ.out.1 ho])
            have hzw := HZW.out
            clear h8 hj
            go_wp2
            clear hzw
            go_roundg g2
            case measure => omega
            case rel => exact ⟨j + 1, z / 2, rfl, by first | (rw [HZW.out, HH.out]; done) | (rw [HH.out]; done), by rw [HW2.out], by have := HJ.out.2; omega, by have := HZ.out.1; omega, HB.out⟩
        · obtain rfl : j = 8 := by omega
          have HZ2 := Aside0.mk (And.intro HZ.out.1 (HF.out z HZ.out.2))
          clear h8 hj
          go_wp2
          go_roundg g1
          case measure => omega
          case rel => exact ⟨k + 1, z, rfl, rfl, by rw [HW.out], by have := HK.out.2; omega, HZ2⟩
    · have c1 : decide (k < l.length) = false := decide_eq_false hlt
      have c2 : (k < l.length) = False := eq_false hlt
      have c3 : decide ((k : Int) < (l.length : Int)) = false := decide_eq_false (by omega)
      obtain rfl : k = l.length := by omega
      obtain ⟨s, hs1, hs2⟩ := bits_nat .xor (x : Int) 4294967295
      have hx := HX.out.2
      rw [List.take_length] at hx
      have HS2 := Aside0.mk (show sumF l = (s : Int) by unfold sumF; rw [hx, bxor_comm, show IntKind.u32.max = 4294967295 from rfl, hs1])
      have HS3 := Aside0.mk hs2
      have HXV := Aside0.mk (show ∀ W, Calls Tryz.prog 112 #[.int .i64 (x : Int), .int .i64 4294967295] W fun e w' => e = .returned (.int .i64 (s : Int)) ∧ W = w' from fun W => by
        have h := xor_walk x 4294967295 W HX.out.1 (by decide)
        rw [show ((4294967295 : Nat) : Int) = 4294967295 from rfl, hs1] at h
        exact h)
      clear hs1 hs2 hx hk hlt
      go_wp2_with (first | (go_at_call 112; (with_reducible refine (HXV.out _).mono ?_); rintro e w' ⟨rfl, rfl⟩) | fail)
      go_ret
      exact ⟨s, rfl, HS2.out, HS3.out, rfl⟩
end Go.Proofs.YtodejilhgpejnaaGreat.Q
namespace Go.Proofs.YtodejilhgpejnaaGreat.Q
open Go.RowKit Go.Proofs.YtodejilhgpejnaaGreatW.PrintWords Go.Proofs.YtodejilhgpejnaaGreatW.PrintLast Go.Proofs.YtodejilhgpejnaaGreatW.PrintMore
attribute [local go_sem] max2_int min2_int max_two min_two max_three min_three max_four min_four
set_option linter.unusedVariables false
set_option linter.unusedSimpArgs false
theorem refRight_walk (g size sum : Nat) (w : World) (h1 : 1 ≤ g) (h2 : g ≤ 2147483647) (h3 : size ≤ 2147483647) (h4 : sum ≤ 4294967295) :
    Calls Tryz.prog 96 #[.agg #[.int .i64 g, .int .i64 size, .int .i64 sum]] w fun e w' => e = .returned (.bool true) ∧ Below w.heap.size w w' := by
  have c1 : decide ((1 : Int) ≤ (g : Int)) = true := decide_eq_true (by omega)
  have c2 : decide ((g : Int) ≤ 2147483647) = true := decide_eq_true (by omega)
  have c3 : decide ((0 : Int) ≤ (size : Int)) = true := decide_eq_true (by omega)
  have c4 : decide ((size : Int) ≤ 2147483647) = true := decide_eq_true (by omega)
  have c5 : decide ((0 : Int) ≤ (sum : Int)) = true := decide_eq_true (by omega)
  have c6 : decide ((sum : Int) ≤ 4294967295) = true := decide_eq_true (by omega)
  clear h1 h2 h3 h4
  go_enter Tryz.func96, Tryz.ntmps96
  go_wp2
  go_ret
  exact ⟨rfl, below_alloc (Below.refl _ _) _⟩
set_option maxHeartbeats 4000000 in
set_option maxRecDepth 100000 in
theorem refSeal_walk (A : Option Addr) (c : Nat) (l : List Int) (w : World) (hr : Kd.C (Kd.int .u8) w A l.length l) (hl : ∀ x ∈ l, 0 ≤ x ∧ x < 256) (hn : l.length ≤ 36) (h0 : 0 < l.length) :
    Calls Tryz.prog 93 #[.slice A l.length c] w fun e w' => e = .returned (.tuple #[.string (sealS l), .int .i64 0]) ∧ Below w.heap.size w w' := by
  have hp : (padF l).length = 36 := pad_len l hn
  have hpl : ∀ x ∈ padF l, 0 ≤ x ∧ x < 256 := by
    intro x hx
    unfold padF at hx
    rcases List.mem_append.1 hx with hx | hx
    · exact hl x hx
    · rw [List.eq_of_mem_replicate hx]; omega
  have c1 : decide ((36 : Int) < (l.length : Int)) = false := decide_eq_false (by omega)
  have c2 : decide (36 < l.length) = false := decide_eq_false (by omega)
  have HR := Aside0.mk hr
  have HN := Aside0.mk (And.intro hn h0)
  have HP := Aside0.mk hp
  have HSUM := Aside0.mk (fun (B : Option Addr) (d : Nat) (W : World) (h : Kd.C (Kd.int .u8) W B 36 (padF l)) => by
    have h2 := refSum_walk B d (padF l) W (by rw [hp]; exact h) hpl (by omega)
    rwa [hp] at h2)
  have HE0 := Aside0.mk (show Kd.R (Kd.int .u8) 5 (w.alloc (.cells #[] 5)) w.heap.size (fun _ => True) (.slice (some ⟨w.heap.size, 0, none⟩) 0 0) [] from lit_R w w.heap.size [] (Nat.le_refl _) (by decide))
  clear hr hl hn hp hpl h0
  go_enter Tryz.func93, Tryz.ntmps93
  go_wp2_with (first | ((with_reducible refine gate_builtin (b := .append) (xs := #[.tmp 8, .tmp 9]) rfl ?_); at_builtin; refine Kd.R_append_rows (Kd.int .u8) (w0 := w) w.heap.size rfl (.tmp 8) (.tmp 9) 83 5 (.int .u8 0) 1 rfl Tryz.underlying83 info_u8 rfl (by decide) (by have := HN.out; omega) _ [] l A l.length c (fun _ => True) (fun _ => False) rfl rfl HE0.out (Kd.C_alloc HR.out _) (fun _ _ h => h) (fun _ h => h.elim) (fun _ _ => trivial) (below_alloc (Below.refl _ _) _) (below_size (below_alloc (Below.refl w.heap.size w) _)) (by have := HN.out; simp; omega) ?_; intro v1 w1 ho hb hg hat; have HO1 := Aside0.mk ho; have HB1 := Aside0.mk hb; clear ho hb hg hat) | fail)
  go_loopg [4] (36 - l.length) (fun g s4 wr => ∃ k : Nat, k + g = 36 - l.length ∧ Aside0 (Kd.R (Kd.int .u8) 5 wr w.heap.size (fun _ => True) s4 (l ++ List.replicate k 0)) ∧ Aside0 (Below w.heap.size w wr))
  case atStart => exact ⟨0, by omega, ⟨by simpa using HO1.out⟩, HB1⟩
  case round =>
    obtain ⟨k, hk, HO, HB⟩ := hrel
    obtain ⟨B, d, rfl⟩ := Kd.R_slice HO.out
    have hln : (l ++ List.replicate k (0 : Int)).length = l.length + k := by simp
    rw [hln] at HO ⊢
    by_cases hlt : k < 36 - l.length
    · obtain ⟨g1, rfl⟩ : ∃ g1, gk = g1 + 1 := ⟨gk - 1, by omega⟩
      have r1 : decide (((l.length + k : Nat) : Int) < 36) = true := decide_eq_true (by omega)
      have r2 : decide ((l.length : Int) + (k : Int) < 36) = true := decide_eq_true (by omega)
      have r3 : decide (l.length + k < 36) = true := decide_eq_true (by omega)
      have HK := Aside0.mk (show k ≤ 36 by omega)
      have HKK := Aside0.mk (And.intro hk hlt)
      clear hk hlt hln
      go_wp2_with (first | ((with_reducible refine gate_builtin (b := .append) (xs := #[.tmp 14, .tmp 15]) rfl ?_); at_builtin; refine Kd.R_append (Kd.int .u8) (w0 := w) w.heap.size rfl (.tmp 14) (.tmp 15) 83 5 (.int .u8 0) 1 rfl Tryz.underlying83 info_u8 rfl (by decide) (by decide) _ _ 0 [.int .u8 0] (fun _ => True) (fun _ => False) rfl rfl rfl (fun _ h => h.elim) (fun _ _ => trivial) HO.out HB.out HB.out.size (by have := HN.out; have := HK.out; simp; omega) ?_; intro v2 w2 ho hb hg hat; have HO2 := Aside0.mk ho; have HB2 := Aside0.mk hb; clear ho hb hg hat) | fail)
      go_roundg g1
      case measure => omega
      case rel => exact ⟨k + 1, by have := HKK.out; omega, ⟨by have := HO2.out; rwa [List.append_assoc, show List.replicate k (0 : Int) ++ [0] = List.replicate (k + 1) 0 by rw [List.replicate_succ']] at this⟩, HB2⟩
    · have r1 : decide (((l.length + k : Nat) : Int) < 36) = false := decide_eq_false (by omega)
      have r2 : decide ((l.length : Int) + (k : Int) < 36) = false := decide_eq_false (by omega)
      have r3 : decide (l.length + k < 36) = false := decide_eq_false (by omega)
      have hk2 : k = 36 - l.length := by omega
      have h36 : l.length + k = 36 := by have := HN.out.1; omega
      have hpd : l ++ List.replicate k (0 : Int) = padF l := by unfold padF; rw [hk2]
      rw [hpd] at HO
      clear r1 r2 r3
      rw [h36] at HO ⊢
      have HOC := Aside0.mk (show Kd.C (Kd.int .u8) wr B 36 (padF l) by have := (Kd.R_reads' HO.out).2.2; rwa [HP.out] at this)
      clear hk hlt hln hk2 h36 hpd
      go_wp2_with (first | (go_at_call 95; (with_reducible refine (HSUM.out _ _ _ HOC.out).mono ?_); rintro e w2 ⟨s, rfl, hs1, hs2, rfl⟩; have HS1 := Aside0.mk hs1; have HS2 := Aside0.mk hs2; clear hs1 hs2) | (go_at_call 90; (with_reducible refine (refPut4_walk s _ (by have := HS2.out; omega)).mono ?_); rintro e w3 ⟨A3, c3, rfl, hc3, hr3, hb3⟩; have HB3 := Aside0.mk hb3; have HR3 := Aside0.mk (And.intro hc3 hr3); clear hc3 hr3 hb3) | ((with_reducible refine gate_builtin (b := .append) (xs := #[.tmp 17, .tmp 20]) rfl ?_); at_builtin; refine Kd.R_append_rows (Kd.int .u8) (w0 := w) w.heap.size rfl (.tmp 17) (.tmp 20) 83 5 (.int .u8 0) 1 rfl Tryz.underlying83 info_u8 rfl (by decide) (by decide) _ (padF l) (le4 (s : Int)) A3 4 c3 (fun _ => True) (fun _ => False) rfl rfl (Kd.R_below HO.out HB3.out) HR3.out.2 (fun _ _ h => h) (fun _ h => h.elim) (fun _ _ => trivial) (below_step HB.out HB3.out) (below_size (below_step HB.out HB3.out)) (by rw [HP.out]; decide) ?_; intro v1 w4 ho hb hg hat; obtain ⟨L, hL⟩ : ∃ L, L = padF l ++ le4 (s : Int) := ⟨_, rfl⟩; rw [← hL] at ho; obtain ⟨A2, c2, rfl⟩ := Kd.R_slice ho; have HCV := Kd.C_string (P := Tryz.prog) (c := c2) Tryz.underlying83 Tryz.underlying5 Tryz.underlying9 (Kd.R_reads' ho).2.2; have HLL := Aside0.mk hL; have HB4 := Aside0.mk hb; clear ho hb hg hat hL) | fail)
      go_ret2
      exact ⟨by rw [HLL.out, ← HS1.out]; rfl, HB4.out⟩
end Go.Proofs.YtodejilhgpejnaaGreat.Q
namespace Go.Proofs.YtodejilhgpejnaaGreat.Q
open Go.RowKit Go.Proofs.YtodejilhgpejnaaGreatW.PrintWords Go.Proofs.YtodejilhgpejnaaGreatW.PrintLast Go.Proofs.YtodejilhgpejnaaGreatW.PrintMore
attribute [local go_sem] max2_int min2_int max_two min_two max_three min_three max_four min_four
set_option linter.unusedVariables false
set_option linter.unusedSimpArgs false
abbrev P4C (n : Nat) (i : Int) : Prop := ∀ W : World, Calls Tryz.prog 90 #[.int .i64 i, .int .i64 4] W fun e w' => ∃ A c, e = .returned (.slice A 4 c) ∧ 4 ≤ c ∧ Kd.C (Kd.int .u8) w' A 4 (le4 n) ∧ Below W.heap.size W w'
set_option maxHeartbeats 4000000 in
set_option maxRecDepth 100000 in
theorem refPrint3_walk (g size sum : Nat) (w : World) (h1 : 1 ≤ g) (h2 : g ≤ 2147483647) (h3 : size ≤ 2147483647) (h4 : sum ≤ 4294967295) :
    Calls Tryz.prog 64 #[.agg #[.int .i64 g, .int .i64 size, .int .i64 sum]] w fun e w' => e = .returned (.tuple #[.string (sealS (slotL g size sum)), .int .i64 0]) ∧ Below w.heap.size w w' := by
  have HRI := Aside0.mk (fun W => refRight_walk g size sum W h1 h2 h3 h4)
  have HP1 := Aside0.mk (show P4C g g from fun W => refPut4_walk g W (by omega))
  have HP2 := Aside0.mk (show P4C size size from fun W => refPut4_walk size W (by omega))
  have HP3 := Aside0.mk (show P4C sum sum from fun W => refPut4_walk sum W h4)
  have HX0 := Aside0.mk (blk_new w (.cells #[.int .i64 g, .int .i64 size, .int .i64 sum] 107))
  have HNB := Aside0.mk (And.intro h1 (And.intro h2 (And.intro h3 h4)))
  clear h1 h2 h3 h4
  go_enter Tryz.func64, Tryz.ntmps64
  go_upto_region 4 with (first | (go_at_call 96; (with_reducible refine (HRI.out _).mono ?_); rintro e w1 ⟨rfl, hb⟩; have HB1 := Aside0.mk (show Below w.heap.size w w1 from below_step (below_alloc (Below.refl _ _) _) hb); have HX1 := Aside0.mk (blk_below HX0.out hb); clear hb) | fail)
  go_upto_region 5 with fail
  obtain ⟨W2, hW2⟩ : ∃ W2, W2 = w1.alloc (.cells #[.int .u8 97, .int .u8 115] 5) := ⟨_, rfl⟩
  have HO2 := Aside0.mk (show Kd.R (Kd.int .u8) 5 W2 w.heap.size (fun _ => True) (.slice (some ⟨w1.heap.size, 0, none⟩) 2 2) [97, 115] by rw [hW2]; exact lit_R w1 w.heap.size [97, 115] HB1.out.size (show (2 : Nat) ≤ 9223372036854775807 by decide))
  have HB2 := Aside0.mk (show Below w.heap.size w W2 by rw [hW2]; exact below_alloc HB1.out _)
  have HX := Aside0.mk (show W2.heap[w.heap.size]? = some (.cells #[.int .i64 g, .int .i64 size, .int .i64 sum] 107 (0, 0)) by rw [hW2]; exact blk_alloc HX1.out _)
  rw [← hW2]
  clear hW2
  have x0 := (blk_cell HX.out 0).trans (show _ = some (Value.int .i64 g) from rfl)
  go_upto_region 6 with (first | (go_at_call 90; (with_reducible refine (HP1.out _).mono ?_); rintro e w3 ⟨A3, c3, rfl, hc3, hr3, hb3⟩; have HB3 := Aside0.mk hb3; have HR3 := Aside0.mk hr3; clear hc3 hr3 hb3) | ((with_reducible refine gate_builtin (b := .append) (xs := #[.tmp 11, .tmp 14]) rfl ?_); at_builtin; refine Kd.R_append_rows (Kd.int .u8) (w0 := w) w.heap.size rfl (.tmp 11) (.tmp 14) 83 5 (.int .u8 0) 1 rfl Tryz.underlying83 info_u8 rfl (by decide) (by decide) _ ([97, 115]) (le4 g) A3 4 c3 (fun _ => True) (fun _ => False) rfl rfl (Kd.R_below HO2.out HB3.out) HR3.out (fun _ _ h => h) (fun _ h => h.elim) (fun _ _ => trivial) (below_step HB2.out HB3.out) (below_size (below_step HB2.out HB3.out)) (by simp [le4]) ?_; intro v1 w4 ho hb hg hat; have HO3 := Aside0.mk ho; have HB4 := Aside0.mk hb; have HX := Aside0.mk (blk_grown (blk_below HX.out HB3.out) hg (Kd.R_ne (Kd.R_below HO2.out HB3.out) (blk_below HX.out HB3.out) (by decide))); clear ho hb hg hat) | fail)
  clear x0
  have x1 := (blk_cell HX.out 1).trans (show _ = some (Value.int .i64 size) from rfl)
  go_upto_region 7 with (first | (go_at_call 90; (with_reducible refine (HP2.out _).mono ?_); rintro e w3 ⟨A3, c3, rfl, hc3, hr3, hb3⟩; have HB3 := Aside0.mk hb3; have HR3 := Aside0.mk hr3; clear hc3 hr3 hb3) | ((with_reducible refine gate_builtin (b := .append) (xs := #[.tmp 16, .tmp 19]) rfl ?_); at_builtin; refine Kd.R_append_rows (Kd.int .u8) (w0 := w) w.heap.size rfl (.tmp 16) (.tmp 19) 83 5 (.int .u8 0) 1 rfl Tryz.underlying83 info_u8 rfl (by decide) (by decide) _ ([97, 115] ++ le4 g) (le4 size) A3 4 c3 (fun _ => True) (fun _ => False) rfl rfl (Kd.R_below HO3.out HB3.out) HR3.out (fun _ _ h => h) (fun _ h => h.elim) (fun _ _ => trivial) (below_step HB4.out HB3.out) (below_size (below_step HB4.out HB3.out)) (by simp [le4]) ?_; intro v1 w4 ho hb hg hat; have HO5 := Aside0.mk ho; have HB6 := Aside0.mk hb; have HX := Aside0.mk (blk_grown (blk_below HX.out HB3.out) hg (Kd.R_ne (Kd.R_below HO3.out HB3.out) (blk_below HX.out HB3.out) (by decide))); clear ho hb hg hat) | fail)
  clear x1
  have x2 := (blk_cell HX.out 2).trans (show _ = some (Value.int .i64 sum) from rfl)
  go_upto_region 8 with (first | (go_at_call 90; (with_reducible refine (HP3.out _).mono ?_); rintro e w3 ⟨A3, c3, rfl, hc3, hr3, hb3⟩; have HB3 := Aside0.mk hb3; have HR3 := Aside0.mk hr3; clear hc3 hr3 hb3) | ((with_reducible refine gate_builtin (b := .append) (xs := #[.tmp 21, .tmp 24]) rfl ?_); at_builtin; refine Kd.R_append_rows (Kd.int .u8) (w0 := w) w.heap.size rfl (.tmp 21) (.tmp 24) 83 5 (.int .u8 0) 1 rfl Tryz.underlying83 info_u8 rfl (by decide) (by decide) _ ([97, 115] ++ le4 g ++ le4 size) (le4 sum) A3 4 c3 (fun _ => True) (fun _ => False) rfl rfl (Kd.R_below HO5.out HB3.out) HR3.out (fun _ _ h => h) (fun _ h => h.elim) (fun _ _ => trivial) (below_step HB6.out HB3.out) (below_size (below_step HB6.out HB3.out)) (by simp [le4]) ?_; intro v1 w4 ho hb hg hat; have HO7 := Aside0.mk ho; have HB8 := Aside0.mk hb; have HX := Aside0.mk (blk_grown (blk_below HX.out HB3.out) hg (Kd.R_ne (Kd.R_below HO5.out HB3.out) (blk_below HX.out HB3.out) (by decide))); clear ho hb hg hat) | fail)
  clear x2
  obtain ⟨L, hL⟩ : ∃ L, L = slotL g size sum := ⟨_, rfl⟩
  have ho8 := HO7.out
  rw [show [97, 115] ++ le4 (g : Int) ++ le4 (size : Int) ++ le4 (sum : Int) = L from hL.symm] at ho8
  have hLl : L.length = 14 := by rw [hL]; rfl
  have hLb : ∀ x ∈ L, 0 ≤ x ∧ x < 256 := by
    rw [hL]
    intro x hx
    unfold slotL at hx
    have := HNB.out
    simp only [List.mem_append, le4, List.mem_cons, List.not_mem_nil, or_false] at hx
    omega
  obtain ⟨A4, c4, rfl⟩ := Kd.R_slice ho8
  have HSE := Aside0.mk (fun (W : World) (h : Kd.C (Kd.int .u8) W A4 L.length L) => refSeal_walk A4 c4 L W h hLb (by omega) (by omega))
  have HC8 := Aside0.mk (Kd.R_reads' ho8).2.2
  have HLL := Aside0.mk hL
  clear ho8 hL hLl hLb
  go_wp2_with (first | (go_at_call 93; (with_reducible refine (HSE.out _ HC8.out).mono ?_); rintro e w9 ⟨rfl, hb⟩; have HB9 := Aside0.mk (below_step HB8.out hb); clear hb) | fail)
  go_ret2
  exact ⟨by rw [HLL.out]; rfl, HB9.out⟩
theorem refBook_walk (A : Option Addr) (c : Nat) (l : List Int) (w : World) (hr : Kd.C (Kd.int .u8) w A l.length l) (hl : ∀ x ∈ l, 0 ≤ x ∧ x < 256) (hn : l.length ≤ 100000) :
    Calls Tryz.prog 63 #[.slice A l.length c] w fun e w' => ∃ s : Nat, e = .returned (.tuple #[.int .i64 l.length, .int .i64 s]) ∧ sumF l = (s : Int) ∧ s < 4294967296 ∧ w' = w := by
  have HS := Aside0.mk (refSum_walk A c l w hr hl hn)
  clear hr hl hn
  go_enter Tryz.func63, Tryz.ntmps63
  go_wp2_with (first | (go_at_call 95; (with_reducible refine HS.out.mono ?_); rintro e w1 ⟨s, rfl, h1, h2, rfl⟩; have H1 := Aside0.mk h1; have H2 := Aside0.mk h2; clear h1 h2) | fail)
  go_ret2
  exact ⟨s, rfl, H1.out, H2.out, rfl⟩
theorem refTodo_walk (w : World) : Calls Tryz.prog 91 #[.slice none 0 0] w fun e w' => ∃ A c, e = .returned (.slice A 2 c) ∧ 2 ≤ c ∧ Kd.C (Kd.int .u8) w' A 2 [0, 0] ∧ Below w.heap.size w w' := by
  have HP := Aside0.mk (show ∀ W : World, Calls Tryz.prog 90 #[.int .i64 0, .int .i64 2] W fun e w' => ∃ A c, e = .returned (.slice A 2 c) ∧ 2 ≤ c ∧ Kd.C (Kd.int .u8) w' A 2 [0, 0] ∧ Below W.heap.size W w' from fun W => refPut2_walk 0 W (by decide))
  go_enter Tryz.func91, Tryz.ntmps91
  go_wp2_with (first | (go_at_call 90; (with_reducible refine (HP.out _).mono ?_); rintro e w3 ⟨A3, c3, rfl, hc3, hr3, hb3⟩; have HB3 := Aside0.mk hb3; have HR3 := Aside0.mk (And.intro hc3 hr3); clear hc3 hr3 hb3) | fail)
  refine wp_loop_rounds 1 ?_
  rw [rounds_succ]
  go_wp2
  go_ret
  exact ⟨A3, c3, rfl, HR3.out.1, HR3.out.2, HB3.out⟩
end Go.Proofs.YtodejilhgpejnaaGreat.Q
namespace Go.Proofs.YtodejilhgpejnaaGreat.Q
open Go.RowKit Go.Proofs.YtodejilhgpejnaaGreatW.PrintWords Go.Proofs.YtodejilhgpejnaaGreatW.PrintLast Go.Proofs.YtodejilhgpejnaaGreatW.PrintMore
attribute [local go_sem] max2_int min2_int max_two min_two max_three min_three max_four min_four
set_option linter.unusedVariables false
set_option linter.unusedSimpArgs false
def dg2 (n : Nat) : List Int := [(n : Int) % 256, (n : Int) / 256]
set_option maxHeartbeats 4000000 in
set_option maxRecDepth 100000 in
theorem refPrint13_walk (A : Option Addr) (n c keep gen : Nat) (w : World) (hz : ZC w A n) (hn : n ≤ 2000) (hk : keep ≤ 2000) :
    Calls Tryz.prog 59 #[.agg #[.slice A n c, .int .i64 keep, .slice none 0 0, .slice none 0 0, .int .i64 1, .int .i64 gen]] w fun e w' => ∃ v, e = .returned (.tuple #[v, .int .i64 0]) ∧ Kd.R (Kd.int .u8) 5 w' w.heap.size (fun _ => True) v (bookB 1 keep n) ∧ Below w.heap.size w w' := by
  have HX := Aside0.mk (blk_new w (.cells #[.slice A n c, .int .i64 keep, .slice none 0 0, .slice none 0 0, .int .i64 1, .int .i64 gen] 33))
  have HP1 := Aside0.mk (show ∀ W : World, Calls Tryz.prog 90 #[.int .i64 1, .int .i64 4] W fun e w' => ∃ A c, e = .returned (.slice A 4 c) ∧ Kd.R (Kd.int .u8) 5 w' W.heap.size (fun _ => True) (.slice A 4 c) (le4 1) ∧ Below W.heap.size W w' from fun W => refPut4R_walk 1 W (by decide))
  have HP2 := Aside0.mk (show ∀ W : World, Calls Tryz.prog 90 #[.int .i64 0, .int .i64 1] W fun e w' => ∃ A c, e = .returned (.slice A 1 c) ∧ 1 ≤ c ∧ Kd.C (Kd.int .u8) w' A 1 [0] ∧ Below W.heap.size W w' from fun W => refPut1_walk 0 W (by decide))
  have HP3 := Aside0.mk (fun W => refTodo_walk W)
  have HP4 := Aside0.mk (fun W => refPut2_walk keep W (by omega))
  have HP5 := Aside0.mk (fun W => refPut2_walk n W (by omega))
  have HP6 := Aside0.mk (show ∀ W : World, Calls Tryz.prog 90 #[.int .i64 0, .int .i64 2] W fun e w' => ∃ A c, e = .returned (.slice A 2 c) ∧ 2 ≤ c ∧ Kd.C (Kd.int .u8) w' A 2 [0, 0] ∧ Below W.heap.size W w' from fun W => refPut2_walk 0 W (by decide))
  have HZ := Aside0.mk hz
  have HN := Aside0.mk hn
  clear hz hn hk
  go_enter Tryz.func59, Tryz.ntmps59
  go_upto_region 2 with (first | (go_at_call 90; (with_reducible refine (HP1.out _).mono ?_); rintro e w1 ⟨A1, c1, rfl, hr1, hb1⟩; have HB1 := Aside0.mk (show Below w.heap.size w w1 from below_step (below_alloc (Below.refl _ _) _) hb1); have HO1 := Aside0.mk (R_base hr1 (below_size (below_alloc (Below.refl w.heap.size w) _))); have HX := Aside0.mk (blk_below HX.out hb1); clear hr1 hb1) | fail)
  have x2 := (blk_cell HX.out 2).trans (show _ = some (Value.slice none 0 0) from rfl)
  go_upto_region 3 with (first | (go_at_call 90; (with_reducible refine (HP2.out _).mono ?_); rintro e w3 ⟨A3, c3, rfl, hc3, hr3, hb3⟩; have HB3 := Aside0.mk hb3; have HR3 := Aside0.mk hr3; clear hc3 hr3 hb3) | ((with_reducible refine gate_builtin (b := .append) (xs := #[.tmp 10, .tmp 14]) rfl ?_); at_builtin; refine Kd.R_append_rows (Kd.int .u8) (w0 := w) w.heap.size rfl (.tmp 10) (.tmp 14) 83 5 (.int .u8 0) 1 rfl Tryz.underlying83 info_u8 rfl (by decide) (by decide) _ (le4 1) ([0]) A3 1 c3 (fun _ => True) (fun _ => False) rfl rfl (Kd.R_below HO1.out HB3.out) HR3.out (fun _ _ h => h) (fun _ h => h.elim) (fun _ _ => trivial) (below_step HB1.out HB3.out) (below_size (below_step HB1.out HB3.out)) (by simp [le4, dg2]) ?_; intro v1 w4 ho hb hg hat; have HO2 := Aside0.mk ho; have HB2 := Aside0.mk hb; have HX := Aside0.mk (blk_grown (blk_below HX.out HB3.out) hg (Kd.R_ne (Kd.R_below HO1.out HB3.out) (blk_below HX.out HB3.out) (by decide))); have x0 := (blk_cell HX.out 0).trans (show _ = some (Value.slice A n c) from rfl); have x1 := (blk_cell HX.out 1).trans (show _ = some (Value.int .i64 keep) from rfl); have x2 := (blk_cell HX.out 2).trans (show _ = some (Value.slice none 0 0) from rfl); have x3 := (blk_cell HX.out 3).trans (show _ = some (Value.slice none 0 0) from rfl); clear ho hb hg hat) | fail)
  go_wp2
  refine wp_loop_rounds 1 ?_
  rw [rounds_succ]
  go_wp2_with (first | (go_at_call 91; (with_reducible refine (HP3.out _).mono ?_); rintro e w3 ⟨A3, c3, rfl, hc3, hr3, hb3⟩; have HB3 := Aside0.mk hb3; have HR3 := Aside0.mk hr3; clear hc3 hr3 hb3) | (go_at_call 90; (with_reducible refine (HP4.out _).mono ?_); rintro e w3 ⟨A3, c3, rfl, hc3, hr3, hb3⟩; have HB3 := Aside0.mk hb3; have HR3 := Aside0.mk hr3; clear hc3 hr3 hb3) | (go_at_call 90; (with_reducible refine (HP5.out _).mono ?_); rintro e w3 ⟨A3, c3, rfl, hc3, hr3, hb3⟩; have HB3 := Aside0.mk hb3; have HR3 := Aside0.mk hr3; clear hc3 hr3 hb3) | ((with_reducible refine gate_builtin (b := .append) (xs := #[.tmp 42, .tmp 45]) rfl ?_); at_builtin; refine Kd.R_append_rows (Kd.int .u8) (w0 := w) w.heap.size rfl (.tmp 42) (.tmp 45) 83 5 (.int .u8 0) 1 rfl Tryz.underlying83 info_u8 rfl (by decide) (by decide) _ (le4 1 ++ [0]) ([0, 0]) A3 2 c3 (fun _ => True) (fun _ => False) rfl rfl (Kd.R_below HO2.out HB3.out) HR3.out (fun _ _ h => h) (fun _ h => h.elim) (fun _ _ => trivial) (below_step HB2.out HB3.out) (below_size (below_step HB2.out HB3.out)) (by simp [le4, dg2]) ?_; intro v1 w4 ho hb hg hat; have HO5 := Aside0.mk ho; have HB5 := Aside0.mk hb; have HX := Aside0.mk (blk_grown (blk_below HX.out HB3.out) hg (Kd.R_ne (Kd.R_below HO2.out HB3.out) (blk_below HX.out HB3.out) (by decide))); have x0 := (blk_cell HX.out 0).trans (show _ = some (Value.slice A n c) from rfl); have x1 := (blk_cell HX.out 1).trans (show _ = some (Value.int .i64 keep) from rfl); have x2 := (blk_cell HX.out 2).trans (show _ = some (Value.slice none 0 0) from rfl); have x3 := (blk_cell HX.out 3).trans (show _ = some (Value.slice none 0 0) from rfl); clear ho hb hg hat) | ((with_reducible refine gate_builtin (b := .append) (xs := #[.tmp 47, .tmp 51]) rfl ?_); at_builtin; refine Kd.R_append_rows (Kd.int .u8) (w0 := w) w.heap.size rfl (.tmp 47) (.tmp 51) 83 5 (.int .u8 0) 1 rfl Tryz.underlying83 info_u8 rfl (by decide) (by decide) _ (le4 1 ++ [0] ++ [0, 0]) (dg2 keep) A3 2 c3 (fun _ => True) (fun _ => False) rfl rfl (Kd.R_below HO5.out HB3.out) HR3.out (fun _ _ h => h) (fun _ h => h.elim) (fun _ _ => trivial) (below_step HB5.out HB3.out) (below_size (below_step HB5.out HB3.out)) (by simp [le4, dg2]) ?_; intro v1 w4 ho hb hg hat; have HO6 := Aside0.mk ho; have HB6 := Aside0.mk hb; have HX := Aside0.mk (blk_grown (blk_below HX.out HB3.out) hg (Kd.R_ne (Kd.R_below HO5.out HB3.out) (blk_below HX.out HB3.out) (by decide))); have x0 := (blk_cell HX.out 0).trans (show _ = some (Value.slice A n c) from rfl); have x1 := (blk_cell HX.out 1).trans (show _ = some (Value.int .i64 keep) from rfl); have x2 := (blk_cell HX.out 2).trans (show _ = some (Value.slice none 0 0) from rfl); have x3 := (blk_cell HX.out 3).trans (show _ = some (Value.slice none 0 0) from rfl); clear ho hb hg hat) | ((with_reducible refine gate_builtin (b := .append) (xs := #[.tmp 53, .tmp 58]) rfl ?_); at_builtin; refine Kd.R_append_rows (Kd.int .u8) (w0 := w) w.heap.size rfl (.tmp 53) (.tmp 58) 83 5 (.int .u8 0) 1 rfl Tryz.underlying83 info_u8 rfl (by decide) (by decide) _ (le4 1 ++ [0] ++ [0, 0] ++ dg2 keep) (dg2 n) A3 2 c3 (fun _ => True) (fun _ => False) rfl rfl (Kd.R_below HO6.out HB3.out) HR3.out (fun _ _ h => h) (fun _ h => h.elim) (fun _ _ => trivial) (below_step HB6.out HB3.out) (below_size (below_step HB6.out HB3.out)) (by simp [le4, dg2]) ?_; intro v1 w4 ho hb hg hat; have HO7 := Aside0.mk ho; have HB7 := Aside0.mk hb; have HX := Aside0.mk (blk_grown (blk_below HX.out HB3.out) hg (Kd.R_ne (Kd.R_below HO6.out HB3.out) (blk_below HX.out HB3.out) (by decide))); have x0 := (blk_cell HX.out 0).trans (show _ = some (Value.slice A n c) from rfl); have x1 := (blk_cell HX.out 1).trans (show _ = some (Value.int .i64 keep) from rfl); have x2 := (blk_cell HX.out 2).trans (show _ = some (Value.slice none 0 0) from rfl); have x3 := (blk_cell HX.out 3).trans (show _ = some (Value.slice none 0 0) from rfl); clear ho hb hg hat) | fail)
  have HO8 := Aside0.mk (show Kd.R (Kd.int .u8) 5 w4 w.heap.size (fun _ => True) v1 (bookL 1 keep n) from HO7.out)
  clear x0 x1 x2 x3
  go_loopg [4, 6] n (fun g s4 s6 wr => ∃ k : Nat, s6 = .int .i64 k ∧ k + g = n ∧ Aside0 (Kd.R (Kd.int .u8) 5 wr w.heap.size (fun _ => True) s4 (bookL 1 keep n ++ List.replicate (2 * k) 0)) ∧ Aside0 (Below w.heap.size w wr) ∧ Aside0 (wr.heap[w.heap.size]? = some (.cells #[.slice A n c, .int .i64 keep, .slice none 0 0, .slice none 0 0, .int .i64 1, .int .i64 gen] 33 (0, 0))))
  case atStart => exact ⟨0, rfl, by omega, ⟨by simpa using HO8.out⟩, HB7, HX⟩
  case round =>
    clear HX
    obtain ⟨k, rfl, hk, HO, HB, HX⟩ := hrel
    have x0 := (blk_cell HX.out 0).trans (show _ = some (Value.slice A n c) from rfl)
    by_cases hlt : k < n
    · obtain ⟨g1, rfl⟩ : ∃ g1, gk = g1 + 1 := ⟨gk - 1, by omega⟩
      have r1 : decide (k < n) = true := decide_eq_true hlt
      have r2 : decide ((k : Int) < (n : Int)) = true := decide_eq_true (by omega)
      have r3 : (k < n) = True := eq_true hlt
      obtain ⟨ad, rfl, y0, _⟩ := at_Z (ZC_below HZ.out HB.out) k hlt
      have HK := Aside0.mk (show k ≤ 2000 by have := HN.out; omega)
      have HKK := Aside0.mk (And.intro hk hlt)
      have HW := Aside0.mk (show wrap64 ((k : Int) + 1) = ((k + 1 : Nat) : Int) by have := HN.out; unfold wrap64; omega)
      clear hk hlt
      go_wp2_with (first | (go_at_call 90; (with_reducible refine (HP6.out _).mono ?_); rintro e w3 ⟨A3, c3, rfl, hc3, hr3, hb3⟩; have HB3 := Aside0.mk hb3; have HR3 := Aside0.mk hr3; clear hc3 hr3 hb3) | ((with_reducible refine gate_builtin (b := .append) (xs := #[.tmp 76, .tmp 84]) rfl ?_); at_builtin; refine Kd.R_append_rows (Kd.int .u8) (w0 := w) w.heap.size rfl (.tmp 76) (.tmp 84) 83 5 (.int .u8 0) 1 rfl Tryz.underlying83 info_u8 rfl (by decide) (by decide) _ (bookL 1 keep n ++ List.replicate (2 * k) 0) [0, 0] A3 2 c3 (fun _ => True) (fun _ => False) rfl rfl (Kd.R_below HO.out HB3.out) HR3.out (fun _ _ h => h) (fun _ h => h.elim) (fun _ _ => trivial) (below_step HB.out HB3.out) (below_size (below_step HB.out HB3.out)) (by have := HN.out; have := HK.out; rw [List.length_append, bookL_len, List.length_replicate]; omega) ?_; intro v1 w4 ho hb hg hat; have HO4 := Aside0.mk ho; have HB4 := Aside0.mk hb; have HX4 := Aside0.mk (blk_grown (blk_below HX.out HB3.out) hg (Kd.R_ne (Kd.R_below HO.out HB3.out) (blk_below HX.out HB3.out) (by decide))); clear ho hb hg hat) | fail)
      go_roundg g1
      case measure => omega
      case rel => exact ⟨k + 1, by rw [HW.out], by have := HKK.out; omega, ⟨by have := HO4.out; rwa [List.append_assoc, show List.replicate (2 * k) (0 : Int) ++ [0, 0] = List.replicate (2 * (k + 1)) 0 by rw [show ([0, 0] : List Int) = List.replicate 2 0 from rfl, List.replicate_append_replicate]; congr 1] at this⟩, HB4, HX4⟩
    · have r1 : decide (k < n) = false := decide_eq_false hlt
      have r2 : decide ((k : Int) < (n : Int)) = false := decide_eq_false (by omega)
      obtain rfl : k = n := by omega
      clear hk hlt
      go_wp2
      go_ret2
      exact ⟨_, rfl, HO.out, HB.out⟩
end Go.Proofs.YtodejilhgpejnaaGreat.Q
namespace Go.Proofs.YtodejilhgpejnaaGreat.Q
open Go.RowKit Go.Proofs.YtodejilhgpejnaaGreatW.PrintWords Go.Proofs.YtodejilhgpejnaaGreatW.PrintLast Go.Proofs.YtodejilhgpejnaaGreatW.PrintMore
attribute [local go_sem] max2_int min2_int max_two min_two max_three min_three max_four min_four
set_option linter.unusedVariables false
set_option linter.unusedSimpArgs false
theorem refRead_walk (A0 : Option Addr) (c0 : Nat) (l0 : List ByteArray) (a : Nat) (w : World) (hr0 : Kd.C Kd.string w A0 l0.length l0) (h1 : a < l0.length) :
    Calls Tryz.prog 94 #[.agg #[.slice A0 l0.length c0, .slice none 0 0], .int .i64 a] w fun e w' => e = .returned (.tuple #[.string (rdOf ByteArray.empty l0 (a : Int)), .int .i64 0]) ∧ Below w.heap.size w w' := by
  have q1 : decide ((a : Int) < 0) = false := decide_eq_false (by omega)
  have q2 : decide ((l0.length : Int) ≤ (a : Int)) = false := decide_eq_false (by omega)
  have q3 : decide (l0.length ≤ a) = false := decide_eq_false (by omega)
  have q4 : (a < l0.length) = True := eq_true h1
  obtain ⟨ad, rfl, hx⟩ := Kd.at_string hr0 (a : Int) (by omega) (by omega)
  rw [Int.toNat_natCast] at hx
  have hx2 := (Below.cell (below_alloc (Below.refl w.heap.size w) (.cells #[.slice (some ad) l0.length c0, .slice none 0 0] 26)) (World.block_lt_of_cell? w _ hx)).trans hx
  generalize rdOf ByteArray.empty l0 (a : Int) = r at hx hx2 ⊢
  clear h1 hr0
  go_enter Tryz.func94, Tryz.ntmps94
  go_wp2
  refine wp_loop_rounds 1 ?_
  rw [rounds_succ]
  go_wp2
  go_ret2
  exact ⟨rfl, below_alloc (Below.refl _ _) _⟩
theorem askedNo_walk (A0 : Option Addr) (c0 : Nat) (l0 : List ByteArray) (v : Value) (a : Nat) (w : World) (hr0 : Kd.C Kd.string w A0 l0.length l0) (h1 : a < l0.length) :
    Calls Tryz.prog 61 #[.agg #[.slice A0 l0.length c0, .slice none 0 0], v, .int .i64 a, .string (rdOf ByteArray.empty l0 (a : Int))] w fun e w' => e = .returned v ∧ Below w.heap.size w w' := by
  have HRD := Aside0.mk (fun (W : World) (hb : Below w.heap.size w W) => refRead_walk A0 c0 l0 a W (Kd.C_below hr0 hb) h1)
  generalize rdOf ByteArray.empty l0 (a : Int) = r at HRD ⊢
  have e1 : (r.toList == r.toList) = true := beq_self_eq_true _
  clear h1 hr0
  go_enter Tryz.func61, Tryz.ntmps61
  go_wp2_with (first | (go_at_call 94; (with_reducible refine (HRD.out _ (by repeat (first | (with_reducible exact Below.refl _ _) | (with_reducible refine below_alloc ?_ _) | (with_reducible refine below_drew1 ?_) | (with_reducible refine pw_below_drewN ?_ _) | (with_reducible exact Below.refl _ _)))).mono ?_); rintro e w2 ⟨rfl, hb⟩; have HB := Aside0.mk (show Below w.heap.size w w2 from below_step (below_alloc (Below.refl _ _) _) hb); clear hb) | fail)
  go_ret
  exact ⟨rfl, HB.out⟩
set_option maxHeartbeats 2000000 in
theorem asked_walk (A0 : Option Addr) (c0 : Nat) (l0 : List ByteArray) (a : Nat) (s : ByteArray) (w : World) (hr0 : Kd.C Kd.string w A0 l0.length l0) (h1 : a < l0.length) (hne : rdOf ByteArray.empty l0 (a : Int) ≠ s) :
    Calls Tryz.prog 61 #[.agg #[.slice A0 l0.length c0, .slice none 0 0], .slice none 0 0, .int .i64 a, .string s] w fun e w' => ∃ v, e = .returned v ∧ Kd.R kW 58 w' w.heap.size (fun _ => True) v [⟨a, s⟩] ∧ Below w.heap.size w w' := by
  have HRD := Aside0.mk (fun (W : World) (hb : Below w.heap.size w W) => refRead_walk A0 c0 l0 a W (Kd.C_below hr0 hb) h1)
  have e1 : ((rdOf ByteArray.empty l0 (a : Int)).toList == s.toList) = false := beq_eq_false_iff_ne.mpr (fun h => hne (toList_inj h))
  generalize rdOf ByteArray.empty l0 (a : Int) = r at HRD e1
  clear h1 hr0 hne
  go_enter Tryz.func61, Tryz.ntmps61
  go_wp2_with (first | (go_at_call 94; (with_reducible refine (HRD.out _ (by repeat (first | (with_reducible exact Below.refl _ _) | (with_reducible refine below_alloc ?_ _) | (with_reducible refine below_drew1 ?_) | (with_reducible refine pw_below_drewN ?_ _) | (with_reducible exact Below.refl _ _)))).mono ?_); rintro e w2 ⟨rfl, hb⟩; have HB := Aside0.mk (show Below w.heap.size w w2 from below_step (below_alloc (Below.refl _ _) _) hb); clear hb) | ((with_reducible refine gate_builtin (b := .append) (xs := #[.tmp 21, .tmp 25]) rfl ?_); at_builtin; refine Kd.R_append kW (w0 := w) w.heap.size rfl (.tmp 21) (.tmp 25) 24 58 (.agg #[.int .i64 0, .string ⟨#[]⟩]) 24 rfl Tryz.underlying24 info_w rfl (by decide) (by decide) _ [] ⟨a, s⟩ [.int .i64 a, .string s] (fun _ => True) (fun _ => False) rfl rfl (kW_mkM _ _ _ _) (fun _ h => h.elim) (fun _ _ => trivial) (Kd.R_nil _ _ _ _ _) HB.out HB.out.size (by simp) ?_; intro v1 w5 ho hb hg hat; have HO5 := Aside0.mk ho; have HB5 := Aside0.mk hb; clear ho hb hg hat) | fail)
  go_ret
  exact ⟨_, rfl, HO5.out, HB5.out⟩
end Go.Proofs.YtodejilhgpejnaaGreat.Q
namespace Go.Proofs.YtodejilhgpejnaaGreat.Q
open Go.RowKit Go.Proofs.YtodejilhgpejnaaGreatW.PrintWords Go.Proofs.YtodejilhgpejnaaGreatW.PrintLast Go.Proofs.YtodejilhgpejnaaGreatW.PrintMore
attribute [local go_sem] max2_int min2_int max_two min_two max_three min_three max_four min_four
set_option linter.unusedVariables false
set_option linter.unusedSimpArgs false
structure PlSt (w W : World) (A0 : Option Addr) (N c0 : Nat) (A : Option Addr) (n c keep gen : Nat) : Prop where
  b0 : Below w.heap.size w W
  hd : W.heap[w.heap.size]? = some (.cells #[.slice A0 N c0, .slice none 0 0] 26 (0, 0))
  hs : W.heap[w.heap.size + 1]? = some (.cells (stV A n c keep gen) 33 (0, 0))
theorem PlSt.step {w W W' : World} {A0 : Option Addr} {N c0 : Nat} {A : Option Addr} {n c keep gen : Nat} (s : PlSt w W A0 N c0 A n c keep gen) (hb : Below W.heap.size W W') : PlSt w W' A0 N c0 A n c keep gen := ⟨below_step s.b0 hb, blk_below s.hd hb, blk_below s.hs hb⟩
theorem ref_at (n gen G k : Nat) (hG : G = gen + 1) (hk : k < areaF n) (hn : n ≤ 2000) : IntKind.i64.wrap (IntKind.i64.wrap (2 + IntKind.i64.wrap ((G : Int).tmod 2 * ((areaF n : Nat) : Int))) + (k : Int)) = ((atF n gen k : Nat) : Int) := by
  have ha : areaF n ≤ 10000 := by unfold areaF; omega
  have h2 : (G : Int).tmod 2 = ((G % 2 : Nat) : Int) := by rw [Int.tmod_eq_emod_of_nonneg (by omega)]; omega
  unfold atF
  rw [h2, ← hG]
  have hm : G % 2 = 0 ∨ G % 2 = 1 := by omega
  rcases hm with e | e
  · rw [e]
    simp only [IntKind.wrap_i64]
    omega
  · rw [e]
    simp only [IntKind.wrap_i64]
    omega
abbrev flW : Wr := ⟨-1, ⟨#[]⟩⟩
abbrev md2 (g : Nat) : Int := (g : Int) % 2
def plan4L (a : Nat) (S : ByteArray) (q : Nat) (T : ByteArray) : List Wr := [⟨a, S⟩, ⟨-1, ⟨#[]⟩⟩, ⟨q, T⟩, ⟨-1, ⟨#[]⟩⟩]
theorem R_litW {w : World} {e base d n : Nat} {ok : Nat → Prop} {B : Option Addr} {l : List Wr} (h : Kd.R kW e w base ok (.slice B n d) l) (h0 : 0 < n) : ∃ g, B = some ⟨g, 0, none⟩ := by
  obtain ⟨inner, ho⟩ := Kd.R_own h
  rcases ho.2 with ⟨hv, _⟩ | ⟨g, cap, cur, hv, hb, _⟩
  · injection hv with _ e2 _
    omega
  · injection hv with e1 _ _
    exact ⟨g, e1⟩
theorem plan4_row {w : World} {g a q : Nat} {S T : ByteArray} (h : Kd.C kW w (some ⟨g, 0, none⟩) 4 (plan4L a S q T)) : ∀ j u, (plan4 a S q T)[j]? = some u → w.cell? ⟨g, j, none⟩ = some u := by
  obtain ⟨ad, e, k0, k1⟩ := at_W h 0 (by omega) (by omega)
  cases e
  obtain ⟨ad, e, k2, k3⟩ := at_W h 1 (by omega) (by omega)
  cases e
  obtain ⟨ad, e, k4, k5⟩ := at_W h 2 (by omega) (by omega)
  cases e
  obtain ⟨ad, e, k6, k7⟩ := at_W h 3 (by omega) (by omega)
  cases e
  intro j u hj
  match j, hj with
  | 0, hj => cases hj; exact k0
  | 1, hj => cases hj; exact k1
  | 2, hj => cases hj; exact k2
  | 3, hj => cases hj; exact k3
  | 4, hj => cases hj; exact k4
  | 5, hj => cases hj; exact k5
  | 6, hj => cases hj; exact k6
  | 7, hj => cases hj; exact k7
set_option maxHeartbeats 8000000 in
set_option maxRecDepth 100000 in
theorem refPlan_walk (A : Option Addr) (n c keep gen : Nat) (A0 : Option Addr) (N c0 : Nat) (l0 : List ByteArray) (w : World) (hl : l0.length = N) (hz : ZC w A n) (h1 : 1 ≤ n) (hn : n ≤ 2000) (hk : keep ≤ n) (hg : gen ≤ 1000000) (hr0 : Kd.C Kd.string w A0 N l0) (hN : N ≤ 4000) (hcells : cellsF N = n) (hzero : ∀ j, j < areaF n → rdOf ByteArray.empty l0 ((atF n gen j : Nat) : Int) = zero40) :
    Calls Tryz.prog 38 #[.agg #[.slice A0 N c0, .slice none 0 0], .agg #[.slice A n c, .int .i64 keep, .slice none 0 0, .slice none 0 0, .int .i64 1, .int .i64 gen]] w fun e w' => ∃ B cb, e = .returned (.tuple #[.slice (some ⟨B, 0, none⟩) 4 cb, .int .i64 0]) ∧ 4 ≤ cb ∧ (∀ j u, (plan4 (atF n gen 0) (chunkS (bookB 1 keep n) 0) ((gen + 1) % 2) (slotS keep n gen))[j]? = some u → w'.cell? ⟨B, j, none⟩ = some u) ∧ Below w.heap.size w w' := by
  obtain ⟨W1, hW1⟩ : ∃ W1, W1 = (w.alloc (.cells #[.slice A0 N c0, .slice none 0 0] 26)).alloc (.cells #[.slice A n c, .int .i64 keep, .slice none 0 0, .slice none 0 0, .int .i64 1, .int .i64 gen] 33) := ⟨_, rfl⟩
  have S1 := Aside0.mk (show PlSt w W1 A0 N c0 A n c keep gen by rw [hW1]; exact ⟨below_alloc (below_alloc (Below.refl _ _) _) _, blk_alloc (blk_new w _) _, blk2 w _ _⟩)
  have HCE := Aside0.mk (show ∀ W, Calls Tryz.prog 10 #[.int .i64 N] W fun e w' => e = .returned (.int .i64 (n : Nat)) ∧ W = w' from fun W => hcells ▸ refCells_walk N W (by omega))
  have HPR := Aside0.mk (fun (W : World) (hb : Below W1.heap.size W1 W) => refPrint13_walk A n c keep gen W (ZC_below (ZC_below hz S1.out.b0) hb) hn (by omega))
  have HZ := Aside0.mk hz
  have HR0 := Aside0.mk hr0
  have HN := Aside0.mk (And.intro h1 (And.intro hn (And.intro hk (And.intro hg hN))))
  have HL := Aside0.mk hl
  have HZE := Aside0.mk hzero
  have HCN := Aside0.mk hcells
  have q1 : ((gen : Int) == 2147483647) = false := beq_eq_false_iff_ne.mpr (by omega)
  obtain ⟨G, hG⟩ : ∃ G : Nat, G = gen + 1 := ⟨_, rfl⟩
  have HG := Aside0.mk hG
  have HWG := Aside0.mk (show wrap64 ((gen : Int) + 1) = (G : Int) by rw [hG]; unfold wrap64; omega)
  have hW1' := Aside0.mk hW1
  (have s0 := (blk_cell S1.out.hs 0).trans (show _ = some (Value.slice A n c) from rfl); have s1 := (blk_cell S1.out.hs 1).trans (show _ = some (Value.int .i64 keep) from rfl); have s2 := (blk_cell S1.out.hs 2).trans (show _ = some (Value.slice none 0 0) from rfl); have s3 := (blk_cell S1.out.hs 3).trans (show _ = some (Value.slice none 0 0) from rfl); have s4 := (blk_cell S1.out.hs 4).trans (show _ = some (Value.int .i64 1) from rfl); have s5 := (blk_cell S1.out.hs 5).trans (show _ = some (Value.int .i64 gen) from rfl))
  (have d0 := (blk_cell S1.out.hd 0).trans (show _ = some (Value.slice A0 N c0) from rfl); have d1 := (blk_cell S1.out.hd 1).trans (show _ = some (Value.slice none 0 0) from rfl))
  clear hW1 hG hl hz h1 hn hk hg hr0 hN hcells hzero
  go_enter Tryz.func38, Tryz.ntmps38
  go_upto_region 1 with (fail)
  rw [← hW1'.out]
  go_upto_region 5 with (first | (go_at_call 10; (with_reducible refine (HCE.out _).mono ?_); rintro e w' ⟨rfl, rfl⟩) | (go_at_call 59; (with_reducible refine (HPR.out _ (by repeat (first | (with_reducible exact Below.refl _ _) | (with_reducible refine below_alloc ?_ _) | (with_reducible refine below_drew1 ?_) | (with_reducible refine pw_below_drewN ?_ _) | (with_reducible exact Below.refl _ _)))).mono ?_); rintro e w2 ⟨v, rfl, hr, hb⟩; have S2 := Aside0.mk (S1.out.step hb); have HO2 := Aside0.mk hr; have HB2 := Aside0.mk hb; clear hr hb) | fail)
  clear s0 s1 s2 s3 s4 s5 d0 d1
  obtain ⟨bk, hbk⟩ : ∃ bk, bookB 1 keep n = bk := ⟨_, rfl⟩
  have HBK := Aside0.mk hbk
  rw [hbk] at HO2
  clear hbk
  obtain ⟨A3, c3, rfl⟩ := Kd.R_slice HO2.out
  (have s0 := (blk_cell S2.out.hs 0).trans (show _ = some (Value.slice A n c) from rfl); have s1 := (blk_cell S2.out.hs 1).trans (show _ = some (Value.int .i64 keep) from rfl); have s2 := (blk_cell S2.out.hs 2).trans (show _ = some (Value.slice none 0 0) from rfl); have s3 := (blk_cell S2.out.hs 3).trans (show _ = some (Value.slice none 0 0) from rfl); have s4 := (blk_cell S2.out.hs 4).trans (show _ = some (Value.int .i64 1) from rfl); have s5 := (blk_cell S2.out.hs 5).trans (show _ = some (Value.int .i64 gen) from rfl))
  go_upto_region 9 with fail
  rw [HWG.out]
  go_wp2
  go_loopg [10, 11, 12, 13] n (fun g s10 s11 s12 s13 wr => ∃ k : Nat, wr = w2 ∧ s10 = .slice none 0 0 ∧ s11 = .int .i64 k ∧ k + g = n)
  case atStart => exact ⟨0, rfl, rfl, rfl, by omega⟩
  case round =>
    obtain ⟨k, rfl, rfl, rfl, hk⟩ := hrel
    by_cases hlt : k < n
    · obtain ⟨g1, rfl⟩ : ∃ g1, gk = g1 + 1 := ⟨gk - 1, by omega⟩
      have r1 : decide (k < n) = true := decide_eq_true hlt
      have r2 : decide ((k : Int) < (n : Int)) = true := decide_eq_true (by omega)
      have r3 : (k < n) = True := eq_true hlt
      obtain ⟨ad, rfl, y0, _⟩ := at_Z (ZC_below HZ.out S2.out.b0) k hlt
      have HKK := Aside0.mk (And.intro hk hlt)
      have HW := Aside0.mk (show wrap64 ((k : Int) + 1) = ((k + 1 : Nat) : Int) by have := HN.out; unfold wrap64; omega)
      clear hk hlt
      go_wp2
      go_roundg g1
      case measure => omega
      case rel => exact ⟨k + 1, rfl, rfl, by rw [HW.out], by have := HKK.out; omega⟩
    · have r1 : decide (k < n) = false := decide_eq_false hlt
      have r2 : decide ((k : Int) < (n : Int)) = false := decide_eq_false (by omega)
      have HCH := Aside0.mk (refChunks_walk A3 c3 bk wr (Kd.R_reads' HO2.out).2.2 (by rw [← HBK.out]; exact book_bytes (by decide) (by have := HN.out; omega) (by have := HN.out; omega)) (by rw [← HBK.out, bookB_len]; have := HN.out; omega) (Kd.R_reads' HO2.out).2.1 (R_capmax HO2.out))
      clear hk hlt s0 s1 s2 s3 s4 s5
      go_wp2_with (first | (go_at_call 62; (with_reducible refine HCH.out.mono ?_); rintro e w4 ⟨v4, rfl, ho4, hb4⟩; obtain ⟨A4, c4, rfl⟩ := Kd.R_slice ho4; have HO4 := Aside0.mk ho4; have HB4 := Aside0.mk hb4; clear ho4 hb4) | fail)
      obtain ⟨m, hm⟩ : ∃ m, (chunksF bk).length = m := ⟨_, rfl⟩
      have HM := Aside0.mk (show m = piecesN bk.length by rw [← hm]; unfold chunksF; rw [List.length_map, List.length_range])
      rw [hm] at HO4 ⊢
      have HCS := Aside0.mk (show Kd.C Kd.string w4 A4 m (chunksF bk) by have := (Kd.R_reads' HO4.out).2.2; rwa [hm] at this)
      clear hm
      have S4 := Aside0.mk (S2.out.step HB4.out)
      have HR4 := Aside0.mk (Kd.C_below HR0.out S4.out.b0)
      go_loopg [10, 15] m (fun g s10 s15 wr => ∃ k : Nat, s15 = .int .i64 k ∧ k + g = m ∧ Aside0 (Kd.R kW 58 wr w.heap.size (fun _ => True) s10 (if k = 0 then [] else [⟨((atF n gen 0 : Nat) : Int), chunkS bk 0⟩])) ∧ (k = 0 → s10 = .slice none 0 0) ∧ Aside0 (Below w4.heap.size w4 wr))
      case atStart => exact ⟨0, rfl, by omega, ⟨Kd.R_nil _ _ _ _ _⟩, fun _ => rfl, ⟨Below.refl _ _⟩⟩
      case round =>
        obtain ⟨k, rfl, hk, HO, hz0, HB⟩ := hrel
        have S5 := Aside0.mk (S4.out.step HB.out)
        have HR5 := Aside0.mk (Kd.C_below HR4.out HB.out)
        have HC5 := Aside0.mk (Kd.C_below HCS.out HB.out)
        by_cases hlt : k < m
        · obtain ⟨g1, rfl⟩ : ∃ g1, gk = g1 + 1 := ⟨gk - 1, by omega⟩
          have r1 : decide (k < m) = true := decide_eq_true hlt
          have r2 : decide ((k : Int) < (m : Int)) = true := decide_eq_true (by omega)
          have r3 : (k < m) = True := eq_true hlt
          obtain ⟨ad, rfl, hx⟩ := Kd.at_string HC5.out (k : Int) (by omega) (by omega)
          rw [Int.toNat_natCast, chunks_rd bk k (by have := HM.out; omega)] at hx
          have HKK := Aside0.mk (And.intro hk hlt)
          have HW := Aside0.mk (show wrap64 ((k : Int) + 1) = ((k + 1 : Nat) : Int) by have := HN.out; have := HM.out; rw [← HBK.out, bookB_len] at this; unfold piecesN at this; unfold wrap64; omega)
          (have d0 := (blk_cell S5.out.hd 0).trans (show _ = some (Value.slice A0 N c0) from rfl); have d1 := (blk_cell S5.out.hd 1).trans (show _ = some (Value.slice none 0 0) from rfl))
          clear hk hlt
          have HAS := Aside0.mk (show ∀ W : World, Below wr.heap.size wr W → Calls Tryz.prog 61 #[.agg #[.slice A0 N c0, .slice none 0 0], u10, .int .i64 (IntKind.i64.wrap (IntKind.i64.wrap (2 + IntKind.i64.wrap ((G : Int).tmod 2 * ((areaF n : Nat) : Int))) + (k : Int))), .string (chunkS bk k)] W fun e w' => ∃ v, e = .returned v ∧ Kd.R kW 58 w' w.heap.size (fun _ => True) v [⟨((atF n gen 0 : Nat) : Int), chunkS bk 0⟩] ∧ Below W.heap.size W w' from fun W hb => by
            have hkm : k < piecesN bk.length := by have := HKK.out.2; have := HM.out; omega
            have hka : k < areaF n := by rw [← HBK.out, bookB_len] at hkm; unfold piecesN at hkm; unfold areaF; omega
            have hat := ref_at n gen G k HG.out hka (by have := HN.out; omega)
            rw [hat]
            have hlt : atF n gen k < N := at_lt HCN.out HN.out.1 hka
            by_cases h0 : k = 0
            · subst h0
              rw [hz0 rfl]
              have hr := Kd.C_below HR5.out hb
              rw [← HL.out] at hr
              have h := asked_walk A0 c0 l0 (atF n gen 0) (chunkS bk 0) W hr (by rw [HL.out]; exact hlt) (by rw [HZE.out 0 hka, ← HBK.out]; exact fun e => piece_first keep n (by have := HN.out; omega) HN.out.2.1 e.symm)
              rw [HL.out] at h
              refine h.mono ?_
              rintro e w' ⟨v, rfl, ho, hbe⟩
              exact ⟨v, rfl, Kd.R_lower ho (Nat.le_trans S5.out.b0.size hb.size), hbe⟩
            · have hr := Kd.C_below HR5.out hb
              rw [← HL.out] at hr
              have h := askedNo_walk A0 c0 l0 u10 (atF n gen k) W hr (by rw [HL.out]; exact hlt)
              have hc : chunkS bk k = zero40 := by rw [← HBK.out]; exact piece_zero 1 keep n k (by omega) (by rw [← HBK.out] at hkm; unfold piecesN at hkm; omega)
              rw [HL.out, HZE.out k hka, ← hc] at h
              refine h.mono ?_
              rintro e w' ⟨rfl, hbe⟩
              have ho := HO.out
              rw [if_neg h0] at ho
              exact ⟨_, rfl, Kd.R_below ho (below_step hb hbe), hbe⟩)
          go_upto_region 19 with fail
          go_region_held3 (fun w' => w'.cell? ⟨w.heap.size, 0, none⟩ = some (.slice A0 N c0) ∧ w'.cell? ⟨w.heap.size, 1, none⟩ = some (.slice none 0 0) ∧ w'.cell? (ad.add k) = some (.string (chunkS bk k))) (first | exact ⟨d0, d1, hx⟩ | exact (fun (H : Below wr.heap.size wr _) => ⟨bcell H d0, bcell H d1, (H.cell (World.block_lt_of_cell? _ _ hx)).trans hx⟩) (by repeat (first | (with_reducible exact Below.refl _ _) | (with_reducible refine below_alloc ?_ _) | (with_reducible refine below_drew1 ?_) | (with_reducible refine pw_below_drewN ?_ _) | (with_reducible exact HB6.out)))) (first | (go_at_call 42; (with_reducible refine (refArea_walk n _ (by have := HN.out; omega)).mono ?_); rintro e w' ⟨rfl, rfl⟩) | (go_at_call 61; (with_reducible refine (HAS.out _ (by repeat (first | (with_reducible exact Below.refl _ _) | (with_reducible refine below_alloc ?_ _) | (with_reducible refine below_drew1 ?_) | (with_reducible refine pw_below_drewN ?_ _) | (with_reducible exact Below.refl _ _)))).mono ?_); rintro e w6 ⟨v6, rfl, ho, hb⟩; have HO6 := Aside0.mk ho; have HB6 := Aside0.mk (show Below wr.heap.size wr w6 from below_step (by repeat (first | (with_reducible exact Below.refl _ _) | (with_reducible refine below_alloc ?_ _) | (with_reducible refine below_drew1 ?_) | (with_reducible refine pw_below_drewN ?_ _) | (with_reducible exact Below.refl _ _))) hb); clear ho hb) | fail)
          all_goals
            go_wp2
            go_roundg g1
            case measure => omega
            case rel => exact ⟨k + 1, by rw [HW.out], by have := HKK.out.1; omega, ⟨by rw [if_neg (by omega)]; exact HO6.out⟩, fun h => absurd h (by omega), ⟨below_step HB.out HB6.out⟩⟩
        · have r1 : decide (k < m) = false := decide_eq_false hlt
          have r2 : decide ((k : Int) < (m : Int)) = false := decide_eq_false (by omega)
          have hm0 : 0 < m := by have := HM.out; rw [← HBK.out, bookB_len] at this; unfold piecesN at this; omega
          have ho := HO.out
          rw [if_neg (show ¬ k = 0 by omega)] at ho
          obtain ⟨x0, hx0⟩ : ∃ x0 : Wr, x0 = ⟨((atF n gen 0 : Nat) : Int), chunkS bk 0⟩ := ⟨_, rfl⟩
          rw [← hx0] at ho
          have HO6 := Aside0.mk ho
          have HX0 := Aside0.mk hx0
          have hbb : ∀ x ∈ bk, 0 ≤ x ∧ x < 256 := by rw [← HBK.out]; exact book_bytes (by decide) (by have := HN.out; omega) (by have := HN.out; omega)
          have hbl : bk.length ≤ 100000 := by rw [← HBK.out, bookB_len]; have := HN.out; omega
          have HBO := Aside0.mk (refBook_walk A3 c3 bk wr (Kd.C_below (Kd.C_below (Kd.R_reads' HO2.out).2.2 HB4.out) HB.out) hbb hbl)
          have HP3 := Aside0.mk (fun (s : Nat) (hs : s < 4294967296) (W : World) => refPrint3_walk G bk.length s W (by have := HG.out; omega) (by have := HG.out; have := HN.out; omega) (by omega) (by omega))
          have HB6 := Aside0.mk S5.out.b0
          clear hk hlt hz0 hm0 ho hx0 hbb hbl HO
          go_upto_region 21 with (first | (go_at_call 63; (with_reducible refine HBO.out.mono ?_); rintro e w7 ⟨s, rfl, hs1, hs2, rfl⟩; have HS1 := Aside0.mk hs1; have HS2 := Aside0.mk hs2; clear hs1 hs2) | fail)
          go_upto_region 22 with (first | (go_at_call 64; (with_reducible refine (HP3.out _ HS2.out _).mono ?_); rintro e w8 ⟨rfl, hb⟩; have HO8 := Aside0.mk (Kd.R_below HO6.out hb); have HB8 := Aside0.mk (below_step HB6.out hb); clear hb) | fail)
          go_upto_region 23 with (first | ((with_reducible refine gate_builtin (b := .append) (xs := #[.tmp 113, .tmp 115]) rfl ?_); at_builtin; refine Kd.R_append kW (w0 := w) w.heap.size rfl (.tmp 113) (.tmp 115) 24 58 (.agg #[.int .i64 0, .string ⟨#[]⟩]) 24 rfl Tryz.underlying24 info_w rfl (by decide) (by decide) _ ([x0]) ⟨-1, ⟨#[]⟩⟩ [.int .i64 (-1), .string (⟨#[]⟩)] (fun _ => True) (fun _ => False) rfl rfl (kW_mkM _ _ _ _) (fun _ h => h.elim) (fun _ _ => trivial) HO8.out HB8.out HB8.out.size (by simp) ?_; intro v1 w5 ho hb hg hat; have HO9 := Aside0.mk ho; have HB9 := Aside0.mk hb; clear ho hb hg hat) | fail)
          go_upto_region 24 with (first | ((with_reducible refine gate_builtin (b := .append) (xs := #[.tmp 117, .tmp 122]) rfl ?_); at_builtin; refine Kd.R_append kW (w0 := w) w.heap.size rfl (.tmp 117) (.tmp 122) 24 58 (.agg #[.int .i64 0, .string ⟨#[]⟩]) 24 rfl Tryz.underlying24 info_w rfl (by decide) (by decide) _ ([x0] ++ [flW]) ⟨md2 G, sealS (slotL G bk.length s)⟩ [.int .i64 (md2 G), .string (sealS (slotL G bk.length s))] (fun _ => True) (fun _ => False) rfl rfl (kW_mkM _ _ _ _) (fun _ h => h.elim) (fun _ _ => trivial) HO9.out HB9.out HB9.out.size (by simp) ?_; intro v1 w5 ho hb hg hat; have HOA := Aside0.mk ho; have HBA := Aside0.mk hb; clear ho hb hg hat) | fail)
          go_wp2_with (first | ((with_reducible refine gate_builtin (b := .append) (xs := #[.tmp 124, .tmp 126]) rfl ?_); at_builtin; refine Kd.R_append kW (w0 := w) w.heap.size rfl (.tmp 124) (.tmp 126) 24 58 (.agg #[.int .i64 0, .string ⟨#[]⟩]) 24 rfl Tryz.underlying24 info_w rfl (by decide) (by decide) _ _ ⟨-1, ⟨#[]⟩⟩ [.int .i64 (-1), .string ⟨#[]⟩] (fun _ => True) (fun _ => False) rfl rfl (kW_mkM _ _ _ _) (fun _ h => h.elim) (fun _ _ => trivial) HOA.out HBA.out HBA.out.size (by simp) ?_; intro v1 w5 ho hb hg hat; have HOB := Aside0.mk ho; have HBB := Aside0.mk hb; clear ho hb hg hat) | fail)
          obtain ⟨B, d, hv⟩ := Kd.R_slice HOB.out
          go_ret2
          have ho := HOB.out
          rw [hv] at ho
          obtain ⟨g9, rfl⟩ := R_litW ho (by simp)
          have h9 := (Kd.R_reads' ho).2
          have hT : slotS keep n gen = sealS (slotL G bk.length s) := by unfold slotS; rw [HBK.out, HS1.out, Int.toNat_natCast, HG.out]
          have hq : (((gen + 1) % 2 : Nat) : Int) = md2 G := by rw [← HG.out]; rfl
          have he : plan4L (atF n gen 0) (chunkS (bookB 1 keep n) 0) ((gen + 1) % 2) (slotS keep n gen) = [x0] ++ [flW] ++ [⟨md2 G, sealS (slotL G bk.length s)⟩] ++ [flW] := by
            unfold plan4L
            rw [hT, hq, HBK.out, HX0.out]
            rfl
          refine ⟨g9, d, ?_, h9.1, ?_, HBB.out⟩
          · rw [hv]; rfl
          · have h8 := h9.2
            rw [← he] at h8
            exact plan4_row h8
end Go.Proofs.YtodejilhgpejnaaGreat.Q
namespace Go.Proofs.YtodejilhgpejnaaGreat.Q
open Go.RowKit Go.Proofs.YtodejilhgpejnaaGreatW.PrintWords Go.Proofs.YtodejilhgpejnaaGreatW.PrintLast Go.Proofs.YtodejilhgpejnaaGreatW.PrintMore
attribute [local go_sem] max2_int min2_int max_two min_two max_three min_three max_four min_four
set_option linter.unusedVariables false
set_option linter.unusedSimpArgs false
theorem may_walk (A0 : Option Addr) (N c0 : Nat) (A1 : Option Addr) (n1 c1 a : Nat) (S : ByteArray) (w : World) (ha : a < N) (hS : S.size = 40) :
    Calls Tryz.prog 24 #[.agg #[.slice A0 N c0, .slice A1 n1 c1], .int .i64 a, .string S] w fun e w' => e = .returned (.bool true) ∧ Below w.heap.size w w' := by
  have q0 : decide ((0 : Int) ≤ (a : Int)) = true := decide_eq_true (by omega)
  have q1 : decide ((a : Int) < (N : Int)) = true := decide_eq_true (by omega)
  have q2 : decide (S.size = 40) = true := decide_eq_true hS
  go_enter Tryz.func24, Tryz.ntmps24
  go_wp2
  go_ret
  exact ⟨by first | rfl | (simp_all; done) | (simp_all; intros; omega), below_alloc (Below.refl _ _) _⟩
theorem C_newW1 (w : World) (o : Obj) (x : Wr) : Kd.C kW ((w.alloc o).alloc (.cells #[.int .i64 x.f0, .string x.f1] 58)) (some ⟨w.heap.size + 1, 0, none⟩) 1 [x] := by
  have h := C_newW (w.alloc o) x
  simpa using h
theorem R_lit1 {w : World} {e base d : Nat} {ok : Nat → Prop} {B : Option Addr} {x : Wr} (h : Kd.R kW e w base ok (.slice B 1 d) [x]) : ∃ g, B = some ⟨g, 0, none⟩ ∧ base ≤ g := by
  obtain ⟨inner, ho⟩ := Kd.R_own h
  rcases ho.2 with ⟨hv, _⟩ | ⟨g, cap, cur, hv, hb, _⟩
  · cases hv
  · injection hv with e1 _ _
    exact ⟨g, e1, hb⟩
theorem C_lit1 {w : World} {g : Nat} {x : Wr} (h : Kd.C kW w (some ⟨g, 0, none⟩) 1 [x]) : w.cell? ⟨g, 0, none⟩ = some (.int .i64 x.f0) ∧ w.cell? ⟨g, 1, none⟩ = some (.string x.f1) := by
  obtain ⟨ad, e, k0, k1⟩ := at_W h 0 (by omega) (by omega)
  cases e
  exact ⟨k0, k1⟩
structure RpSt (w W : World) (A : Option Addr) (N c : Nat) : Prop where
  b0 : Below w.heap.size w W
  hd : W.heap[w.heap.size]? = some (.cells #[.slice A N c, .slice none 0 0] 26 (0, 0))
  hr : W.heap[w.heap.size + 1]? = some (.cells #[.slice none 0 0, .slice none 0 0] 26 (0, 0))
theorem RpSt.step {w W W' : World} {A : Option Addr} {N c : Nat} (s : RpSt w W A N c) (hb : Below W.heap.size W W') : RpSt w W' A N c := ⟨below_step s.b0 hb, blk_below s.hd hb, blk_below s.hr hb⟩
theorem C_none0 (w : World) (A : Option Addr) : Kd.C kW w A 0 [] := ⟨rfl, by decide, fun h => absurd h (by decide)⟩
theorem rp_keep {w W : World} {A : Option Addr} {N c : Nat} (s : RpSt w W A N c) (u v : Value) :
    ((W.setCell ⟨w.heap.size + 1, 0, none⟩ u).setCell ⟨w.heap.size + 1, 1, none⟩ v).cell? ⟨w.heap.size, 0, none⟩ = some (.slice A N c) ∧ ((W.setCell ⟨w.heap.size + 1, 0, none⟩ u).setCell ⟨w.heap.size + 1, 1, none⟩ v).cell? ⟨w.heap.size, 1, none⟩ = some (.slice none 0 0) := by
  have h := blk_far (p := ⟨w.heap.size + 1, 1, none⟩) (blk_far (p := ⟨w.heap.size + 1, 0, none⟩) s.hd (by show w.heap.size ≠ w.heap.size + 1; omega) u) (by show w.heap.size ≠ w.heap.size + 1; omega) v
  exact ⟨(blk_cell h 0).trans rfl, (blk_cell h 1).trans rfl⟩
set_option maxHeartbeats 4000000 in
set_option maxRecDepth 100000 in
theorem rput_walk (A : Option Addr) (N c a : Nat) (S : ByteArray) (w : World) (ha : a < N) (hS : S.size = 40) :
    Calls Tryz.prog 66 #[.agg #[.slice A N c, .slice none 0 0], .int .i64 a, .string S] w fun e w' => ∃ gb d, e = .returned (.tuple #[.agg #[.slice A N c, .slice (some ⟨gb, 0, none⟩) 1 d], .int .i64 0]) ∧ w.heap.size ≤ gb ∧ w'.cell? ⟨gb, 0, none⟩ = some (.int .i64 (a : Int)) ∧ w'.cell? ⟨gb, 1, none⟩ = some (.string S) ∧ Below w.heap.size w w' := by
  obtain ⟨W1, hW1⟩ : ∃ W1, W1 = (w.alloc (.cells #[.slice A N c, .slice none 0 0] 26)).alloc (.cells #[.slice none 0 0, .slice none 0 0] 26) := ⟨_, rfl⟩
  have S1 := Aside0.mk (show RpSt w W1 A N c by rw [hW1]; exact ⟨below_alloc (below_alloc (Below.refl _ _) _) _, blk_alloc (blk_new w _) _, blk2 w _ _⟩)
  have HM := Aside0.mk (fun W => may_walk A N c none 0 0 a S W ha hS)
  have hW1' := Aside0.mk hW1
  have d0 := (blk_cell S1.out.hd 0).trans (show _ = some (Value.slice A N c) from rfl)
  have d1 := (blk_cell S1.out.hd 1).trans (show _ = some (Value.slice none 0 0) from rfl)
  clear hW1 ha hS
  go_enter Tryz.func66, Tryz.ntmps66
  go_upto_region 1 with (fail)
  rw [← hW1'.out]
  go_upto_region 4 with (first | (go_at_call 24; (with_reducible refine (HM.out _).mono ?_); rintro e w2 ⟨rfl, hb⟩; have S2 := Aside0.mk (S1.out.step hb); clear hb) | fail)
  clear d0 d1
  have d0 := (blk_cell S2.out.hd 0).trans (show _ = some (Value.slice A N c) from rfl)
  have d1 := (blk_cell S2.out.hd 1).trans (show _ = some (Value.slice none 0 0) from rfl)
  go_region_held3 (fun w' => w'.cell? ⟨w.heap.size, 0, none⟩ = some (.slice A N c) ∧ w'.cell? ⟨w.heap.size, 1, none⟩ = some (.slice none 0 0)) (first | exact ⟨d0, d1⟩ | with_reducible exact K2.out | exact (fun (H : Below w2.heap.size w2 _) => ⟨bcell H d0, bcell H d1⟩) (by repeat (first | (with_reducible exact Below.refl _ _) | (with_reducible refine below_alloc ?_ _) | (with_reducible refine below_drew1 ?_) | (with_reducible refine pw_below_drewN ?_ _) | (with_reducible exact HB3.out)))) (first | (refine append_full_step kW kW_KM rfl (.tmp 21) (.tmp 25) 24 58 (.agg #[(.int .i64 0), (.string ⟨#[]⟩)]) 24 rfl Tryz.underlying24 info_w rfl (by decide) _ 0 [] _ 1 1 [(⟨a, S⟩ : Wr)] rfl rfl (C_none0 _ _) (by repeat (first | (with_reducible exact C_newW _ (⟨a, S⟩ : Wr)) | (with_reducible exact C_newW1 _ _ (⟨a, S⟩ : Wr)) | (with_reducible refine Kd.C_alloc ?_ _) | (with_reducible refine Kd.C_drew ?_))) (by decide) (by decide) (by decide) (fun h => by cases h) ?_; intro B d w3 hd hC hb; have HB3 := Aside0.mk (show Below w2.heap.size w2 w3 from below_step (by repeat (first | (with_reducible exact Below.refl _ _) | (with_reducible refine below_alloc ?_ _) | (with_reducible refine below_drew1 ?_) | (with_reducible refine pw_below_drewN ?_ _) | (with_reducible exact Below.refl _ _))) hb); have HC3 := Aside0.mk (And.intro hd hC); have S3 := Aside0.mk (S2.out.step HB3.out); have f0 := blk_frozen S3.out.hr 0; have f1 := blk_frozen S3.out.hr 1; have e0 := (blk_cell S3.out.hr 0).trans (show _ = some (Value.slice none 0 0) from rfl); have e1 := (blk_cell S3.out.hr 1).trans (show _ = some (Value.slice none 0 0) from rfl); have K2 := Aside0.mk (rp_keep S3.out (.slice A N c) (.slice B 1 d)); clear hb hd hC))
  all_goals
    go_wp2
    refine bodyPost_ret (results_ct rfl _ _ (w.heap.size + 1) 26 #[.slice A N c, .slice B 1 d] (0, 0) _ rfl (blk_put (blk_put S3.out.hr 0 _ rfl) 1 _ rfl) Tryz.underlying26 rfl (by kernel_rfl)) rfl ?_
    obtain ⟨gb, rfl, hgb⟩ := R_lit1 HC3.out.2
    have hw := C_lit1 (wr_store (m := N) (k := c) (B := A) (D := some ⟨gb, 0, none⟩) (m' := 1) (k' := d) (Kd.R_reads' HC3.out.2).2.2 S3.out.hr)
    exact ⟨gb, d, rfl, Nat.le_trans (Nat.le_trans S2.out.b0.size (Below.size (show Below w2.heap.size w2 _ by repeat (first | (with_reducible exact Below.refl _ _) | (with_reducible refine below_alloc ?_ _) | (with_reducible refine below_drew1 ?_) | (with_reducible refine pw_below_drewN ?_ _) | (with_reducible exact Below.refl _ _))))) hgb, hw.1, hw.2, below_set (below_set S3.out.b0 (by omega)) (by omega)⟩
end Go.Proofs.YtodejilhgpejnaaGreat.Q
namespace Go.Proofs.YtodejilhgpejnaaGreat.Q
open Go.RowKit Go.Proofs.YtodejilhgpejnaaGreatW.PrintWords Go.Proofs.YtodejilhgpejnaaGreatW.PrintLast Go.Proofs.YtodejilhgpejnaaGreatW.PrintMore
attribute [local go_sem] max2_int min2_int max_two min_two max_three min_three max_four min_four
set_option linter.unusedVariables false
set_option linter.unusedSimpArgs false
theorem str_KMx (w : World) (base : Nat) (ok : Nat → Prop) (x : ByteArray) (cs : List Value) (h : Kd.string.K w x cs) : Kd.string.M w base ok x cs := h
structure CrSt (w W : World) (A : Option Addr) (N c : Nat) (B : Nat) (d : Nat) (a : Nat) (S : ByteArray) (l : List ByteArray) : Prop where
  b0 : Below w.heap.size w W
  hd : W.heap[w.heap.size]? = some (.cells #[.slice A N c, .slice (some ⟨B, 0, none⟩) 1 d] 26 (0, 0))
  hr : W.heap[w.heap.size + 1]? = some (.cells #[.slice none 0 0, .slice none 0 0] 26 (0, 0))
  h0 : W.cell? ⟨B, 0, none⟩ = some (.int .i64 (a : Int))
  h1 : W.cell? ⟨B, 1, none⟩ = some (.string S)
  hC : Kd.C Kd.string W A N l
theorem CrSt.step {w W W' : World} {A : Option Addr} {N c : Nat} {B : Nat} {d a : Nat} {S : ByteArray} {l : List ByteArray} (s : CrSt w W A N c B d a S l) (hb : Below W.heap.size W W') : CrSt w W' A N c B d a S l := ⟨below_step s.b0 hb, blk_below s.hd hb, blk_below s.hr hb, bcell hb s.h0, bcell hb s.h1, Kd.C_below s.hC hb⟩
theorem R_block {W : World} {base d : Nat} {ok : Nat → Prop} {B : Option Addr} {l : List ByteArray} (h : Kd.R Kd.string 9 W base ok (.slice B l.length d) l) (h0 : 0 < l.length) :
    ∃ g, B = some ⟨g, 0, none⟩ ∧ base ≤ g ∧ ∃ cur, W.heap[g]? = some (.cells cur 9 (0, 0)) ∧ l.length ≤ d ∧ d ≤ maxLen ∧ cur.size = d ∧ cur.toList.take l.length = l.map Value.string := by
  rcases (Kd.own_of_R h).2 with ⟨hv, hn⟩ | ⟨g, cap, cur, hv, hb, hg, h1, h2, h3, h4⟩
  · omega
  · injection hv with e1 _ e3
    subst e3
    exact ⟨g, e1, hb, cur, hg, h1, h2, by omega, by rw [Nat.mul_one] at h4; exact h4⟩
theorem row_store {W : World} {base g cap : Nat} {cur : Array Value} {l : List ByteArray} {a : Nat} {S : ByteArray} (hg : W.heap[g]? = some (.cells cur 9 (0, 0))) (hb : base ≤ g) (h1 : l.length ≤ cap) (h2 : cap ≤ maxLen) (h3 : cur.size = cap) (h4 : cur.toList.take l.length = l.map Value.string) (ha : a < l.length) :
    Kd.C Kd.string (W.setCell ⟨g, a, none⟩ (.string S)) (some ⟨g, 0, none⟩) l.length (l.set a S) := by
  have e := blk_put hg a (.string S) rfl
  have hR : Kd.R Kd.string 9 (W.setCell ⟨g, a, none⟩ (.string S)) base (fun _ => True) (.slice (some ⟨g, 0, none⟩) l.length cap) (l.set a S) := by
    refine Kd.R_of_own (enc := Value.string) ?_ (fun _ _ => trivial)
    refine ⟨by simp [encs], .inr ⟨g, cap, _, by simp, hb, e, by simpa using h1, h2, by simpa using h3, ?_⟩⟩
    simp only [encs, Nat.mul_one, List.length_set, Array.toList_setIfInBounds]
    rw [List.take_set, h4, List.map_set]
  have h := Kd.R_reads' hR
  simpa using h.2.2
set_option maxHeartbeats 4000000 in
set_option maxRecDepth 100000 in
theorem crash_walk (A : Option Addr) (N c : Nat) (l : List ByteArray) (B d a g cb : Nat) (S : ByteArray) (w : World) (hl : l.length = N) (hr : Kd.C Kd.string w A N l) (ha : a < N) (hN : N ≤ 100000) (k0 : w.cell? ⟨B, 0, none⟩ = some (.int .i64 (a : Int))) (k1 : w.cell? ⟨B, 1, none⟩ = some (.string S)) (hk : w.cell? ⟨g, 0, none⟩ = some (.bool true)) :
    Calls Tryz.prog 97 #[.agg #[.slice A N c, .slice (some ⟨B, 0, none⟩) 1 d], .slice (some ⟨g, 0, none⟩) 1 cb] w fun e w' => ∃ D m, e = .returned (.agg #[.slice D N m, .slice none 0 0]) ∧ N ≤ m ∧ Kd.C Kd.string w' D N (l.set a S) ∧ Below w.heap.size w w' := by
  obtain ⟨W1, hW1⟩ : ∃ W1, W1 = (w.alloc (.cells #[.slice A N c, .slice (some ⟨B, 0, none⟩) 1 d] 26)).alloc (.cells #[.slice none 0 0, .slice none 0 0] 26) := ⟨_, rfl⟩
  have S1 := Aside0.mk (show CrSt w W1 A N c B d a S l by
    have hb : Below w.heap.size w W1 := by rw [hW1]; exact below_alloc (below_alloc (Below.refl _ _) _) _
    exact ⟨hb, by rw [hW1]; exact blk_alloc (blk_new w _) _, by rw [hW1]; exact blk2 w _ _, bcell hb k0, bcell hb k1, Kd.C_below hr hb⟩)
  have hBlt : B < w.heap.size := World.block_lt_of_cell? w _ k0
  have HK1 := Aside0.mk (bcell S1.out.b0 hk)
  have hW1' := Aside0.mk hW1
  have HN := Aside0.mk (And.intro hl (And.intro ha hN))
  have d0 := (blk_cell S1.out.hd 0).trans (show _ = some (Value.slice A N c) from rfl)
  have d1 := (blk_cell S1.out.hd 1).trans (show _ = some (Value.slice (some ⟨B, 0, none⟩) 1 d) from rfl)
  clear hW1 ha hN k0 k1 hk hl hr
  go_enter Tryz.func97, Tryz.ntmps97
  go_upto_region 1 with (fail)
  rw [← hW1'.out]
  obtain ⟨W2, hW2⟩ : ∃ W2, W2 = W1.alloc (.cells #[] 9) := ⟨_, rfl⟩
  have hb2 : Below W1.heap.size W1 W2 := by rw [hW2]; exact below_alloc (Below.refl _ _) _
  have S2 := Aside0.mk (S1.out.step hb2)
  have HK2 := Aside0.mk (bcell hb2 HK1.out)
  clear hb2
  have hW2' := Aside0.mk hW2
  have d2 := (blk_cell S2.out.hd 0).trans (show _ = some (Value.slice A N c) from rfl)
  rw [hW2] at d2
  clear hW2
  go_upto_region 2 with (first | ((with_reducible refine gate_builtin (b := .append) (xs := #[.tmp 7, .tmp 9]) rfl ?_); at_builtin; refine append_full_list Kd.string str_KMx rfl (.tmp 7) (.tmp 9) 23 9 (.string ⟨#[]⟩) 16 rfl Tryz.underlying23 info_str rfl (by decide) _ 0 [] A N c l rfl rfl ⟨rfl, by decide, fun h => absurd h (by decide)⟩ (by rw [← hW2'.out]; exact S2.out.hC) (by have := HN.out; omega) (by have := HN.out; unfold maxLen; omega) (by have := HN.out; omega) (fun h => by cases h) ?_; intro B3 d3 w3 hd hC hb; rw [← hW2'.out] at hb hC; have HB3 := Aside0.mk hb; have HC3 := Aside0.mk hC; have S3 := Aside0.mk (S2.out.step hb); have HK3 := Aside0.mk (bcell hb HK2.out); clear hd hC hb) | fail)
  obtain ⟨g3, rfl, hb3, cur, hg3, hn3, hm3, hs3, ht3⟩ := R_block HC3.out (by have := HN.out; simp; omega)
  rw [List.nil_append] at hn3 ht3
  have R3 := Aside0.mk (And.intro hb3 (And.intro hg3 (And.intro hn3 (And.intro hm3 (And.intro hs3 ht3)))))
  have x0 : w3.cell? ⟨g3, a, none⟩ = some (cur[a]'(by have := HN.out; omega)) := by
    rw [blk_cell hg3 a, Array.getElem?_eq_getElem]
  have xf := blk_frozen hg3 a
  generalize cur[a]'_ = z at x0
  clear d0 d1 d2 hb3 hg3 hn3 hm3 hs3 ht3
  have d0 := (blk_cell S3.out.hd 0).trans (show _ = some (Value.slice A N c) from rfl)
  have d1 := (blk_cell S3.out.hd 1).trans (show _ = some (Value.slice (some ⟨B, 0, none⟩) 1 d) from rfl)
  have k0 := S3.out.h0
  have k1 := S3.out.h1
  have kk := HK3.out
  have q1 : (a < l.length) = True := eq_true (by have := HN.out; omega)
  have q2 : decide ((a : Int) < (l.length : Int)) = true := decide_eq_true (by have := HN.out; omega)
  have q3 : ((a : Int) < (l.length : Int)) = True := eq_true (by have := HN.out; omega)
  go_wp2
  refine wp_loop_rounds 2 ?_
  rw [rounds_succ]
  go_upto_region 6 with (fail)
  have HBL := Aside0.mk hBlt
  have hS4 : w.heap.size ≠ g3 ∧ w.heap.size + 1 ≠ g3 ∧ B ≠ g3 := by
    have h1 := R3.out.1
    have h2 : w.heap.size + 2 ≤ W2.heap.size := by rw [hW2'.out, hW1'.out]; simp
    have h3 := HBL.out
    omega
  obtain ⟨W4, hW4⟩ : ∃ W4, W4 = (w3.setCell ⟨g3, a, none⟩ (.string S)).drew := ⟨_, rfl⟩
  have hd4 : W4.heap[w.heap.size]? = some (.cells #[.slice A N c, .slice (some ⟨B, 0, none⟩) 1 d] 26 (0, 0)) := by rw [hW4]; exact blk_drew (blk_far (p := ⟨g3, a, none⟩) S3.out.hd hS4.1 _)
  have hr4 := Aside0.mk (show W4.heap[w.heap.size + 1]? = some (.cells #[.slice none 0 0, .slice none 0 0] 26 (0, 0)) by rw [hW4]; exact blk_drew (blk_far (p := ⟨g3, a, none⟩) S3.out.hr hS4.2.1 _))
  have hC4 := Aside0.mk (show Kd.C Kd.string W4 (some ⟨g3, 0, none⟩) l.length (l.set a S) by rw [hW4]; exact Kd.C_drew (row_store R3.out.2.1 R3.out.1 R3.out.2.2.1 R3.out.2.2.2.1 R3.out.2.2.2.2.1 R3.out.2.2.2.2.2 (by have := HN.out; omega)))
  have hb4 := Aside0.mk (show Below w.heap.size w W4 by rw [hW4]; exact below_drew1 (below_set S3.out.b0 (by have h1 := R3.out.1; have h2 := S2.out.b0.size; show w.heap.size ≤ g3; omega)))
  have e1 := (blk_cell hd4 1).trans (show _ = some (Value.slice (some ⟨B, 0, none⟩) 1 d) from rfl)
  have K1 := Aside0.mk (show W4.cell? ⟨w.heap.size, 1, none⟩ = some (.slice (some ⟨B, 0, none⟩) 1 d) ∧ W4.cell? ⟨B, 0, none⟩ = some (.int .i64 a) ∧ W4.cell? ⟨B, 1, none⟩ = some (.string S) from ⟨e1, by rw [hW4]; exact bcell (below_drew1 (Below.refl _ _)) ((cell_far (p := ⟨g3, a, none⟩) hS4.2.2 _).trans k0), by rw [hW4]; exact bcell (below_drew1 (Below.refl _ _)) ((cell_far (p := ⟨g3, a, none⟩) hS4.2.2 _).trans k1)⟩)
  have hW4' := Aside0.mk hW4
  rw [hW4] at K1 e1
  clear hS4 hd4 hW4
  go_region_held3 (fun w' => w'.cell? ⟨w.heap.size, 1, none⟩ = some (.slice (some ⟨B, 0, none⟩) 1 d) ∧ w'.cell? ⟨B, 0, none⟩ = some (.int .i64 a) ∧ w'.cell? ⟨B, 1, none⟩ = some (.string S)) (first | exact ⟨d1, k0, k1⟩ | with_reducible exact K1.out) (fail)
  all_goals
    rw [← hW4'.out]
    rw [← hW4'.out] at e1
    clear d0 d1 k0 k1
    have k0 := (blk_cell hr4.out 0).trans (show _ = some (Value.slice none 0 0) from rfl)
    have k1 := (blk_cell hr4.out 1).trans (show _ = some (Value.slice none 0 0) from rfl)
    have f0 := blk_frozen hr4.out 0
    have f1 := blk_frozen hr4.out 1
    go_wp2
    rw [rounds_succ]
    go_wp2
    refine bodyPost_ret (results_c1 rfl _ _ (w.heap.size + 1) 26 #[.slice (some ⟨g3, 0, none⟩) l.length d3, .slice none 0 0] (0, 0) _ rfl (blk_put (blk_put hr4.out 0 _ rfl) 1 _ rfl) Tryz.underlying26 rfl (by kernel_rfl)) rfl ?_
    have hl := HN.out.1
    have hC := str_store (m := l.length) (k := d3) (m' := 0) (k' := 0) (B := some ⟨g3, 0, none⟩) (D := none) hC4.out hr4.out
    rw [hl] at hC ⊢
    exact ⟨some ⟨g3, 0, none⟩, d3, rfl, by have := R3.out.2.2.1; omega, hC, below_set (below_set hb4.out (by omega)) (by omega)⟩
end Go.Proofs.YtodejilhgpejnaaGreat.Q
namespace Go.Proofs.YtodejilhgpejnaaGreat.Q
open Go.RowKit Go.Proofs.YtodejilhgpejnaaGreatW.PrintWords Go.Proofs.YtodejilhgpejnaaGreatW.PrintLast Go.Proofs.YtodejilhgpejnaaGreatW.PrintMore
attribute [local go_sem] max2_int min2_int max_two min_two max_three min_three max_four min_four
set_option linter.unusedVariables false
set_option linter.unusedSimpArgs false
theorem info_boolt : (Tryz.prog.info? 4).map (fun i => (i.zero, i.size, i.bytes)) = some (some (.bool false), 1, 1) := by kernel_rfl
theorem bool_KM (w : World) (base : Nat) (ok : Nat → Prop) (x : Bool) (cs : List Value) (h : Kd.bool.K w x cs) : Kd.bool.M w base ok x cs := h
theorem C_bool1 (w : World) : Kd.C Kd.bool (w.alloc (.cells #[.bool true] 4)) (some ⟨w.heap.size, 0, none⟩) 1 [true] := by
  refine ⟨rfl, by omega, fun _ => ⟨_, rfl, fun j p hj => ?_⟩⟩
  have hj0 : j = 0 := by
    have := (List.getElem?_eq_some_iff.1 hj).1
    simp at this; exact this
  subst hj0
  obtain rfl : true = p := by simpa using hj
  refine ⟨[.bool true], rfl, rfl, fun i u hu => ?_⟩
  have h1 := blk_cell (blk_new w (.cells #[.bool true] 4)) i
  have e : (⟨w.heap.size, 0, none⟩ : Addr).add (0 * Kd.bool.sz + i) = ⟨w.heap.size, i, none⟩ := by simp [Addr.add]; omega
  rw [e, h1]
  simpa using hu
theorem R_bool1 {w : World} {e base d : Nat} {ok : Nat → Prop} {B : Option Addr} (h : Kd.R Kd.bool e w base ok (.slice B 1 d) [true]) : ∃ g, B = some ⟨g, 0, none⟩ ∧ w.cell? ⟨g, 0, none⟩ = some (.bool true) := by
  rcases (Kd.own_of_R h).2 with ⟨hv, _⟩ | ⟨g, cap, cur, hv, hb, hg, h1, h2, h3, h4⟩
  · cases hv
  · injection hv with e1 _ _
    refine ⟨g, e1, ?_⟩
    rw [blk_cell hg 0, ← Array.getElem?_toList]
    have : (cur.toList.take ([true].length * 1))[0]? = some (Value.bool true) := by rw [h4]; rfl
    simpa using this
structure FlSt (w W : World) (A : Option Addr) (N c : Nat) (B : Nat) (d : Nat) (a : Nat) (S : ByteArray) (l : List ByteArray) : Prop where
  b0 : Below w.heap.size w W
  hd : W.heap[w.heap.size]? = some (.cells #[.slice A N c, .slice (some ⟨B, 0, none⟩) 1 d] 26 (0, 0))
  hr : W.heap[w.heap.size + 1]? = some (.cells #[.slice none 0 0, .slice none 0 0] 26 (0, 0))
theorem FlSt.step {w W W' : World} {A : Option Addr} {N c : Nat} {B d a : Nat} {S : ByteArray} {l : List ByteArray} (s : FlSt w W A N c B d a S l) (hb : Below W.heap.size W W') : FlSt w W' A N c B d a S l := ⟨below_step s.b0 hb, blk_below s.hd hb, blk_below s.hr hb⟩
set_option maxHeartbeats 4000000 in
set_option maxRecDepth 100000 in
theorem rflush_walk (A : Option Addr) (N c : Nat) (l : List ByteArray) (B d a : Nat) (S : ByteArray) (w : World) (hl : l.length = N) (hr : Kd.C Kd.string w A N l) (ha : a < N) (hN : N ≤ 100000) (k0 : w.cell? ⟨B, 0, none⟩ = some (.int .i64 (a : Int))) (k1 : w.cell? ⟨B, 1, none⟩ = some (.string S)) :
    Calls Tryz.prog 65 #[.agg #[.slice A N c, .slice (some ⟨B, 0, none⟩) 1 d]] w fun e w' => ∃ D m, e = .returned (.agg #[.slice D N m, .slice none 0 0]) ∧ N ≤ m ∧ Kd.C Kd.string w' D N (l.set a S) ∧ Below w.heap.size w w' := by
  obtain ⟨W1, hW1⟩ : ∃ W1, W1 = (w.alloc (.cells #[.slice A N c, .slice (some ⟨B, 0, none⟩) 1 d] 26)).alloc (.cells #[.slice none 0 0, .slice none 0 0] 26) := ⟨_, rfl⟩
  have S1 := Aside0.mk (show FlSt w W1 A N c B d a S l by
    have hb : Below w.heap.size w W1 := by rw [hW1]; exact below_alloc (below_alloc (Below.refl _ _) _) _
    exact ⟨hb, by rw [hW1]; exact blk_alloc (blk_new w _) _, by rw [hW1]; exact blk2 w _ _⟩)
  have HC := Aside0.mk (fun (W : World) (g cb : Nat) (hb : Below w.heap.size w W) (hk : W.cell? ⟨g, 0, none⟩ = some (.bool true)) => crash_walk A N c l B d a g cb S W hl (Kd.C_below hr hb) ha hN (bcell hb k0) (bcell hb k1) hk)
  have hW1' := Aside0.mk hW1
  have d0 := (blk_cell S1.out.hd 0).trans (show _ = some (Value.slice A N c) from rfl)
  have d1 := (blk_cell S1.out.hd 1).trans (show _ = some (Value.slice (some ⟨B, 0, none⟩) 1 d) from rfl)
  clear hW1 ha hN k0 k1 hl hr
  go_enter Tryz.func65, Tryz.ntmps65
  go_upto_region 1 with (fail)
  rw [← hW1'.out]
  go_wp2
  refine wp_loop_rounds 2 ?_
  rw [rounds_succ]
  go_wp2_with (first | ((with_reducible refine gate_builtin (b := .append) (xs := #[.tmp 12, .tmp 13]) rfl ?_); at_builtin; refine append_full_list Kd.bool bool_KM rfl (.tmp 12) (.tmp 13) 164 4 (.bool false) 1 rfl Tryz.underlying164 info_boolt rfl (by decide) none 0 [] (some ⟨W1.heap.size, 0, none⟩) 1 1 [true] rfl rfl (Kd.C_nil _ _) (C_bool1 _) (by decide) (by decide) (by decide) (fun _ => rfl) ?_; intro B3 d3 w3 hd hC hb; obtain ⟨g3, rfl, hg⟩ := R_bool1 hC; have HB3 := Aside0.mk (show Below W1.heap.size W1 w3 from below_step (below_alloc (Below.refl _ _) _) hb); have HG3 := Aside0.mk hg; have S3 := Aside0.mk (S1.out.step HB3.out); clear d0 d1; have d0 := (blk_cell S3.out.hd 0).trans (show _ = some (Value.slice A N c) from rfl); have d1 := (blk_cell S3.out.hd 1).trans (show _ = some (Value.slice (some ⟨B, 0, none⟩) 1 d) from rfl); clear hd hC hb hg) | fail)
  rw [rounds_succ]
  go_wp2_with (first | (go_at_call 97; (with_reducible refine (HC.out _ _ _ S3.out.b0 HG3.out).mono ?_); rintro e w4 ⟨D, m, rfl, hm, hC, hb⟩; have HB4 := Aside0.mk hb; have HC4 := Aside0.mk (And.intro hm hC); have S4 := Aside0.mk (S3.out.step hb); have e0 := (blk_cell S4.out.hr 0).trans (show _ = some (Value.slice none 0 0) from rfl); have e1 := (blk_cell S4.out.hr 1).trans (show _ = some (Value.slice none 0 0) from rfl); have f0 := blk_frozen S4.out.hr 0; have f1 := blk_frozen S4.out.hr 1; clear hm hC hb) | fail)
  refine bodyPost_ret (results_c1 rfl _ _ (w.heap.size + 1) 26 #[.slice D N m, .slice none 0 0] (0, 0) _ rfl (blk_put (blk_put S4.out.hr 0 _ rfl) 1 _ rfl) Tryz.underlying26 rfl (by kernel_rfl)) rfl ?_
  exact ⟨D, m, rfl, HC4.out.1, str_store HC4.out.2 S4.out.hr, below_set (below_set S4.out.b0 (by omega)) (by omega)⟩
end Go.Proofs.YtodejilhgpejnaaGreat.Q
namespace Go.Proofs.YtodejilhgpejnaaGreat.Q
open Go.RowKit Go.Proofs.YtodejilhgpejnaaGreatW.PrintWords Go.Proofs.YtodejilhgpejnaaGreatW.PrintLast Go.Proofs.YtodejilhgpejnaaGreatW.PrintMore
attribute [local go_sem] max2_int min2_int max_two min_two max_three min_three max_four min_four
set_option linter.unusedVariables false
set_option linter.unusedSimpArgs false
abbrev RPutC (N : Nat) (a : Nat) (S : ByteArray) : Prop := ∀ (A : Option Addr) (c : Nat) (W : World), Calls Tryz.prog 66 #[.agg #[.slice A N c, .slice none 0 0], .int .i64 a, .string S] W fun e w' => ∃ gb d, e = .returned (.tuple #[.agg #[.slice A N c, .slice (some ⟨gb, 0, none⟩) 1 d], .int .i64 0]) ∧ W.heap.size ≤ gb ∧ w'.cell? ⟨gb, 0, none⟩ = some (.int .i64 (a : Int)) ∧ w'.cell? ⟨gb, 1, none⟩ = some (.string S) ∧ Below W.heap.size W w'
abbrev RFlushC (N : Nat) (a : Nat) (S : ByteArray) : Prop := ∀ (A : Option Addr) (c : Nat) (l : List ByteArray) (B d : Nat) (W : World), l.length = N → Kd.C Kd.string W A N l → W.cell? ⟨B, 0, none⟩ = some (.int .i64 (a : Int)) → W.cell? ⟨B, 1, none⟩ = some (.string S) → Calls Tryz.prog 65 #[.agg #[.slice A N c, .slice (some ⟨B, 0, none⟩) 1 d]] W fun e w' => ∃ D m, e = .returned (.agg #[.slice D N m, .slice none 0 0]) ∧ N ≤ m ∧ Kd.C Kd.string w' D N (l.set a S) ∧ Below W.heap.size W w'
theorem gb_ne {W : World} {o : Obj} {b : Nat} (h : (W.alloc o).drew.heap.size ≤ b) : b ≠ W.heap.size := by
  have h2 : (W.alloc o).heap.size ≤ b := h
  simp at h2
  omega
theorem gb_far {W : World} {X b j : Nat} {v u0 u1 : Value} {o : Obj} (_ : W.heap[X]? = some o) (hne : b ≠ X) (h : W.cell? ⟨b, j, none⟩ = some v) : ((W.setCell ⟨X, 0, none⟩ u0).setCell ⟨X, 1, none⟩ u1).cell? ⟨b, j, none⟩ = some v := (cell_far (p := ⟨X, 1, none⟩) hne _).trans ((cell_far (p := ⟨X, 0, none⟩) hne _).trans h)
theorem DoSt.lt {w W : World} {A : Option Addr} {N c : Nat} {B : Option Addr} {m d : Nat} {g a : Nat} {S : ByteArray} {q : Nat} {T : ByteArray} (s : DoSt w W A N c B m d g a S q T) : w.heap.size < W.heap.size := (Array.getElem?_eq_some_iff.1 s.hd).1
set_option maxHeartbeats 8000000 in
set_option maxRecDepth 100000 in
theorem rdo4_walk (A : Option Addr) (N c : Nat) (l : List ByteArray) (g cb a : Nat) (S : ByteArray) (q : Nat) (T : ByteArray) (w : World) (hN : l.length = N) (hr : Kd.C Kd.string w A N l) (hbig : N ≤ 100000) (ha : a < N) (hq : q < N) (hS : S.size = 40) (hT : T.size = 40) (hg : g < w.heap.size) (hrow : ∀ j u, (plan4 a S q T)[j]? = some u → w.cell? ⟨g, j, none⟩ = some u) :
    Calls Tryz.prog 39 #[.agg #[.slice A N c, .slice none 0 0], .slice (some ⟨g, 0, none⟩) 4 cb, .int .i64 (-1)] w fun e w' => ∃ D m, e = .returned (.tuple #[.agg #[.slice D N m, .slice none 0 0], .int .i64 4]) ∧ N ≤ m ∧ Kd.C Kd.string w' D N ((l.set a S).set q T) ∧ Below w.heap.size w w' := by
  obtain ⟨W1, hW1⟩ : ∃ W1, W1 = (w.alloc (.cells #[.slice A N c, .slice none 0 0] 26)).alloc (.cells #[.slice none 0 0, .slice none 0 0] 26) := ⟨_, rfl⟩
  have S1 := Aside0.mk (show DoSt w W1 A N c none 0 0 g a S q T by
    have hb : Below w.heap.size w W1 := by rw [hW1]; exact below_alloc (below_alloc (Below.refl _ _) _) _
    exact ⟨hb, by rw [hW1]; exact blk_alloc (blk_new w _) _, by rw [hW1]; exact blk2 w _ _, fun j u h => bcell hb (hrow j u h)⟩)
  have HR := Aside0.mk (Kd.C_below hr S1.out.b0)
  have HP1 := Aside0.mk (show RPutC N a S from fun A c W => rput_walk A N c a S W ha hS)
  have HP2 := Aside0.mk (show RPutC N q T from fun A c W => rput_walk A N c q T W hq hT)
  have HF1 := Aside0.mk (show RFlushC N a S from fun A c l B d W h1 h2 h3 h4 => rflush_walk A N c l B d a S W h1 h2 ha hbig h3 h4)
  have HF2 := Aside0.mk (show RFlushC N q T from fun A c l B d W h1 h2 h3 h4 => rflush_walk A N c l B d q T W h1 h2 hq hbig h3 h4)
  have HL1 := Aside0.mk hN
  have HL2 := Aside0.mk (show (l.set a S).length = N by rw [List.length_set]; exact hN)
  have HG := Aside0.mk hg
  have n1 : ((a : Int) == -1) = false := beq_eq_false_iff_ne.mpr (by omega)
  have n2 : ((q : Int) == -1) = false := beq_eq_false_iff_ne.mpr (by omega)
  have n3 := string_ne hS
  have n4 := string_ne hT
  have hW1' := Aside0.mk hW1
  clear hW1 hN hr hbig ha hq hS hT hg hrow
  go_enter Tryz.func39, Tryz.ntmps39
  go_upto_region 1 with (fail)
  rw [← hW1'.out]
  go_wp2
  refine wp_loop_rounds 5 ?_
  rw [rounds_succ]
  (have xi := S1.out.row 0 _ rfl; have xj := S1.out.row 1 _ rfl; have d0 := S1.out.c0; have d1 := S1.out.c1; go_upto_region 8 with (fail); go_cut [9, 10] from 42 to 57 (fun v9 v10 wx => ∃ XN gb d : Nat, v9 = .pointer (some ⟨XN, 0, none⟩) ∧ v10 = .int .i64 0 ∧ Aside0 (wx.heap[XN]? = some (.cells #[.slice A N c, .slice (some ⟨gb, 0, none⟩) 1 d] 26 (0, 0))) ∧ Aside0 (W1.heap.size ≤ gb ∧ wx.cell? ⟨gb, 0, none⟩ = some (.int .i64 (a : Int)) ∧ wx.cell? ⟨gb, 1, none⟩ = some (.string S)) ∧ Aside0 (Below W1.heap.size W1 wx)); (case first => (go_region_held3 (fun w' => w'.cell? ⟨w.heap.size, 0, none⟩ = some (.slice A N c) ∧ w'.cell? ⟨w.heap.size, 1, none⟩ = some (.slice none 0 0) ∧ w'.cell? ⟨g, 0, none⟩ = some (.int .i64 a) ∧ w'.cell? ⟨g, 1, none⟩ = some (.string S)) (first | exact ⟨d0, d1, xi, xj⟩ | exact (fun (H : Below W1.heap.size W1 _) => ⟨bcell H d0, bcell H d1, bcell H xi, bcell H xj⟩) (by repeat (first | (with_reducible exact Below.refl _ _) | (with_reducible refine below_alloc ?_ _) | (with_reducible refine below_drew1 ?_) | (with_reducible refine pw_below_drewN ?_ _) | (with_reducible exact HB2.out) | (with_reducible refine below_set ?_ (Nat.le_refl _))))) (first | (go_at_call 66; (with_reducible refine (HP1.out _ _ _).mono ?_); rintro e w2 ⟨B2, m2, rfl, hm2, hw2, hw3, hb2⟩; have HW2 := Aside0.mk (And.intro hm2 (And.intro hw2 hw3)); have HB2 := Aside0.mk (show Below W1.heap.size W1 w2 from below_step (by repeat (first | (with_reducible exact Below.refl _ _) | (with_reducible refine below_alloc ?_ _) | (with_reducible refine below_drew1 ?_) | (with_reducible refine pw_below_drewN ?_ _) | (with_reducible exact Below.refl _ _))) hb2); have HGE := Aside0.mk (show W1.heap.size ≤ B2 from Nat.le_trans (Below.size (show Below W1.heap.size W1 _ by repeat (first | (with_reducible exact Below.refl _ _) | (with_reducible refine below_alloc ?_ _) | (with_reducible refine below_drew1 ?_) | (with_reducible refine pw_below_drewN ?_ _) | (with_reducible exact Below.refl _ _)))) hm2); (first | (have HNE := Aside0.mk (show B2 ≠ W1.heap.size from gb_ne hm2); have qx := blk_below (blk_drew (blk_new W1 (.cells #[.slice none 0 0, .slice none 0 0] 26))) hb2; have QX := Aside0.mk qx; have qx0 := (blk_cell qx 0).trans (show _ = some (Value.slice none 0 0) from rfl); have qx1 := (blk_cell qx 1).trans (show _ = some (Value.slice none 0 0) from rfl); have qf0 := blk_frozen qx 0; have qf1 := blk_frozen qx 1; clear qx) | skip); clear hm2 hw2 hw3 hb2) | fail); all_goals (go_wp2; go_meet; (case rel => first | exact ⟨w2.heap.size, B2, m2, rfl, rfl, ⟨blk_new _ _⟩, ⟨HGE.out, bcell (below_alloc (Below.refl _ _) _) HW2.out.2.1, bcell (below_alloc (Below.refl _ _) _) HW2.out.2.2⟩, ⟨below_alloc HB2.out _⟩⟩ | exact ⟨W1.heap.size, B2, m2, rfl, rfl, ⟨blk_put (blk_put QX.out 0 _ rfl) 1 _ rfl⟩, ⟨HGE.out, gb_far QX.out HNE.out HW2.out.2.1, gb_far QX.out HNE.out HW2.out.2.2⟩, ⟨below_set (below_set HB2.out (Nat.le_refl _)) (Nat.le_refl _)⟩⟩)))))
  case rest =>
    (obtain ⟨XN, B2, m2, rfl, rfl, HX, HGB, HBX⟩ := hcut; have Sb := Aside0.mk (S1.out.step HBX.out); clear d0 d1 xi xj; have z0 := (blk_cell HX.out 0).trans (show _ = some (Value.slice A N c) from rfl); have z1 := (blk_cell HX.out 1).trans (show _ = some (Value.slice (some ⟨B2, 0, none⟩) 1 m2) from rfl); have f0 := blk_frozen Sb.out.hd 0; have f1 := blk_frozen Sb.out.hd 1; have d0 := Sb.out.c0; have d1 := Sb.out.c1; go_upto_region 3 with (fail); obtain ⟨Wc, hWe⟩ : ∃ W, W = (wc.setCell ⟨w.heap.size, 0, none⟩ (.slice A N c)).setCell ⟨w.heap.size, 1, none⟩ (.slice (some ⟨B2, 0, none⟩) 1 m2) := ⟨_, rfl⟩; have Sc := Aside0.mk (show DoSt w Wc A N c (some ⟨B2, 0, none⟩) 1 m2 g a S q T by rw [hWe]; exact Sb.out.put HG.out); have HRc := Aside0.mk (show Kd.C Kd.string Wc A N l by rw [hWe]; exact str_store (Kd.C_below HR.out HBX.out) Sb.out.hd); have HWc := Aside0.mk (show Wc.cell? ⟨B2, 0, none⟩ = some (.int .i64 (a : Int)) ∧ Wc.cell? ⟨B2, 1, none⟩ = some (.string S) by rw [hWe]; have hne : B2 ≠ w.heap.size := (by have h1 := HGB.out.1; have h2 := S1.out.lt; omega); exact ⟨(cell_far hne _).trans ((cell_far hne _).trans HGB.out.2.1), (cell_far hne _).trans ((cell_far hne _).trans HGB.out.2.2)⟩); rw [← hWe]; clear hWe z0 z1 f0 f1 d0 d1 Sb HX HGB HBX HR)
    go_wp2
    rw [rounds_succ]
    (have xi := Sc.out.row 2 _ rfl; have xj := Sc.out.row 3 _ rfl; have d0 := Sc.out.c0; have d1 := Sc.out.c1; have f0 := blk_frozen Sc.out.hd 0; have f1 := blk_frozen Sc.out.hd 1; go_upto_region 3 with (first | (go_at_call 65; (with_reducible refine (HF1.out _ _ _ _ _ _ HL1.out HRc.out HWc.out.1 HWc.out.2).mono ?_); rintro e w2 ⟨A3, c3, rfl, hm2, hw2, hb2⟩; have HW2 := Aside0.mk (And.intro hm2 hw2); have S2 := Aside0.mk (Sc.out.step hb2); clear d0 d1 f0 f1; have d0 := S2.out.c0; have d1 := S2.out.c1; have f0 := blk_frozen S2.out.hd 0; have f1 := blk_frozen S2.out.hd 1; clear hm2 hw2 hb2) | fail); obtain ⟨W3, hWe⟩ : ∃ W, W = (w2.setCell ⟨w.heap.size, 0, none⟩ (.slice A3 N c3)).setCell ⟨w.heap.size, 1, none⟩ (.slice none 0 0) := ⟨_, rfl⟩; have S3 := Aside0.mk (show DoSt w W3 A3 N c3 none 0 0 g a S q T by rw [hWe]; exact S2.out.put HG.out); have HM5 := Aside0.mk HW2.out.1; have HR := Aside0.mk (show Kd.C Kd.string W3 A3 N (l.set a S) by rw [hWe]; exact str_store HW2.out.2 S2.out.hd); rw [← hWe]; clear hWe d0 d1 f0 f1 xi xj HRc HWc Sc HW2 S2)
    go_wp2
    rw [rounds_succ]
    (have xi := S3.out.row 4 _ rfl; have xj := S3.out.row 5 _ rfl; have d0 := S3.out.c0; have d1 := S3.out.c1; go_upto_region 8 with (fail); go_cut [9, 10] from 42 to 57 (fun v9 v10 wx => ∃ XN gb d : Nat, v9 = .pointer (some ⟨XN, 0, none⟩) ∧ v10 = .int .i64 0 ∧ Aside0 (wx.heap[XN]? = some (.cells #[.slice A3 N c3, .slice (some ⟨gb, 0, none⟩) 1 d] 26 (0, 0))) ∧ Aside0 (W3.heap.size ≤ gb ∧ wx.cell? ⟨gb, 0, none⟩ = some (.int .i64 (q : Int)) ∧ wx.cell? ⟨gb, 1, none⟩ = some (.string T)) ∧ Aside0 (Below W3.heap.size W3 wx)); (case first => (go_region_held3 (fun w' => w'.cell? ⟨w.heap.size, 0, none⟩ = some (.slice A3 N c3) ∧ w'.cell? ⟨w.heap.size, 1, none⟩ = some (.slice none 0 0) ∧ w'.cell? ⟨g, 4, none⟩ = some (.int .i64 q) ∧ w'.cell? ⟨g, 5, none⟩ = some (.string T)) (first | exact ⟨d0, d1, xi, xj⟩ | exact (fun (H : Below W3.heap.size W3 _) => ⟨bcell H d0, bcell H d1, bcell H xi, bcell H xj⟩) (by repeat (first | (with_reducible exact Below.refl _ _) | (with_reducible refine below_alloc ?_ _) | (with_reducible refine below_drew1 ?_) | (with_reducible refine pw_below_drewN ?_ _) | (with_reducible exact HB2.out) | (with_reducible refine below_set ?_ (Nat.le_refl _))))) (first | (go_at_call 66; (with_reducible refine (HP2.out _ _ _).mono ?_); rintro e w2 ⟨B2, m2, rfl, hm2, hw2, hw3, hb2⟩; have HW2 := Aside0.mk (And.intro hm2 (And.intro hw2 hw3)); have HB2 := Aside0.mk (show Below W3.heap.size W3 w2 from below_step (by repeat (first | (with_reducible exact Below.refl _ _) | (with_reducible refine below_alloc ?_ _) | (with_reducible refine below_drew1 ?_) | (with_reducible refine pw_below_drewN ?_ _) | (with_reducible exact Below.refl _ _))) hb2); have HGE := Aside0.mk (show W3.heap.size ≤ B2 from Nat.le_trans (Below.size (show Below W3.heap.size W3 _ by repeat (first | (with_reducible exact Below.refl _ _) | (with_reducible refine below_alloc ?_ _) | (with_reducible refine below_drew1 ?_) | (with_reducible refine pw_below_drewN ?_ _) | (with_reducible exact Below.refl _ _)))) hm2); (first | (have HNE := Aside0.mk (show B2 ≠ W3.heap.size from gb_ne hm2); have qx := blk_below (blk_drew (blk_new W3 (.cells #[.slice none 0 0, .slice none 0 0] 26))) hb2; have QX := Aside0.mk qx; have qx0 := (blk_cell qx 0).trans (show _ = some (Value.slice none 0 0) from rfl); have qx1 := (blk_cell qx 1).trans (show _ = some (Value.slice none 0 0) from rfl); have qf0 := blk_frozen qx 0; have qf1 := blk_frozen qx 1; clear qx) | skip); clear hm2 hw2 hw3 hb2) | fail); all_goals (go_wp2; go_meet; (case rel => first | exact ⟨w2.heap.size, B2, m2, rfl, rfl, ⟨blk_new _ _⟩, ⟨HGE.out, bcell (below_alloc (Below.refl _ _) _) HW2.out.2.1, bcell (below_alloc (Below.refl _ _) _) HW2.out.2.2⟩, ⟨below_alloc HB2.out _⟩⟩ | exact ⟨W3.heap.size, B2, m2, rfl, rfl, ⟨blk_put (blk_put QX.out 0 _ rfl) 1 _ rfl⟩, ⟨HGE.out, gb_far QX.out HNE.out HW2.out.2.1, gb_far QX.out HNE.out HW2.out.2.2⟩, ⟨below_set (below_set HB2.out (Nat.le_refl _)) (Nat.le_refl _)⟩⟩)))))
    case rest =>
      (obtain ⟨XN, B2, m2, rfl, rfl, HX, HGB, HBX⟩ := hcut; have Sb := Aside0.mk (S3.out.step HBX.out); clear d0 d1 xi xj; have z0 := (blk_cell HX.out 0).trans (show _ = some (Value.slice A3 N c3) from rfl); have z1 := (blk_cell HX.out 1).trans (show _ = some (Value.slice (some ⟨B2, 0, none⟩) 1 m2) from rfl); have f0 := blk_frozen Sb.out.hd 0; have f1 := blk_frozen Sb.out.hd 1; have d0 := Sb.out.c0; have d1 := Sb.out.c1; go_upto_region 3 with (fail); obtain ⟨Wc, hWe⟩ : ∃ W, W = (wc.setCell ⟨w.heap.size, 0, none⟩ (.slice A3 N c3)).setCell ⟨w.heap.size, 1, none⟩ (.slice (some ⟨B2, 0, none⟩) 1 m2) := ⟨_, rfl⟩; have Sc := Aside0.mk (show DoSt w Wc A3 N c3 (some ⟨B2, 0, none⟩) 1 m2 g a S q T by rw [hWe]; exact Sb.out.put HG.out); have HRc := Aside0.mk (show Kd.C Kd.string Wc A3 N (l.set a S) by rw [hWe]; exact str_store (Kd.C_below HR.out HBX.out) Sb.out.hd); have HWc := Aside0.mk (show Wc.cell? ⟨B2, 0, none⟩ = some (.int .i64 (q : Int)) ∧ Wc.cell? ⟨B2, 1, none⟩ = some (.string T) by rw [hWe]; have hne : B2 ≠ w.heap.size := (by have h1 := HGB.out.1; have h2 := S3.out.lt; omega); exact ⟨(cell_far hne _).trans ((cell_far hne _).trans HGB.out.2.1), (cell_far hne _).trans ((cell_far hne _).trans HGB.out.2.2)⟩); rw [← hWe]; clear hWe z0 z1 f0 f1 d0 d1 Sb HX HGB HBX HR)
      go_wp2
      rw [rounds_succ]
      (have xi := Sc.out.row 6 _ rfl; have xj := Sc.out.row 7 _ rfl; have d0 := Sc.out.c0; have d1 := Sc.out.c1; have f0 := blk_frozen Sc.out.hd 0; have f1 := blk_frozen Sc.out.hd 1; go_upto_region 3 with (first | (go_at_call 65; (with_reducible refine (HF2.out _ _ _ _ _ _ HL2.out HRc.out HWc.out.1 HWc.out.2).mono ?_); rintro e w2 ⟨A5, c5, rfl, hm2, hw2, hb2⟩; have HW2 := Aside0.mk (And.intro hm2 hw2); have S2 := Aside0.mk (Sc.out.step hb2); clear d0 d1 f0 f1; have d0 := S2.out.c0; have d1 := S2.out.c1; have f0 := blk_frozen S2.out.hd 0; have f1 := blk_frozen S2.out.hd 1; clear hm2 hw2 hb2) | fail); obtain ⟨W5, hWe⟩ : ∃ W, W = (w2.setCell ⟨w.heap.size, 0, none⟩ (.slice A5 N c5)).setCell ⟨w.heap.size, 1, none⟩ (.slice none 0 0) := ⟨_, rfl⟩; have S5 := Aside0.mk (show DoSt w W5 A5 N c5 none 0 0 g a S q T by rw [hWe]; exact S2.out.put HG.out); have HM5 := Aside0.mk HW2.out.1; have HR := Aside0.mk (show Kd.C Kd.string W5 A5 N ((l.set a S).set q T) by rw [hWe]; exact str_store HW2.out.2 S2.out.hd); rw [← hWe]; clear hWe d0 d1 f0 f1 xi xj HRc HWc Sc HW2 S2)
      go_wp2
      rw [rounds_succ]
      have d0 := S5.out.c0
      have d1 := S5.out.c1
      have e0 := (blk_cell S5.out.hr 0).trans (show _ = some (Value.slice none 0 0) from rfl)
      have e1 := (blk_cell S5.out.hr 1).trans (show _ = some (Value.slice none 0 0) from rfl)
      have f0 := blk_frozen S5.out.hr 0
      have f1 := blk_frozen S5.out.hr 1
      go_wp2
      refine bodyPost_ret (results_ct rfl _ _ (w.heap.size + 1) 26 #[.slice A5 N c5, .slice none 0 0] (0, 0) _ rfl (blk_put (blk_put S5.out.hr 0 _ rfl) 1 _ rfl) Tryz.underlying26 rfl (by kernel_rfl)) rfl ?_
      exact ⟨A5, c5, rfl, HM5.out, str_store HR.out S5.out.hr, below_set (below_set S5.out.b0 (by omega)) (by omega)⟩
end Go.Proofs.YtodejilhgpejnaaGreat.Q
namespace Go.Proofs.YtodejilhgpejnaaGreat.Q
open Go.RowKit Go.Proofs.YtodejilhgpejnaaGreatW.PrintWords Go.Proofs.YtodejilhgpejnaaGreatW.PrintLast Go.Proofs.YtodejilhgpejnaaGreatW.PrintMore
attribute [local go_sem] max2_int min2_int max_two min_two max_three min_three max_four min_four
set_option linter.unusedVariables false
set_option linter.unusedSimpArgs false
set_option maxHeartbeats 4000000 in
set_option maxRecDepth 100000 in
theorem refSettle_walk (A : Option Addr) (n c keep : Nat) (w : World) (hz : ZC w A n) (hl : n ≤ 2000) :
    Calls Tryz.prog 67 #[.agg #[.slice A n c, .int .i64 keep]] w fun e w' => e = .returned (.agg #[.slice A n c, .int .i64 keep]) ∧ Below w.heap.size w w' := by
  obtain ⟨W1, hW1⟩ : ∃ W1, W1 = (w.alloc (.cells #[.slice A n c, .int .i64 keep] 29)).alloc (.cells #[.slice none 0 0, .int .i64 0] 29) := ⟨_, rfl⟩
  have HB0 := Aside0.mk (show Below w.heap.size w W1 by rw [hW1]; exact below_alloc (below_alloc (Below.refl _ _) _) _)
  have HBH := Aside0.mk (show W1.heap[w.heap.size]? = some (.cells #[.slice A n c, .int .i64 keep] 29 (0, 0)) by rw [hW1]; exact blk_alloc (blk_new w _) _)
  have HRES := Aside0.mk (show W1.heap[w.heap.size + 1]? = some (.cells #[.slice none 0 0, .int .i64 0] 29 (0, 0)) by rw [hW1]; exact blk2 w _ _)
  have HZ := Aside0.mk (ZC_below hz HB0.out)
  have HN := Aside0.mk hl
  have b0 := (blk_cell HBH.out 0).trans (show _ = some (Value.slice A n c) from rfl)
  have b1 := (blk_cell HBH.out 1).trans (show _ = some (Value.int .i64 keep) from rfl)
  have hW1' := Aside0.mk hW1
  clear hW1 hz hl
  go_enter Tryz.func67, Tryz.ntmps67
  go_upto_region 1 with (fail)
  rw [← hW1'.out]
  go_wp2
  go_loopg [3] n (fun g s3 wr => ∃ k : Nat, wr = W1 ∧ s3 = .int .i64 k ∧ k + g = n)
  case atStart => exact ⟨0, rfl, rfl, by omega⟩
  case round =>
    obtain ⟨k, rfl, rfl, hk⟩ := hrel
    by_cases hlt : k < n
    · have r1 : decide (k < n) = true := decide_eq_true hlt
      have r2 : (k < n) = True := eq_true hlt
      have r3 : decide ((k : Int) < (n : Int)) = true := decide_eq_true (by omega)
      obtain ⟨g1, rfl⟩ : ∃ g1, gk = g1 + 1 := ⟨gk - 1, by omega⟩
      obtain ⟨ad, rfl, _, y1, _⟩ := at_Z HZ.out k hlt
      have HW := Aside0.mk (show wrap64 ((k : Int) + 1) = ((k + 1 : Nat) : Int) by have := HN.out; unfold wrap64; omega)
      have HK := Aside0.mk hk
      clear hk hlt
      go_wp2
      go_roundg g1
      case measure => omega
      case rel => exact ⟨k + 1, rfl, by rw [HW.out], by have := HK.out; omega⟩
    · have r1 : decide (k < n) = false := decide_eq_false hlt
      have r3 : decide ((k : Int) < (n : Int)) = false := decide_eq_false (by omega)
      have f0 := blk_frozen HRES.out 0
      have f1 := blk_frozen HRES.out 1
      have e0 := (blk_cell HRES.out 0).trans (show _ = some (Value.slice none 0 0) from rfl)
      have e1 := (blk_cell HRES.out 1).trans (show _ = some (Value.int .i64 0) from rfl)
      clear hk hlt
      go_wp2
      refine bodyPost_ret (results_c1 rfl _ _ (w.heap.size + 1) 29 #[.slice A n c, .int .i64 keep] (0, 0) _ rfl (blk_put (blk_put HRES.out 0 _ rfl) 1 _ rfl) Tryz.underlying29 rfl (by kernel_rfl)) rfl ?_
      exact ⟨rfl, below_set (below_set HB0.out (by omega)) (by omega)⟩
end Go.Proofs.YtodejilhgpejnaaGreat.Q
