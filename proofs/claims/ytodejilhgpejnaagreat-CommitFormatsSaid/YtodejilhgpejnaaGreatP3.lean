import Derived.Test.YtodejilhgpejnaaGreatP2
import Derived.WalkMore
import Derived.ScopeJumps
import Derived.OpenShut
namespace Go.Proofs.YtodejilhgpejnaaGreat.Q
open Go.RowKit Go.Proofs.YtodejilhgpejnaaGreatW.PrintWords Go.Proofs.YtodejilhgpejnaaGreatW.PrintLast Go.Proofs.YtodejilhgpejnaaGreatW.PrintMore
attribute [local go_sem] max2_int min2_int max_two min_two max_three min_three max_four min_four
set_option linter.unusedVariables false
set_option linter.unusedSimpArgs false
def intOf : Value → Int | .int _ q => q | _ => 0
theorem bits_nat (op : BinOp) (x y : Int) : ∃ m : Nat, bits op .u32 x y = (m : Int) ∧ m < 4294967296 := by
  have h := wf_bits op .u32 x y
  simp only [Lit.wf, IntKind.min, IntKind.max, IntKind.signed, IntKind.bits, Bool.and_eq_true, decide_eq_true_eq] at h
  simp at h
  obtain ⟨m, hm⟩ := Int.eq_ofNat_of_zero_le h.1
  exact ⟨m, hm, by omega⟩
/-- A bit of the check sum. -/
def bitF (x : Int) : Int := if (bits .and .u32 x 1 == 1) = true then bits .xor .u32 (x / 2) 3988292384 else x / 2
def itN (f : Int → Int) : Nat → Int → Int
  | 0, a => a
  | n + 1, a => f (itN f n a)
def byteF (x y : Int) : Int := itN bitF 8 (bits .xor .u32 x y)
/-- The check sum. -/
def sumF (l : List Int) : Int := bits .xor .u32 IntKind.u32.max (l.foldl byteF 4294967295)
theorem half_nat (m : Nat) (h : m < 4294967296) : ∃ m' : Nat, (m : Int) / 2 = (m' : Int) ∧ m' < 4294967296 := ⟨m / 2, by omega, by omega⟩
theorem take_rd (l : List Int) (k : Nat) (h : k < l.length) : l.take (k + 1) = l.take k ++ [rd l (k : Int)] := by
  rw [List.take_succ_eq_append_getElem h]
  unfold rd
  rw [Int.toNat_natCast, List.getD_eq_getElem?_getD, List.getElem?_eq_getElem h]
  rfl
set_option maxHeartbeats 2000000 in
set_option maxRecDepth 100000 in
theorem sum_walk (A : Option Addr) (c : Nat) (l : List Int) (w : World) (hr : Kd.C (Kd.int .u8) w A l.length l) (hl : ∀ x ∈ l, 0 ≤ x ∧ x < 256) (hn : l.length ≤ 100000) :
    Calls Tryz.prog 78 #[.slice A l.length c] w fun e w' => ∃ s : Nat, e = .returned (.int .i64 s) ∧ sumF l = (s : Int) ∧ s < 4294967296 ∧ w' = w := by
  have HR := Aside0.mk hr
  have HL := Aside0.mk hl
  have HN := Aside0.mk hn
  clear hr hl
  go_enter Tryz.func78, Tryz.ntmps78
  go_wp2
  go_loopg [3, 9] l.length (fun g s3 s9 wr => ∃ (k x : Nat), wr = w ∧ s3 = .int .u32 x ∧ x < 4294967296 ∧ s9 = .int .i64 k ∧ k + g = l.length ∧ (l.take k).foldl byteF 4294967295 = (x : Int))
  case atStart => exact ⟨0, 4294967295, rfl, rfl, by omega, rfl, by omega, rfl⟩
  case round =>
    obtain ⟨k, x, rfl, rfl, hx, rfl, hk, hxx⟩ := hrel
    by_cases hlt : k < l.length
    · obtain ⟨g1, rfl⟩ : ∃ g1, gk = g1 + 1 := ⟨gk - 1, by omega⟩
      have c1 : decide (k < l.length) = true := decide_eq_true hlt
      have c2 : (k < l.length) = True := eq_true hlt
      obtain ⟨ad, rfl, hy⟩ := Kd.at_int HR.out (k : Int) (by omega) (by omega)
      rw [Int.toNat_natCast] at hy
      obtain ⟨y, hy1⟩ : ∃ y, y = rd l (k : Int) := ⟨_, rfl⟩
      rw [← hy1] at hy
      have hyb : 0 ≤ y ∧ y < 256 := by
        rw [hy1]
        exact HL.out _ (by unfold rd; rw [Int.toNat_natCast, List.getD_eq_getElem?_getD, List.getElem?_eq_getElem hlt]; exact List.getElem_mem _)
      obtain ⟨hy2, hy3⟩ := hyb
      have HY := Aside0.mk hy1
      have HK := Aside0.mk (And.intro hlt hk)
      have HW := Aside0.mk (show wrap64 ((k : Int) + 1) = ((k + 1 : Nat) : Int) by unfold wrap64; omega)
      have hx0 : 0 ≤ (x : Int) := by omega
      have hx1 : (x : Int) < 4294967296 := by omega
      clear hy1 hlt hk
      go_wp2
      have HX0 := Aside0.mk hxx
      clear hxx
      refine wp_scope_jumps 0 (fun a' w' => w' = wr ∧ ∃ (x2 left : Nat) (v13 v14 v15 v16 v17 v18 v19 v20 v21 v22 v23 v24 v25 v26 v27 v28 : Value), a' = { tmps := #[.slice (some ad) l.length c, undef, .int .i64 0, .int .u32 x2, undef, .int .u8 y, .int .i64 left, .slice (some ad) l.length c, .int .i64 l.length, .int .i64 k, .bool true, .pointer (some (ad.add k)), .int .u8 y, v13, v14, v15, v16, v17, v18, v19, v20, v21, v22, v23, v24, v25, v26, v27, v28, u29, undef, undef, undef], defers := [] } ∧ x2 < 4294967296 ∧ 1 ≤ left ∧ left ≤ 7 ∧ itN bitF (8 - left) (bits .xor .u32 x y) = (x2 : Int)) (fun a' _ => (intOf (a'.tmps.getD 6 undef)).toNat) rfl ?_ ?_
      · go_wp2
        obtain ⟨x1, hx1', hx2'⟩ := bits_nat .xor (x : Int) y
        rw [hx1']
        have HX1 := Aside0.mk hx2'
        have HX2 := Aside0.mk hx1'
        clear hx1' hx hx0 hx1 hx2'
        go_step3
        go_wp2
        · rename_i hb
          obtain ⟨m, hm1, hm2⟩ := bits_nat .xor ((x1 : Int) / 2) 3988292384
          rw [hm1]
          go_step3
          exact ⟨rfl, rfl, m, 7, _, _, _, _, _, _, _, _, _, _, _, _, _, _, _, _, rfl, hm2, by omega, by omega, by rw [HX2.out]; show bitF (x1 : Int) = _; rw [bitF, if_pos (by simpa using hb), hm1]⟩
        · rename_i hb
          obtain ⟨m, hm1, hm2⟩ := half_nat x1 HX1.out
          rw [hm1]
          go_step3
          exact ⟨rfl, rfl, m, 7, _, _, _, _, _, _, _, _, _, _, _, _, _, _, _, _, rfl, hm2, by omega, by omega, by rw [HX2.out]; show bitF (x1 : Int) = _; rw [bitF, if_neg (by simpa using hb), hm1]⟩
      · rintro a' w' ⟨rfl, x1, left, v13, v14, v15, v16, v17, v18, v19, v20, v21, v22, v23, v24, v25, v26, v27, v28, rfl, hx', hl1, hl2, hit⟩
        have HX1 := Aside0.mk hx'
        have HIT := Aside0.mk hit
        have HLL := Aside0.mk (And.intro hl1 hl2)
        clear hx' hit hx hx0 hx1
        by_cases h1 : left = 1
        · subst h1
          have hf : ∀ m : Nat, bitF (x1 : Int) = (m : Int) → (l.take (k + 1)).foldl byteF 4294967295 = (m : Int) := by
            intro m hm
            rw [take_rd l k HK.out.1, List.foldl_append, HX0.out, ← HY.out]
            show byteF (x : Int) y = _
            unfold byteF
            rw [← hm, ← HIT.out]
            rfl
          have HF := Aside0.mk hf
          clear hf
          go_wp2
          · rename_i hb
            obtain ⟨m, hm1, hm2⟩ := bits_nat .xor ((x1 : Int) / 2) 3988292384
            rw [hm1]
            have HM := Aside0.mk (And.intro hm2 (HF.out m (by rw [bitF, if_pos (by simpa using hb), hm1])))
            clear hm1 hm2 hb
            simp only [Exit.jump]
            go_wp2
            go_roundg g1
            case measure => omega
            case rel => exact ⟨k + 1, m, rfl, rfl, HM.out.1, by rw [HW.out], by have := HK.out.2; omega, HM.out.2⟩
          · rename_i hb
            obtain ⟨m, hm1, hm2⟩ := half_nat x1 HX1.out
            rw [hm1]
            have HM := Aside0.mk (And.intro hm2 (HF.out m (by rw [bitF, if_neg (by simpa using hb), hm1])))
            clear hm1 hm2 hb
            simp only [Exit.jump]
            go_wp2
            go_roundg g1
            case measure => omega
            case rel => exact ⟨k + 1, m, rfl, rfl, HM.out.1, by rw [HW.out], by have := HK.out.2; omega, HM.out.2⟩
        · have e2 : decide ((1 : Int) < (left : Int)) = true := decide_eq_true (by omega)
          have hit2 : itN bitF (8 - (left - 1)) (bits .xor .u32 x y) = bitF (x1 : Int) := by
            rw [show 8 - (left - 1) = (8 - left) + 1 by omega, itN, HIT.out]
          have e3 : ((left : Int) - 1) = ((left - 1 : Nat) : Int) := by omega
          have HI2 := Aside0.mk hit2
          have HE3 := Aside0.mk e3
          have HL1 := Aside0.mk h1
          clear hit2 e3 h1
          go_wp2
          · rename_i hb
            obtain ⟨m, hm1, hm2⟩ := bits_nat .xor ((x1 : Int) / 2) 3988292384
            rw [hm1, HE3.out]
            go_step3
            exact ⟨rfl, ⟨rfl, m, left - 1, _, _, _, _, _, _, _, _, _, _, _, _, _, _, _, _, rfl, hm2, by have := HLL.out; have := HL1.out; omega, by have := HLL.out; omega, by rw [HI2.out, bitF, if_pos (by simpa using hb), hm1]⟩, by have := HLL.out; have := HL1.out; simp [intOf]; omega⟩
          · rename_i hb
            obtain ⟨m, hm1, hm2⟩ := half_nat x1 HX1.out
            rw [hm1, HE3.out]
            go_step3
            exact ⟨rfl, ⟨rfl, m, left - 1, _, _, _, _, _, _, _, _, _, _, _, _, _, _, _, _, rfl, hm2, by have := HLL.out; have := HL1.out; omega, by have := HLL.out; omega, by rw [HI2.out, bitF, if_neg (by simpa using hb), hm1]⟩, by have := HLL.out; have := HL1.out; simp [intOf]; omega⟩
    · have c1 : decide (k < l.length) = false := decide_eq_false hlt
      have c2 : (k < l.length) = False := eq_false hlt
      obtain rfl : k = l.length := by omega
      rw [List.take_length] at hxx
      have HXX := Aside0.mk hxx
      have HXB := Aside0.mk hx
      clear hxx hx hk hlt
      obtain ⟨s, hs1, hs2⟩ := bits_nat .xor IntKind.u32.max (x : Int)
      have HS := Aside0.mk (show wrap64 (bits .xor .u32 IntKind.u32.max (x : Int)) = (s : Int) by rw [hs1]; unfold wrap64; omega)
      have HS2 := Aside0.mk (show sumF l = (s : Int) by unfold sumF; rw [HXX.out, hs1])
      have HS3 := Aside0.mk hs2
      clear hs1 hs2
      go_wp2
      go_ret
      exact ⟨s, ret_i HS.out, HS2.out, HS3.out, rfl⟩
end Go.Proofs.YtodejilhgpejnaaGreat.Q
