-- By wip/tools/drive.py: the kit's print, with contracts of this session's own among the functions.
import Derived.Test.YtcdgbpojcdecbaaDoorPx0
import Derived.Test.YtcdgbpojcdecbaaDoorPx1
import Derived.Test.YtcdgbpojcdecbaaDoorPx12
import Derived.Test.YtcdgbpojcdecbaaDoorPx13
namespace Go.Proofs.YtcdgbpojcdecbaaDoor.P
open Go.RowKit Go.Proofs.YtcdgbpojcdecbaaDoorW.PrintWords Go.Proofs.YtcdgbpojcdecbaaDoorW.PrintLast Go.Proofs.YtcdgbpojcdecbaaDoorW.PrintMore
attribute [local go_sem] max2_int min2_int max_two min_two max_three min_three max_four min_four   -- for this text's walks alone
set_option linter.unusedVariables false
set_option linter.unusedSimpArgs false

-- GIVEN
/-! ### assartlaw17_NameOrder: function 5 -/
set_option linter.unusedSimpArgs false
theorem nmVal_acc (l : List UInt8) : ∀ n : Int, nmVal l n = 27 ^ l.length * n + nmVal l 0 := by
  induction l with
  | nil => intro n; simp [nmVal]
  | cons c l ih =>
    intro n
    simp only [nmVal]
    rw [ih (27 * n + c.toNat - 96), ih (27 * 0 + c.toNat - 96), List.length_cons, Int.pow_succ]
    have : (27 : Int) ^ l.length * (27 * n + c.toNat - 96) = 27 ^ l.length * 27 * n + 27 ^ l.length * (27 * 0 + c.toNat - 96) := by
      rw [Int.mul_assoc, ← Int.mul_add]; congr 1; omega
    omega
theorem nmVal_lim (l : List UInt8) (h : nmOk l = true) : 0 ≤ nmVal l 0 ∧ nmVal l 0 < 27 ^ l.length := by
  rw [nmVal_rev]
  have hd : ∀ d ∈ l.reverse.map (fun c => (c.toNat : Int) - 96), 1 ≤ d ∧ d ≤ 26 := by
    intro d hd
    obtain ⟨c, hc', rfl⟩ := List.mem_map.1 hd
    have := (nmOk_iff _).1 h c (List.mem_reverse.1 hc')
    omega
  refine ⟨(V27_nn _ hd).1, ?_⟩
  exact V27_bd _ l.length (by simp) hd
theorem nmVal_less (l m : List UInt8) (hl : nmOk l = true) (hm : nmOk m = true) (he : l.length = m.length) (a b : Int) (hab : a < b) : nmVal l a < nmVal m b := by
  rw [nmVal_acc l a, nmVal_acc m b, he]
  have h1 := nmVal_lim l hl
  have h2 := nmVal_lim m hm
  rw [he] at h1
  have h3 : (27 : Int) ^ m.length * (a + 1) ≤ 27 ^ m.length * b := Int.mul_le_mul_of_nonneg_left (by omega) (Int.le_of_lt (Int.pow_pos (by omega)))
  rw [Int.mul_add] at h3
  omega
theorem nmVal_lex (l : List UInt8) : ∀ (m : List UInt8) (n : Int), nmOk l = true → nmOk m = true → l.length = m.length → decide (nmVal l n < nmVal m n) = Op.bytesLess l m ∧ (nmVal l n = nmVal m n → l = m) := by
  induction l with
  | nil =>
    intro m n _ _ he
    obtain rfl : m = [] := List.length_eq_zero_iff.1 he.symm
    simp [nmVal, Op.bytesLess]
  | cons c l ih =>
    intro m n hl hm he
    cases m with
    | nil => simp at he
    | cons d m =>
      have hl' : nmOk l = true := by simp [nmOk] at hl ⊢; exact hl.2
      have hm' : nmOk m = true := by simp [nmOk] at hm ⊢; exact hm.2
      have he' : l.length = m.length := by simpa using he
      rw [Op.bytesLess]
      by_cases h1 : c < d
      · have hn : c.toNat < d.toNat := UInt8.lt_iff_toNat_lt.1 h1
        have hlt : nmVal (c :: l) n < nmVal (d :: m) n := nmVal_less l m hl' hm' he' (27 * n + c.toNat - 96) (27 * n + d.toNat - 96) (by omega)
        refine ⟨?_, fun h => absurd h (by omega)⟩
        rw [decide_eq_true hlt, decide_eq_true h1]; rfl
      · by_cases h2 : d < c
        · have hn : d.toNat < c.toNat := UInt8.lt_iff_toNat_lt.1 h2
          have hlt : nmVal (d :: m) n < nmVal (c :: l) n := nmVal_less m l hm' hl' he'.symm (27 * n + d.toNat - 96) (27 * n + c.toNat - 96) (by omega)
          refine ⟨?_, fun h => absurd h (by omega)⟩
          have h3 : (c == d) = false := by rw [beq_eq_false_iff_ne]; rintro rfl; exact h1 h2
          rw [decide_eq_false (by omega : ¬ nmVal (c :: l) n < nmVal (d :: m) n), decide_eq_false h1, h3]; rfl
        · obtain rfl : c = d := by
            have a1 := mt UInt8.lt_iff_toNat_lt.2 h1
            have a2 := mt UInt8.lt_iff_toNat_lt.2 h2
            exact UInt8.toNat_inj.1 (by omega)
          have ih' := ih m (27 * n + c.toNat - 96) hl' hm' he'
          have e1 : decide (nmVal (c :: l) n < nmVal (c :: m) n) = Op.bytesLess l m := ih'.1
          refine ⟨?_, fun h => by rw [ih'.2 h]⟩
          rw [e1, decide_eq_false h1, beq_self_eq_true]; rfl
/-- a shorter name has the smaller number -/
theorem nmVal_short (l m : List UInt8) (hl : nmOk l = true) (hm : nmOk m = true) (he : l.length < m.length) : nmVal l 0 < nmVal m 0 := by
  have h1 := nmVal_lim l hl
  cases m with
  | nil => simp at he
  | cons d m =>
    have hd : 97 ≤ d.toNat := ((nmOk_iff _).1 hm d (by simp)).1
    have hm' : nmOk m = true := by simp [nmOk] at hm ⊢; exact hm.2
    have h2 := nmVal_lim m hm'
    simp only [nmVal]
    rw [nmVal_acc m]
    have h3 : (27 : Int) ^ l.length ≤ 27 ^ m.length := by
      have := Nat.pow_le_pow_right (n := 27) (by omega) (show l.length ≤ m.length by simp at he; omega)
      exact_mod_cast this
    have he' : l.length ≤ m.length := by simpa [Nat.lt_succ_iff] using he
    have h4 : (27 : Int) ^ m.length * 1 ≤ 27 ^ m.length * (27 * 0 + d.toNat - 96) := Int.mul_le_mul_of_nonneg_left (by omega) (Int.le_of_lt (Int.pow_pos (by omega)))
    omega
set_option maxHeartbeats 4000000 in
set_option maxRecDepth 100000 in
theorem order_bad (a0 a1 : ByteArray) (na ea nb eb : Int) (w : World) (hA : name_Of.f a0 = some (na, ea)) (hB : name_Of.f a1 = some (nb, eb)) (hbad : 4 < a0.size ∨ 4 < a1.size ∨ ea ≠ 0 ∨ eb ≠ 0) :
    Calls Tryd.prog 5 #[.string a0, .string a1] w fun e w' => e = .returned (.bool true) ∧ Below w.heap.size w w' := by
  have A0 : Aside0 (assartlaw17_shown.f = some true) := ⟨rfl⟩
  have A1 := Aside0.mk hA
  have A2 := Aside0.mk hB
  clear hA hB
  have walk : ∀ (x y u v : Bool), decide (4 < (a0.size : Int)) = x → decide (4 < (a1.size : Int)) = y → (ea != 0) = u → (eb != 0) = v → (x || y || u || v) = true → Calls Tryd.prog 5 #[.string a0, .string a1] w fun e w' => e = .returned (.bool true) ∧ Below w.heap.size w w' := by
    clear hbad
    intro x y u v hx hy hu hv hh
    have HB := Aside0.mk (Below.refl w.heap.size w)
    have hu2 : (ea == 0) = !u := by rw [← hu]; cases h : ea == 0 <;> simp_all [bne]
    have hv2 : (eb == 0) = !v := by rw [← hv]; cases h : eb == 0 <;> simp_all [bne]
    cases x
    · cases y
      · cases u
        · cases v
          · exact absurd hh (by decide)
          · clear hh
            simp only [Bool.not_true, Bool.not_false] at hu2 hv2
            go_enter Tryd.func5, Tryd.ntmps5
            go_wp2_with (first | (go_at_call 9; (with_reducible refine (assartlaw17_shown.calls true _ A0.out).mono ?_); rintro e w7 ⟨rfl, hb⟩; have n0_ := Aside0.mk (below_step HB.out hb); clear HB hb; have HB := n0_; clear n0_) | (go_at_call 10; (with_reducible refine (name_Of.calls a0 na ea _ A1.out).mono ?_); rintro e w8 ⟨rfl, hb⟩; have n0_ := Aside0.mk (below_step HB.out hb); clear HB hb; have HB := n0_; clear n0_) | (go_at_call 10; (with_reducible refine (name_Of.calls a1 nb eb _ A2.out).mono ?_); rintro e w9 ⟨rfl, hb⟩; have n0_ := Aside0.mk (below_step HB.out hb); clear HB hb; have HB := n0_; clear n0_))
            go_ret
            exact ⟨rfl, HB.out⟩
        · clear hh
          simp only [Bool.not_true, Bool.not_false] at hu2 hv2
          go_enter Tryd.func5, Tryd.ntmps5
          go_wp2_with (first | (go_at_call 9; (with_reducible refine (assartlaw17_shown.calls true _ A0.out).mono ?_); rintro e w7 ⟨rfl, hb⟩; have n0_ := Aside0.mk (below_step HB.out hb); clear HB hb; have HB := n0_; clear n0_) | (go_at_call 10; (with_reducible refine (name_Of.calls a0 na ea _ A1.out).mono ?_); rintro e w8 ⟨rfl, hb⟩; have n0_ := Aside0.mk (below_step HB.out hb); clear HB hb; have HB := n0_; clear n0_) | (go_at_call 10; (with_reducible refine (name_Of.calls a1 nb eb _ A2.out).mono ?_); rintro e w9 ⟨rfl, hb⟩; have n0_ := Aside0.mk (below_step HB.out hb); clear HB hb; have HB := n0_; clear n0_))
          go_ret
          exact ⟨rfl, HB.out⟩
      · clear hh
        go_enter Tryd.func5, Tryd.ntmps5
        go_wp2_with (first | (go_at_call 9; (with_reducible refine (assartlaw17_shown.calls true _ A0.out).mono ?_); rintro e w7 ⟨rfl, hb⟩; have n0_ := Aside0.mk (below_step HB.out hb); clear HB hb; have HB := n0_; clear n0_) | (go_at_call 10; (with_reducible refine (name_Of.calls a0 na ea _ A1.out).mono ?_); rintro e w8 ⟨rfl, hb⟩; have n0_ := Aside0.mk (below_step HB.out hb); clear HB hb; have HB := n0_; clear n0_) | (go_at_call 10; (with_reducible refine (name_Of.calls a1 nb eb _ A2.out).mono ?_); rintro e w9 ⟨rfl, hb⟩; have n0_ := Aside0.mk (below_step HB.out hb); clear HB hb; have HB := n0_; clear n0_))
        go_ret
        exact ⟨rfl, HB.out⟩
    · clear hh
      go_enter Tryd.func5, Tryd.ntmps5
      go_wp2_with (first | (go_at_call 9; (with_reducible refine (assartlaw17_shown.calls true _ A0.out).mono ?_); rintro e w7 ⟨rfl, hb⟩; have n0_ := Aside0.mk (below_step HB.out hb); clear HB hb; have HB := n0_; clear n0_) | (go_at_call 10; (with_reducible refine (name_Of.calls a0 na ea _ A1.out).mono ?_); rintro e w8 ⟨rfl, hb⟩; have n0_ := Aside0.mk (below_step HB.out hb); clear HB hb; have HB := n0_; clear n0_) | (go_at_call 10; (with_reducible refine (name_Of.calls a1 nb eb _ A2.out).mono ?_); rintro e w9 ⟨rfl, hb⟩; have n0_ := Aside0.mk (below_step HB.out hb); clear HB hb; have HB := n0_; clear n0_))
      go_ret
      exact ⟨rfl, HB.out⟩
  refine walk _ _ _ _ rfl rfl rfl rfl ?_
  rcases hbad with h | h | h | h
  · rw [decide_eq_true (by omega : 4 < (a0.size : Int))]; rfl
  · rw [decide_eq_true (by omega : 4 < (a1.size : Int))]; simp
  · rw [bne_iff_ne.2 h]; simp
  · rw [bne_iff_ne.2 h]; simp
set_option maxHeartbeats 4000000 in
set_option maxRecDepth 100000 in
theorem order_good (a0 a1 : ByteArray) (na nb nc ec : Int) (p q z b g : Bool) (w : World) (hA : name_Of.f a0 = some (na, 0)) (hB : name_Of.f a1 = some (nb, 0)) (hC : name_Of.f (a0 ++ (⟨#[99]⟩ : ByteArray)) = some (nc, ec))
    (h0 : a0.size ≤ 4) (h1 : a1.size ≤ 4) (c3 : decide ((a0.size : Int) < 4) = p) (c4 : (ec == 0) = p) (c5 : p = true → (nc != wrap64 (wrap64 (27 * na) + 3)) = false)
    (c6 : decide ((a0.size : Int) < (a1.size : Int)) = q) (c7 : ((a0.size : Int) == (a1.size : Int)) = z) (c8 : Op.bytesLess a0.toList a1.toList = b)
    (c9 : decide (na < nb) = (q || z && b)) (c10 : (na == nb) = g) (c11 : (a0.toList == a1.toList) = g) :
    Calls Tryd.prog 5 #[.string a0, .string a1] w fun e w' => e = .returned (.bool true) ∧ Below w.heap.size w w' := by
  have A0 : Aside0 (assartlaw17_shown.f = some true) := ⟨rfl⟩
  have A1 := Aside0.mk hA
  have A2 := Aside0.mk hB
  have A3 := Aside0.mk hC
  have c1b : decide (4 < (a0.size : Int)) = false := decide_eq_false (by omega)
  have c2b : decide (4 < (a1.size : Int)) = false := decide_eq_false (by omega)
  have b1 : a0.size + 1 ≤ 9223372036854775807 := by omega
  have b2 := eq_true b1
  have b3 : decide (a0.size + 1 ≤ 9223372036854775807) = true := decide_eq_true b1
  have b4 : (9223372036854775807 < a0.size + 1) = False := eq_false (Nat.not_lt.2 b1)
  clear hA hB hC h0 h1 b1
  have HB := Aside0.mk (Below.refl w.heap.size w)
  have n1 : (a1.size ≤ a0.size) = (q = false) := by rw [← c6]; simp
  have n2 : decide (a0.size < a1.size) = q := by rw [← c6]; exact decide_eq_decide.2 (by omega)
  cases p
  · clear c5
    cases q
    · replace n1 := n1.trans (eq_true rfl)
      cases z
      · simp only [Bool.or_false, Bool.false_and] at c9
        clear c8
        go_enter Tryd.func5, Tryd.ntmps5
        go_wp2_with (first | (go_at_call 9; (with_reducible refine (assartlaw17_shown.calls true _ A0.out).mono ?_); rintro e w7 ⟨rfl, hb⟩; have n0_ := Aside0.mk (below_step HB.out hb); clear HB hb; have HB := n0_; clear n0_) | (go_at_call 10; (with_reducible refine (name_Of.calls a0 na 0 _ A1.out).mono ?_); rintro e w8 ⟨rfl, hb⟩; have n0_ := Aside0.mk (below_step HB.out hb); clear HB hb; have HB := n0_; clear n0_) | (go_at_call 10; (with_reducible refine (name_Of.calls a1 nb 0 _ A2.out).mono ?_); rintro e w9 ⟨rfl, hb⟩; have n0_ := Aside0.mk (below_step HB.out hb); clear HB hb; have HB := n0_; clear n0_) | (go_at_call 10; (with_reducible refine (name_Of.calls (a0 ++ (⟨#[99]⟩ : ByteArray)) nc ec _ A3.out).mono ?_); rintro e w9 ⟨rfl, hb⟩; have n0_ := Aside0.mk (below_step HB.out hb); clear HB hb; have HB := n0_; clear n0_))
        go_ret
        exact ⟨by first | rfl | simp, HB.out⟩
      · cases b
        all_goals (simp only [Bool.or_false, Bool.false_and, Bool.or_true, Bool.true_and, Bool.false_or] at c9)
        · go_enter Tryd.func5, Tryd.ntmps5
          go_wp2_with (first | (go_at_call 9; (with_reducible refine (assartlaw17_shown.calls true _ A0.out).mono ?_); rintro e w7 ⟨rfl, hb⟩; have n0_ := Aside0.mk (below_step HB.out hb); clear HB hb; have HB := n0_; clear n0_) | (go_at_call 10; (with_reducible refine (name_Of.calls a0 na 0 _ A1.out).mono ?_); rintro e w8 ⟨rfl, hb⟩; have n0_ := Aside0.mk (below_step HB.out hb); clear HB hb; have HB := n0_; clear n0_) | (go_at_call 10; (with_reducible refine (name_Of.calls a1 nb 0 _ A2.out).mono ?_); rintro e w9 ⟨rfl, hb⟩; have n0_ := Aside0.mk (below_step HB.out hb); clear HB hb; have HB := n0_; clear n0_) | (go_at_call 10; (with_reducible refine (name_Of.calls (a0 ++ (⟨#[99]⟩ : ByteArray)) nc ec _ A3.out).mono ?_); rintro e w9 ⟨rfl, hb⟩; have n0_ := Aside0.mk (below_step HB.out hb); clear HB hb; have HB := n0_; clear n0_))
          go_ret
          exact ⟨by first | rfl | simp, HB.out⟩
        · go_enter Tryd.func5, Tryd.ntmps5
          go_wp2_with (first | (go_at_call 9; (with_reducible refine (assartlaw17_shown.calls true _ A0.out).mono ?_); rintro e w7 ⟨rfl, hb⟩; have n0_ := Aside0.mk (below_step HB.out hb); clear HB hb; have HB := n0_; clear n0_) | (go_at_call 10; (with_reducible refine (name_Of.calls a0 na 0 _ A1.out).mono ?_); rintro e w8 ⟨rfl, hb⟩; have n0_ := Aside0.mk (below_step HB.out hb); clear HB hb; have HB := n0_; clear n0_) | (go_at_call 10; (with_reducible refine (name_Of.calls a1 nb 0 _ A2.out).mono ?_); rintro e w9 ⟨rfl, hb⟩; have n0_ := Aside0.mk (below_step HB.out hb); clear HB hb; have HB := n0_; clear n0_) | (go_at_call 10; (with_reducible refine (name_Of.calls (a0 ++ (⟨#[99]⟩ : ByteArray)) nc ec _ A3.out).mono ?_); rintro e w9 ⟨rfl, hb⟩; have n0_ := Aside0.mk (below_step HB.out hb); clear HB hb; have HB := n0_; clear n0_))
          go_ret
          exact ⟨by first | rfl | simp, HB.out⟩
    · replace n1 := n1.trans (eq_false (by decide))
      simp only [Bool.true_or] at c9
      clear c7 c8
      go_enter Tryd.func5, Tryd.ntmps5
      go_wp2_with (first | (go_at_call 9; (with_reducible refine (assartlaw17_shown.calls true _ A0.out).mono ?_); rintro e w7 ⟨rfl, hb⟩; have n0_ := Aside0.mk (below_step HB.out hb); clear HB hb; have HB := n0_; clear n0_) | (go_at_call 10; (with_reducible refine (name_Of.calls a0 na 0 _ A1.out).mono ?_); rintro e w8 ⟨rfl, hb⟩; have n0_ := Aside0.mk (below_step HB.out hb); clear HB hb; have HB := n0_; clear n0_) | (go_at_call 10; (with_reducible refine (name_Of.calls a1 nb 0 _ A2.out).mono ?_); rintro e w9 ⟨rfl, hb⟩; have n0_ := Aside0.mk (below_step HB.out hb); clear HB hb; have HB := n0_; clear n0_) | (go_at_call 10; (with_reducible refine (name_Of.calls (a0 ++ (⟨#[99]⟩ : ByteArray)) nc ec _ A3.out).mono ?_); rintro e w9 ⟨rfl, hb⟩; have n0_ := Aside0.mk (below_step HB.out hb); clear HB hb; have HB := n0_; clear n0_))
      go_ret
      exact ⟨by first | rfl | simp, HB.out⟩
  · replace c5 := c5 rfl
    cases q
    · replace n1 := n1.trans (eq_true rfl)
      cases z
      · simp only [Bool.or_false, Bool.false_and] at c9
        clear c8
        go_enter Tryd.func5, Tryd.ntmps5
        go_wp2_with (first | (go_at_call 9; (with_reducible refine (assartlaw17_shown.calls true _ A0.out).mono ?_); rintro e w7 ⟨rfl, hb⟩; have n0_ := Aside0.mk (below_step HB.out hb); clear HB hb; have HB := n0_; clear n0_) | (go_at_call 10; (with_reducible refine (name_Of.calls a0 na 0 _ A1.out).mono ?_); rintro e w8 ⟨rfl, hb⟩; have n0_ := Aside0.mk (below_step HB.out hb); clear HB hb; have HB := n0_; clear n0_) | (go_at_call 10; (with_reducible refine (name_Of.calls a1 nb 0 _ A2.out).mono ?_); rintro e w9 ⟨rfl, hb⟩; have n0_ := Aside0.mk (below_step HB.out hb); clear HB hb; have HB := n0_; clear n0_) | (go_at_call 10; (with_reducible refine (name_Of.calls (a0 ++ (⟨#[99]⟩ : ByteArray)) nc ec _ A3.out).mono ?_); rintro e w9 ⟨rfl, hb⟩; have n0_ := Aside0.mk (below_step HB.out hb); clear HB hb; have HB := n0_; clear n0_))
        go_ret
        exact ⟨by first | rfl | simp, HB.out⟩
      · cases b
        all_goals (simp only [Bool.or_false, Bool.false_and, Bool.or_true, Bool.true_and, Bool.false_or] at c9)
        · go_enter Tryd.func5, Tryd.ntmps5
          go_wp2_with (first | (go_at_call 9; (with_reducible refine (assartlaw17_shown.calls true _ A0.out).mono ?_); rintro e w7 ⟨rfl, hb⟩; have n0_ := Aside0.mk (below_step HB.out hb); clear HB hb; have HB := n0_; clear n0_) | (go_at_call 10; (with_reducible refine (name_Of.calls a0 na 0 _ A1.out).mono ?_); rintro e w8 ⟨rfl, hb⟩; have n0_ := Aside0.mk (below_step HB.out hb); clear HB hb; have HB := n0_; clear n0_) | (go_at_call 10; (with_reducible refine (name_Of.calls a1 nb 0 _ A2.out).mono ?_); rintro e w9 ⟨rfl, hb⟩; have n0_ := Aside0.mk (below_step HB.out hb); clear HB hb; have HB := n0_; clear n0_) | (go_at_call 10; (with_reducible refine (name_Of.calls (a0 ++ (⟨#[99]⟩ : ByteArray)) nc ec _ A3.out).mono ?_); rintro e w9 ⟨rfl, hb⟩; have n0_ := Aside0.mk (below_step HB.out hb); clear HB hb; have HB := n0_; clear n0_))
          go_ret
          exact ⟨by first | rfl | simp, HB.out⟩
        · go_enter Tryd.func5, Tryd.ntmps5
          go_wp2_with (first | (go_at_call 9; (with_reducible refine (assartlaw17_shown.calls true _ A0.out).mono ?_); rintro e w7 ⟨rfl, hb⟩; have n0_ := Aside0.mk (below_step HB.out hb); clear HB hb; have HB := n0_; clear n0_) | (go_at_call 10; (with_reducible refine (name_Of.calls a0 na 0 _ A1.out).mono ?_); rintro e w8 ⟨rfl, hb⟩; have n0_ := Aside0.mk (below_step HB.out hb); clear HB hb; have HB := n0_; clear n0_) | (go_at_call 10; (with_reducible refine (name_Of.calls a1 nb 0 _ A2.out).mono ?_); rintro e w9 ⟨rfl, hb⟩; have n0_ := Aside0.mk (below_step HB.out hb); clear HB hb; have HB := n0_; clear n0_) | (go_at_call 10; (with_reducible refine (name_Of.calls (a0 ++ (⟨#[99]⟩ : ByteArray)) nc ec _ A3.out).mono ?_); rintro e w9 ⟨rfl, hb⟩; have n0_ := Aside0.mk (below_step HB.out hb); clear HB hb; have HB := n0_; clear n0_))
          go_ret
          exact ⟨by first | rfl | simp, HB.out⟩
    · replace n1 := n1.trans (eq_false (by decide))
      simp only [Bool.true_or] at c9
      clear c7 c8
      go_enter Tryd.func5, Tryd.ntmps5
      go_wp2_with (first | (go_at_call 9; (with_reducible refine (assartlaw17_shown.calls true _ A0.out).mono ?_); rintro e w7 ⟨rfl, hb⟩; have n0_ := Aside0.mk (below_step HB.out hb); clear HB hb; have HB := n0_; clear n0_) | (go_at_call 10; (with_reducible refine (name_Of.calls a0 na 0 _ A1.out).mono ?_); rintro e w8 ⟨rfl, hb⟩; have n0_ := Aside0.mk (below_step HB.out hb); clear HB hb; have HB := n0_; clear n0_) | (go_at_call 10; (with_reducible refine (name_Of.calls a1 nb 0 _ A2.out).mono ?_); rintro e w9 ⟨rfl, hb⟩; have n0_ := Aside0.mk (below_step HB.out hb); clear HB hb; have HB := n0_; clear n0_) | (go_at_call 10; (with_reducible refine (name_Of.calls (a0 ++ (⟨#[99]⟩ : ByteArray)) nc ec _ A3.out).mono ?_); rintro e w9 ⟨rfl, hb⟩; have n0_ := Aside0.mk (below_step HB.out hb); clear HB hb; have HB := n0_; clear n0_))
      go_ret
      exact ⟨by first | rfl | simp, HB.out⟩
theorem of_snoc_c (s : ByteArray) (h : isNm s) : name_Of.f (s ++ (⟨#[99]⟩ : ByteArray)) = some (if s.size < 4 then (27 * nmVal s.data.toList 0 + 3, 0) else (0, 1)) := by
  have el : (s ++ (⟨#[99]⟩ : ByteArray)).data.toList = s.data.toList ++ [99] := by simp
  have es : (s ++ (⟨#[99]⟩ : ByteArray)).size = s.size + 1 := by rw [ByteArray.size_append]; rfl
  rw [of_eq]
  by_cases h4 : s.size < 4
  · rw [if_pos h4, if_pos (show isNm (s ++ (⟨#[99]⟩ : ByteArray)) from ⟨by omega, by omega, by rw [el, nmOk_snoc, h.2.2]; decide⟩), el, nmVal_snoc]
    have : ((99 : UInt8).toNat : Int) = 99 := by decide
    rw [this]
    congr 2
    omega
  · rw [if_neg h4, if_neg (fun hh : isNm (s ++ (⟨#[99]⟩ : ByteArray)) => by have := hh.2.1; omega)]
theorem order_lex (a b : ByteArray) (ha : isNm a) (hb : isNm b) : decide (nmVal a.data.toList 0 < nmVal b.data.toList 0) = (decide ((a.size : Int) < (b.size : Int)) || ((a.size : Int) == (b.size : Int)) && Op.bytesLess a.toList b.toList) ∧ (nmVal a.data.toList 0 == nmVal b.data.toList 0) = (a.toList == b.toList) := by
  have za : a.data.toList.length = a.size := by simp
  have zb : b.data.toList.length = b.size := by simp
  rw [ByteArray.toList_eq, ByteArray.toList_eq]
  rcases Nat.lt_trichotomy a.size b.size with h | h | h
  · have hs := nmVal_short a.data.toList b.data.toList ha.2.2 hb.2.2 (by omega)
    have hne : a.data.toList ≠ b.data.toList := fun e => by rw [e] at za; omega
    rw [decide_eq_true hs, decide_eq_true (by omega : (a.size : Int) < b.size), beq_eq_false_iff_ne.2 (by omega : nmVal a.data.toList 0 ≠ nmVal b.data.toList 0), beq_eq_false_iff_ne.2 hne]
    exact ⟨rfl, rfl⟩
  · have hl := nmVal_lex a.data.toList b.data.toList 0 ha.2.2 hb.2.2 (by omega)
    rw [hl.1, decide_eq_false (by omega : ¬ (a.size : Int) < b.size), beq_iff_eq.2 (by omega : (a.size : Int) = b.size)]
    refine ⟨rfl, ?_⟩
    by_cases he : a.data.toList = b.data.toList
    · rw [he, beq_self_eq_true, beq_self_eq_true]
    · rw [beq_eq_false_iff_ne.2 he, beq_eq_false_iff_ne.2 (fun hh => he (hl.2 hh))]
  · have hs := nmVal_short b.data.toList a.data.toList hb.2.2 ha.2.2 (by omega)
    have hne : a.data.toList ≠ b.data.toList := fun e => by rw [e] at za; omega
    rw [decide_eq_false (by omega : ¬ nmVal a.data.toList 0 < nmVal b.data.toList 0), decide_eq_false (by omega : ¬ (a.size : Int) < b.size), beq_eq_false_iff_ne.2 (by omega : nmVal a.data.toList 0 ≠ nmVal b.data.toList 0), beq_eq_false_iff_ne.2 (by omega : (a.size : Int) ≠ b.size), beq_eq_false_iff_ne.2 hne]
    exact ⟨rfl, rfl⟩
def assartlaw17_NameOrder.f (a0 a1 : ByteArray) : Option Bool := some true
theorem assartlaw17_NameOrder.calls (a0 : ByteArray) (a1 : ByteArray) (r : Bool) (w : World) (h : assartlaw17_NameOrder.f a0 a1 = some r) :
    Calls Tryd.prog 5 #[.string a0, .string a1] w fun e w' => e = .returned (.bool r) ∧ Below w.heap.size w w' := by
  obtain rfl := Option.some.inj h
  by_cases h1 : isNm a0
  · by_cases h2 : isNm a1
    · have e1 := of_eq a0
      have e2 := of_eq a1
      have e3 := of_snoc_c a0 h1
      rw [if_pos h1] at e1
      rw [if_pos h2] at e2
      have hl := order_lex a0 a1 h1 h2
      have hb := nmVal_bd a0.data.toList h1.2.2 (by simpa using h1.2.1)
      by_cases h4 : a0.size < 4
      · rw [if_pos h4] at e3
        exact order_good a0 a1 _ _ _ _ true _ _ _ _ w e1 e2 e3 h1.2.1 h2.2.1 (decide_eq_true (by omega)) rfl (fun _ => by rw [bne_eq_false_iff_eq]; unfold wrap64; omega) rfl rfl rfl hl.1 hl.2 rfl
      · rw [if_neg h4] at e3
        exact order_good a0 a1 _ _ _ _ false _ _ _ _ w e1 e2 e3 h1.2.1 h2.2.1 (decide_eq_false (by omega)) rfl (fun h => absurd h (by decide)) rfl rfl rfl hl.1 hl.2 rfl
    · have e2 := of_eq a1
      rw [if_neg h2] at e2
      exact order_bad a0 a1 _ _ _ _ w (of_eq a0) e2 (by right; right; right; decide)
  · have e1 := of_eq a0
    rw [if_neg h1] at e1
    exact order_bad a0 a1 _ _ _ _ w e1 (of_eq a1) (by right; right; left; decide)


end Go.Proofs.YtcdgbpojcdecbaaDoor.P
