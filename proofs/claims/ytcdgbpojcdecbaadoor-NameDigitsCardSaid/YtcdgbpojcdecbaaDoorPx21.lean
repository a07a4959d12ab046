-- By wip/tools/drive.py: the kit's print, with contracts of this session's own among the functions.
import Derived.Test.YtcdgbpojcdecbaaDoorPx0
import Derived.Test.YtcdgbpojcdecbaaDoorPx1
import Derived.Test.YtcdgbpojcdecbaaDoorPx3
import Derived.Test.YtcdgbpojcdecbaaDoorPx12
import Derived.Test.YtcdgbpojcdecbaaDoorPx13
import Derived.Test.YtcdgbpojcdecbaaDoorPx14
namespace Go.Proofs.YtcdgbpojcdecbaaDoor.P
open Go.RowKit Go.Proofs.YtcdgbpojcdecbaaDoorW.PrintWords Go.Proofs.YtcdgbpojcdecbaaDoorW.PrintLast Go.Proofs.YtcdgbpojcdecbaaDoorW.PrintMore
attribute [local go_sem] max2_int min2_int max_two min_two max_three min_three max_four min_four   -- for this text's walks alone
set_option linter.unusedVariables false
set_option linter.unusedSimpArgs false

-- GIVEN
/-! ### assartlaw17_NameDigits: function 8 -/
set_option linter.unusedSimpArgs false
theorem bt_nat (s : ByteArray) (i : Nat) (h : i < s.size) : bt s (i : Int) = ((s[i]'h).toNat : Int) := by
  have := bt_at s (i : Int) (by simpa using h)
  rw [← this]
  congr 1
theorem rd_nat (l : List Int) (i : Nat) (h : i < l.length) : rd l (i : Int) = l[i] := rd_eq l i h
theorem ref_of_l0 (s : ByteArray) (h4 : s.size ≤ 4) : ∀ (d i k : Nat), i + d = s.size → d < k → nmOk (s.data.toList.take i) = true →
    assartref17_Of.l0 k s (nmVal (s.data.toList.take i) 0) (i : Int) = some (if nmOk s.data.toList = true then (nmVal s.data.toList 0, 0) else (0, 1)) := by
  intro d
  induction d with
  | zero =>
    intro i k hi hk ho
    obtain ⟨k, rfl⟩ : ∃ m, k = m + 1 := ⟨k - 1, by omega⟩
    have ht : s.data.toList.take i = s.data.toList := List.take_of_length_le (by simp; omega)
    rw [ht] at ho ⊢
    simp only [assartref17_Of.l0]
    rw [if_neg (by omega), if_pos ho]
  | succ d ih =>
    intro i k hi hk ho
    obtain ⟨k, rfl⟩ : ∃ m, k = m + 1 := ⟨k - 1, by omega⟩
    have hlt : i < s.size := by omega
    have hb := nmVal_bd _ ho (by simp; omega)
    simp only [assartref17_Of.l0]
    rw [if_pos (by omega), if_pos (by omega), bt_nat s i hlt]
    have hm : (s[i]'hlt) ∈ s.data.toList := by simp [ByteArray.getElem_eq_getElem_data]
    have bad : ¬ (97 ≤ (s[i]'hlt).toNat ∧ (s[i]'hlt).toNat ≤ 122) → nmOk s.data.toList = false := by
      intro hn
      rw [← Bool.not_eq_true]
      exact fun hc => hn ((nmOk_iff _).1 hc _ hm)
    by_cases h1 : ((s[i]'hlt).toNat : Int) < 97
    · rw [if_pos h1, bad (by omega)]; rfl
    · rw [if_neg h1]
      by_cases h2 : ((s[i]'hlt).toNat : Int) > 122
      · rw [if_pos h2, bad (by omega)]; rfl
      · rw [if_neg h2]
        have e := take_snoc s i hlt
        have ho' : nmOk (s.data.toList.take (i + 1)) = true := by rw [e, nmOk_snoc, ho]; simp; omega
        have hv : nmVal (s.data.toList.take (i + 1)) 0 = 27 * nmVal (s.data.toList.take i) 0 + (s[i]'hlt).toNat - 96 := by rw [e, nmVal_snoc]
        have := ih (i + 1) k (by omega) (by omega) ho'
        rw [hv] at this
        rw [show wrap64 (wrap64 (wrap64 (27 * nmVal (s.data.toList.take i) 0) + wrap64 ((s[i]'hlt).toNat : Int)) - 96) = 27 * nmVal (s.data.toList.take i) 0 + (s[i]'hlt).toNat - 96 by unfold wrap64; omega,
          show wrap64 ((i : Int) + 1) = ((i + 1 : Nat) : Int) by unfold wrap64; omega]
        exact this
theorem ref_of (s : ByteArray) (k : Nat) (hk : 7 ≤ k) : assartref17_Of.f k s = name_Of.f s := by
  rw [of_eq]
  unfold assartref17_Of.f
  obtain ⟨k, rfl⟩ : ∃ m, k = m + 1 := ⟨k - 1, by omega⟩
  by_cases h1 : (s.size : Int) < 1
  · rw [if_pos h1, if_neg (fun h : isNm s => by have := h.1; omega)]; rfl
  · rw [if_neg h1]
    by_cases h2 : (s.size : Int) > 4
    · rw [show decide ((s.size : Int) > 4) = true from decide_eq_true h2, if_neg (fun h : isNm s => by have := h.2.1; omega)]; rfl
    · rw [show decide ((s.size : Int) > 4) = false from decide_eq_false h2]
      simp only [assartref17_Of.j0]
      rw [if_neg (by decide)]
      have := ref_of_l0 s (by omega) s.size 0 k (by omega) (by omega) (by simp [nmOk])
      simp only [List.take_zero, nmVal] at this
      refine this.trans ?_
      by_cases h3 : nmOk s.data.toList = true
      · rw [if_pos h3, if_pos (show isNm s from ⟨by omega, by omega, h3⟩)]
      · rw [if_neg h3, if_neg (fun h : isNm s => h3 h.2.2)]
/-- What the loop has counted: `i` figures behind, whether none of them is 0. -/
def digGo (M : Int) (i : Nat) (wh : Bool) (q : Int) (j : Nat) : Prop :=
  ∃ pre : List Int, txDig 5 M = pre ++ txDig j q ∧ pre.length = i ∧ i + j = 5 ∧ 0 ≤ q ∧ q < 27 ^ j ∧ wh = (decide (0 < M) && pre.all (fun d => decide (0 < d)))
theorem digGo_start (M : Int) (h0 : 0 ≤ M) (h1 : M < 600000) : digGo M 0 (decide (0 < M)) M 5 :=
  ⟨[], by simp, rfl, rfl, h0, by omega, by simp⟩
theorem digGo_step {M : Int} {i : Nat} {wh : Bool} {q : Int} {j : Nat} (h : digGo M i wh q j) (hq : 0 < q) : ∃ j', j = j' + 1 ∧ digGo M (i + 1) (wh && decide (0 < q % 27)) (q / 27) j' := by
  obtain ⟨pre, h1, h2, h3, h4, h5, h6⟩ := h
  cases j with
  | zero => simp at h5; omega
  | succ j =>
    refine ⟨j, rfl, pre ++ [q % 27], ?_, by simp [h2], by omega, by omega, ?_, ?_⟩
    · rw [h1, txDig, if_pos hq]; simp
    · rw [Int.pow_succ] at h5; omega
    · rw [h6]; simp [Bool.and_assoc]
theorem txDig_mono : ∀ (k : Nat) (n : Int), n < 27 ^ k → txDig (k + 1) n = txDig k n
  | 0, n, h => by
    simp at h
    simp only [txDig]
    rw [if_neg (by omega)]
  | k + 1, n, h => by
    rw [show txDig (k + 1 + 1) n = if 0 < n then n % 27 :: txDig (k + 1) (n / 27) else [] from rfl, show txDig (k + 1) n = if 0 < n then n % 27 :: txDig k (n / 27) else [] from rfl]
    by_cases h0 : 0 < n
    · rw [if_pos h0, if_pos h0, txDig_mono k (n / 27) (by rw [Int.pow_succ] at h; omega)]
    · rw [if_neg h0, if_neg h0]
theorem V27_lt : ∀ (ds : List Int), (∀ d ∈ ds, 0 ≤ d ∧ d < 27) → V27 ds < 27 ^ ds.length
  | [], _ => by simp [V27]
  | d :: ds, h => by
    have h1 := h d (by simp)
    have ih := V27_lt ds (fun x hx => h x (List.mem_cons_of_mem _ hx))
    simp only [V27, List.length_cons]
    rw [Int.pow_succ]
    omega
theorem digGo_end {M : Int} {i : Nat} {wh : Bool} {q : Int} {j : Nat} (hM : 0 ≤ M ∧ M < 600000) (h : digGo M i wh q j) (hq : ¬ 0 < q) : isNo M ↔ (wh = true ∧ i ≤ 4) := by
  obtain ⟨pre, h1, h2, h3, h4, h5, h6⟩ := h
  have hz : txDig j q = [] := by cases j <;> simp [txDig]; omega
  rw [hz, List.append_nil] at h1
  by_cases h7 : M ≤ 531440
  · have e5 : txDig 5 M = txDig 4 M := txDig_mono 4 M (by omega)
    rw [e5] at h1
    have hl := txDig_len 4 M
    rw [h1] at hl
    have hrg := txDig_rg 4 M
    rw [h1] at hrg
    unfold isNo
    rw [h1]
    constructor
    · rintro ⟨a, _, c⟩
      refine ⟨?_, by omega⟩
      rw [h6, decide_eq_true (by omega), Bool.true_and, List.all_eq_true]
      intro d hd
      have := hrg d hd
      have : d ≠ 0 := fun e => c (e ▸ hd)
      simp; omega
    · rintro ⟨a, _⟩
      rw [h6, Bool.and_eq_true, List.all_eq_true] at a
      refine ⟨by have := of_decide_eq_true a.1; omega, h7, fun hc => ?_⟩
      have := a.2 0 hc
      simp at this
  · constructor
    · exact fun h => absurd h.2.1 h7
    · rintro ⟨_, b⟩
      exfalso
      have hv : V27 (txDig 5 M) = M := V27_txDig 5 M hM.1 (by omega)
      have h8 := V27_lt (txDig 5 M) (fun d hd => (txDig_rg 5 M d hd)) 
      rw [hv, h1, h2] at h8
      have : (27 : Int) ^ i ≤ 27 ^ 4 := by
        have := Nat.pow_le_pow_right (n := 27) (by omega) b
        exact_mod_cast this
      omega
set_option maxHeartbeats 4000000 in
set_option maxRecDepth 100000 in
theorem digits_walk (a0 M : Int) (t : ByteArray) (et b bad : Int) (w : World) (hM : Int.tmod (wrap64 a0) 600000 = M) (hb : 0 ≤ M ∧ M < 600000)
    (hT : name_Text.f M = some (t, et)) (hO : assartref17_Of.f 10 t = some (b, bad))
    (hgood : ∀ i wh q j, digGo M i wh q j → ¬ 0 < q → (et = 0 ∧ wh = true ∧ i ≤ 4 ∧ (t.size : Int) = i ∧ bad = 0 ∧ b = M) ∨ (et = 1 ∧ ¬ (wh = true ∧ i ≤ 4))) :
    Calls Tryd.prog 8 #[.int .u32 a0] w fun e w' => e = .returned (.bool true) ∧ Below w.heap.size w w' := by
  have AS : Aside0 (assartlaw17_shown.f = some true) := ⟨rfl⟩
  have HB := Aside0.mk (Below.refl w.heap.size w)
  have HT := Aside0.mk hT
  have HO := Aside0.mk hO
  have HG := Aside0.mk hgood
  have HM := Aside0.mk hb
  have H0 := Aside0.mk (digGo_start M hb.1 hb.2)
  clear hT hO hgood hb
  go_enter Tryd.func8, Tryd.ntmps8
  go_wp2_with (first | (go_at_call 9; (with_reducible refine (assartlaw17_shown.calls true _ AS.out).mono ?_); rintro e w7 ⟨rfl, hb⟩; have n0_ := Aside0.mk (below_step HB.out hb); clear HB hb; have HB := n0_; clear n0_) | (go_at_call 12; (with_reducible refine (name_Text.calls M t et _ HT.out).mono ?_); rintro e w7 ⟨rfl, hb⟩; have n0_ := Aside0.mk (below_step HB.out hb); clear HB hb; have HB := n0_; clear n0_))
  go_loopw [7, 8, 9] (fun v7 v8 v9 w' => ∃ (i : Nat) (wh : Bool) (q : Int) (j : Nat), v7 = .int .i64 i ∧ v8 = .bool wh ∧ v9 = .int .i64 q ∧ Aside0 (digGo M i wh q j) ∧ Aside0 (Below w.heap.size w w')) (fun _ _ v9 _ => (intOf v9).toNat)
  case atStart => exact ⟨0, decide (0 < M), M, 5, rfl, rfl, rfl, H0, ⟨HB.out⟩⟩
  case round =>
    clear HB
    obtain ⟨i, wh, q, j, rfl, rfl, rfl, HD, HB⟩ := hrel
    by_cases hq : 0 < q
    · obtain ⟨j', hj, hd⟩ := digGo_step HD.out hq
      have hi : i ≤ 5 := by obtain ⟨_, _, _, h3, _⟩ := HD.out; omega
      have e1 : wrap64 ((i : Int) + 1) = ((i + 1 : Nat) : Int) := by unfold wrap64; omega
      have hq5 : q < 600000000 := by
        obtain ⟨_, _, _, h3, _, h5, _⟩ := HD.out
        have : (27 : Int) ^ j ≤ 27 ^ 5 := by
          have := Nat.pow_le_pow_right (n := 27) (by omega) (show j ≤ 5 by omega)
          exact_mod_cast this
        omega
      have e2 : wrap64 (Int.tdiv q 27) = q / 27 := by rw [Int.tdiv_eq_ediv_of_nonneg (by omega)]; unfold wrap64; omega
      have e3 : Int.tmod q 27 = q % 27 := Int.tmod_eq_emod_of_nonneg (by omega)
      have c6 : decide (0 < q) = true := decide_eq_true hq
      have Q := Aside0.mk hq
      have HD2 := Aside0.mk hd
      clear hq hd hj hi hq5 HD
      cases wh
      · rw [Bool.false_and] at HD2
        go_wp2
        go_roundw
        case rel => exact ⟨i + 1, false, q / 27, j', by first | rfl | simp [e1] | (rw [e1]), rfl, by first | rfl | rw [e2], HD2, ⟨HB.out⟩⟩
        case measure => have := Q.out; simp [intOf]; omega
      · rw [Bool.true_and] at HD2
        go_wp2
        go_roundw
        case rel => exact ⟨i + 1, decide (0 < q % 27), q / 27, j', by first | rfl | simp [e1] | (rw [e1]), by first | rfl | simp [e3], by first | rfl | rw [e2], HD2, ⟨HB.out⟩⟩
        case measure => have := Q.out; simp [intOf]; omega
    · have c6 : decide (0 < q) = false := decide_eq_false hq
      rcases HG.out i wh q j HD.out (by omega) with ⟨rfl, rfl, h1, h2, rfl, rfl⟩ | ⟨rfl, h1⟩
      · have c7 : decide ((i : Int) ≤ 4) = true := decide_eq_true (by omega)
        have c8 : ((t.size : Int) == (i : Int)) = true := by rw [h2]; exact beq_self_eq_true _
        clear hq h1 h2
        go_wp2_with (first | (go_at_call 11; (with_reducible refine (assartref17_Of.calls 10 t b 0 _ HO.out).mono ?_); rintro e w7 ⟨rfl, ⟨nd, rfl⟩⟩))
        go_ret
        exact ⟨by first | rfl | simp, by repeat (first | (with_reducible first | exact HB.out | apply below_alloc | apply pw_below_drewN | apply below_drew1) | exact HB.out)⟩
      · clear hq
        cases wh
        · clear h1
          go_wp2_with (first | (go_at_call 11; (with_reducible refine (assartref17_Of.calls 10 t b bad _ HO.out).mono ?_); rintro e w7 ⟨rfl, ⟨nd, rfl⟩⟩))
          go_ret
          exact ⟨by first | rfl | simp, by repeat (first | (with_reducible first | exact HB.out | apply below_alloc | apply pw_below_drewN | apply below_drew1) | exact HB.out)⟩
        · have c7 : decide ((i : Int) ≤ 4) = false := decide_eq_false (fun h => h1 ⟨rfl, by omega⟩)
          clear h1
          go_wp2_with (first | (go_at_call 11; (with_reducible refine (assartref17_Of.calls 10 t b bad _ HO.out).mono ?_); rintro e w7 ⟨rfl, ⟨nd, rfl⟩⟩))
          go_ret
          exact ⟨by first | rfl | simp, by repeat (first | (with_reducible first | exact HB.out | apply below_alloc | apply pw_below_drewN | apply below_drew1) | exact HB.out)⟩
def assartlaw17_NameDigits.f (a0 : Int) : Option Bool := if 0 ≤ a0 ∧ a0 ≤ 4294967295 then some true else none
theorem assartlaw17_NameDigits.calls (a0 : Int) (r : Bool) (w : World) (h : assartlaw17_NameDigits.f a0 = some r) :
    Calls Tryd.prog 8 #[.int .u32 a0] w fun e w' => e = .returned (.bool r) ∧ Below w.heap.size w w' := by
  unfold assartlaw17_NameDigits.f at h
  by_cases ha : 0 ≤ a0 ∧ a0 ≤ 4294967295
  · rw [if_pos ha] at h
    obtain rfl := Option.some.inj h
    have hM : Int.tmod (wrap64 a0) 600000 = a0 % 600000 := by
      rw [show wrap64 a0 = a0 by unfold wrap64; omega]
      exact Int.tmod_eq_emod_of_nonneg ha.1
    obtain ⟨M, hMe⟩ : ∃ M, a0 % 600000 = M := ⟨_, rfl⟩
    have hb : 0 ≤ M ∧ M < 600000 := by omega
    rw [hMe] at hM
    have hT := text_eq M
    by_cases hn : isNo M
    · rw [if_pos hn] at hT
      have hs := txStr_nm hn
      have hO := ref_of (txStr M) 10 (by decide)
      rw [of_eq, if_pos hs.1, hs.2] at hO
      refine digits_walk a0 M _ _ _ _ w hM hb hT hO fun i wh q j hd hq => .inl ?_
      have he := (digGo_end hb hd hq).1 hn
      refine ⟨rfl, he.1, he.2, ?_, rfl, rfl⟩
      obtain ⟨pre, h1, h2, _⟩ := hd
      have hz : txDig j q = [] := by cases j <;> simp [txDig]; omega
      rw [hz, List.append_nil, txDig_mono 4 M (by have := hn.2.1; omega)] at h1
      have := congrArg List.length (txStr_list M)
      simp only [List.length_reverse, List.length_map, Array.length_toList] at this
      change (txStr M).size = _ at this
      rw [this, h1, h2]
    · rw [if_neg hn] at hT
      have hO := ref_of ⟨#[]⟩ 10 (by decide)
      rw [of_eq, if_neg (fun h : isNm ⟨#[]⟩ => absurd h.1 (by decide))] at hO
      refine digits_walk a0 M _ _ _ _ w hM hb hT hO fun i wh q j hd hq => .inr ⟨rfl, fun h => hn ((digGo_end hb hd hq).2 h)⟩
  · rw [if_neg ha] at h
    exact absurd h (by simp)


end Go.Proofs.YtcdgbpojcdecbaaDoor.P
