-- By wip/tools/drive.py: the kit's print, with contracts of this session's own among the functions.
import Derived.Test.YtcdgbpojcdecbaaDoorPx0
namespace Go.Proofs.YtcdgbpojcdecbaaDoor.P
open Go.RowKit Go.Proofs.YtcdgbpojcdecbaaDoorW.PrintWords Go.Proofs.YtcdgbpojcdecbaaDoorW.PrintLast Go.Proofs.YtcdgbpojcdecbaaDoorW.PrintMore
attribute [local go_sem] max2_int min2_int max_two min_two max_three min_three max_four min_four   -- for this text's walks alone
set_option linter.unusedVariables false
set_option linter.unusedSimpArgs false

-- GIVEN
/-! ### name_Of: function 10 -/
theorem wrap_up {i : Int} (h0 : 0 ≤ i) (h1 : i ≤ 1000000000000) : wrap64 (i + 1) = i + 1 := by unfold wrap64; omega
theorem rd_eq (l : List Int) (i : Nat) (h : i < l.length) : rd l (i : Int) = l[i] := by
  simp [rd, List.getD_eq_getElem?_getD, List.getElem?_eq_getElem h]
def nmOk (l : List UInt8) : Bool := l.all fun c => decide (97 ≤ c.toNat) && decide (c.toNat ≤ 122)
def nmVal : List UInt8 → Int → Int
  | [], n => n
  | c :: l, n => nmVal l (27 * n + c.toNat - 96)
theorem nmVal_snoc (l : List UInt8) (c : UInt8) : ∀ n, nmVal (l ++ [c]) n = 27 * nmVal l n + c.toNat - 96 := by
  induction l with
  | nil => intro n; rfl
  | cons a l ih => intro n; simp only [List.cons_append, nmVal]; exact ih _
theorem nmOk_snoc (l : List UInt8) (c : UInt8) : nmOk (l ++ [c]) = (nmOk l && (decide (97 ≤ c.toNat) && decide (c.toNat ≤ 122))) := by
  simp [nmOk]
def name_Of.f (a0 : ByteArray) : Option (Int × Int) :=
  if a0.size = 0 ∨ 4 < a0.size ∨ nmOk a0.data.toList = false then some (0, 1) else some (nmVal a0.data.toList 0, 0)

theorem take_snoc (s : ByteArray) (k : Nat) (h : k < s.size) : s.data.toList.take (k + 1) = s.data.toList.take k ++ [s[k]] := by
  rw [List.take_succ_eq_append_getElem (by simpa using h)]; rfl
theorem width_pos (s : ByteArray) (pos : Nat) (h : pos < s.size) : 1 ≤ (Utf8.decode s pos).2 := by
  by_cases ha : (s[pos]'h).toNat < 128
  · rw [decode_ascii s pos h ha]
    exact Nat.le_refl _
  · exact (decode_high s pos h (by omega)).2
theorem nmOk_take {l : List UInt8} (k : Nat) (h : nmOk l = true) : nmOk (l.take k) = true := by
  simp only [nmOk, List.all_eq_true] at *
  exact fun x hx => h x (List.mem_of_mem_take hx)
theorem nmVal_bd (l : List UInt8) (h : nmOk l = true) (hl : l.length ≤ 4) : 0 ≤ nmVal l 0 ∧ nmVal l 0 ≤ 531440 ∧ (l = [] ∨ 1 ≤ nmVal l 0) := by
  match l, hl with
  | [], _ => simp [nmVal]
  | [a], _ => simp [nmOk, nmVal] at *; omega
  | [a, b], _ => simp [nmOk, nmVal] at *; omega
  | [a, b, c], _ => simp [nmOk, nmVal] at *; omega
  | [a, b, c, d], _ => simp [nmOk, nmVal] at *; omega

theorem dec_cases (s : ByteArray) (pos : Nat) (h : pos < s.size) : ((Utf8.decode s pos).1 = (s[pos]'h).toNat ∧ (Utf8.decode s pos).2 = 1 ∧ (s[pos]'h).toNat < 128) ∨ (128 ≤ (Utf8.decode s pos).1 ∧ 128 ≤ (s[pos]'h).toNat) := by
  by_cases ha : (s[pos]'h).toNat < 128
  · left; rw [decode_ascii s pos h ha]; exact ⟨rfl, rfl, ha⟩
  · right; exact ⟨(decode_high s pos h (by omega)).1, by omega⟩
theorem of_bad (s : ByteArray) (pos : Nat) (h : pos < s.size) (hb : (Utf8.decode s pos).1 < 97 ∨ 122 < (Utf8.decode s pos).1) : name_Of.f s = some (0, 1) := by
  have hd := dec_cases s pos h
  unfold name_Of.f
  have : nmOk s.data.toList = false := by
    rw [← Bool.not_eq_true]
    intro hc
    simp only [nmOk, List.all_eq_true] at hc
    have := hc (s[pos]'h) (by simp [ByteArray.getElem_eq_getElem_data])
    simp at this
    omega
  rw [if_pos (.inr (.inr this))]
theorem of_long (s : ByteArray) (h : 4 < s.size) : name_Of.f s = some (0, 1) := by
  unfold name_Of.f
  rw [if_pos (.inr (.inl h))]
theorem of_end (s : ByteArray) (h4 : s.size ≤ 4) (h : nmOk s.data.toList = true) : name_Of.f s = some (if nmVal s.data.toList 0 = 0 then (0, 1) else (nmVal s.data.toList 0, 0)) := by
  have hb := nmVal_bd _ h (by simpa using h4)
  unfold name_Of.f
  by_cases h0 : s.size = 0
  · have : s.data.toList = [] := by rw [← List.length_eq_zero_iff]; simpa using h0
    rw [if_pos (.inl h0), this]; rfl
  · have : s.data.toList ≠ [] := by intro hc; apply h0; have := congrArg List.length hc; simpa using this
    rw [if_neg (by rintro (h | h | h); exact h0 h; omega; simp_all), if_neg (by rcases hb.2.2 with h | h; exact absurd h this; omega)]
theorem of_step (s : ByteArray) (pos : Nat) (h : pos < s.size) (h1 : 97 ≤ (Utf8.decode s pos).1) (h2 : (Utf8.decode s pos).1 ≤ 122) (ho : nmOk (s.data.toList.take pos) = true) :
    (Utf8.decode s pos).2 = 1 ∧ nmOk (s.data.toList.take (pos + 1)) = true ∧ nmVal (s.data.toList.take (pos + 1)) 0 = nmVal (s.data.toList.take pos) 0 * 27 + (((Utf8.decode s pos).1 : Int) - 97) + 1 := by
  have hd := dec_cases s pos h
  obtain ⟨e1, e2, _⟩ := hd.resolve_right (by omega)
  rw [take_snoc s pos h, nmOk_snoc, nmVal_snoc, ho]
  refine ⟨e2, by simp; omega, by rw [e1]; omega⟩

set_option maxHeartbeats 1000000 in
set_option maxRecDepth 100000 in
theorem name_Of.calls (a0 : ByteArray) (r1 : Int) (r2 : Int) (w : World) (h : name_Of.f a0 = some (r1, r2)) :
    Calls Tryd.prog 10 #[.string a0] w fun e w' => e = .returned (.tuple #[.int .i64 r1, .int .i64 r2]) ∧ Below w.heap.size w w' := by
  have H := Aside0.mk h
  clear h
  go_enter Tryd.func10, Tryd.ntmps10
  go_wp2
  go_loopw [4] (fun n w' => ∃ (pos : Nat), w' = w.iter a0 pos ∧ n = .int .i64 (nmVal (a0.data.toList.take pos) 0) ∧ Aside0 (pos ≤ a0.size) ∧ Aside0 (pos ≤ 4) ∧ Aside0 (nmOk (a0.data.toList.take pos) = true)) (fun _ w' => a0.size - w'.iterPos w.heap.size)
  case atStart => exact ⟨0, rfl, by simp [nmVal], ⟨by omega⟩, ⟨by omega⟩, ⟨by simp [nmOk]⟩⟩
  case round =>
    obtain ⟨pos, rfl, rfl, HP, H4, HO⟩ := hrel
    have hbd := nmVal_bd _ HO.out (by have := H4.out; simp; omega)
    by_cases hp : pos < a0.size
    · have hnx : ∀ ty, (Instr.next (.pointer (some ⟨w.heap.size, 0, none⟩)) true ty).run Tryd.prog (w.iter a0 pos) = _ := fun ty => run_next_any w a0 pos ty hp
      have hwd := width_pos a0 pos hp
      by_cases h1 : ((Utf8.decode a0 pos).1 : Int) < 97
      · go_wp2
        have e := (of_bad a0 pos hp (.inl (by omega))).symm.trans H.out
        simp only [Option.some.injEq, Prod.mk.injEq] at e
        obtain ⟨rfl, rfl⟩ := e
        go_ret2
        exact ⟨rfl, (Below.refl _ _).alloc (Nat.le_refl _) _⟩
      by_cases h2 : 122 < ((Utf8.decode a0 pos).1 : Int)
      · go_wp2
        have e := (of_bad a0 pos hp (.inr (by omega))).symm.trans H.out
        simp only [Option.some.injEq, Prod.mk.injEq] at e
        obtain ⟨rfl, rfl⟩ := e
        go_ret2
        exact ⟨rfl, (Below.refl _ _).alloc (Nat.le_refl _) _⟩
      by_cases h3 : pos = 4
      · have h3b : ((pos : Int) == 4) = true := by simp [h3]
        have H3 := Aside0.mk h3
        clear h3
        go_wp2
        have e := (of_long a0 (by have := H3.out; omega)).symm.trans H.out
        simp only [Option.some.injEq, Prod.mk.injEq] at e
        obtain ⟨rfl, rfl⟩ := e
        go_ret2
        exact ⟨rfl, (Below.refl _ _).alloc (Nat.le_refl _) _⟩
      · have h3b : ((pos : Int) == 4) = false := by simp; omega
        have hs := Aside0.mk (of_step a0 pos hp (by omega) (by omega) HO.out)
        go_wp2
        obtain ⟨s1, s2, s3⟩ := hs.out
        have := H4.out
        go_roundw
        case rel => exact ⟨pos + 1, by rw [s1], by rw [s3], ⟨by omega⟩, ⟨by omega⟩, ⟨s2⟩⟩
        case measure => simp; omega
    · have hnx : ∀ ty, (Instr.next (.pointer (some ⟨w.heap.size, 0, none⟩)) true ty).run Tryd.prog (w.iter a0 pos) = _ := fun ty => run_next_end w a0 pos ty hp
      have hpe : pos = a0.size := by have := HP.out; omega
      have htk : a0.data.toList.take pos = a0.data.toList := List.take_of_length_le (by simp [hpe])
      rw [htk] at HO hbd ⊢
      have e := (of_end a0 (by have := H4.out; omega) HO.out).symm.trans H.out
      clear htk hpe
      by_cases h0 : nmVal a0.data.toList 0 = 0
      · rw [if_pos h0] at e
        simp only [Option.some.injEq, Prod.mk.injEq] at e
        obtain ⟨rfl, rfl⟩ := e
        have h0b : (nmVal a0.data.toList 0 == 0) = true := by simp [h0]
        clear h0 hbd
        go_wp2
        go_ret2
        exact ⟨rfl, (Below.refl _ _).alloc (Nat.le_refl _) _⟩
      · rw [if_neg h0] at e
        simp only [Option.some.injEq, Prod.mk.injEq] at e
        obtain ⟨rfl, rfl⟩ := e
        have h0b : (nmVal a0.data.toList 0 == 0) = false := by simp [h0]
        clear h0 hbd
        go_wp2
        go_ret2
        exact ⟨rfl, (Below.refl _ _).alloc (Nat.le_refl _) _⟩


end Go.Proofs.YtcdgbpojcdecbaaDoor.P
