-- By wip/tools/drive.py: the kit's print, with contracts of this session's own among the functions.
import Derived.Test.YtcdgbpojcdecbaaDoorPx0
import Derived.Test.YtcdgbpojcdecbaaDoorPx2
namespace Go.Proofs.YtcdgbpojcdecbaaDoor.P
open Go.RowKit Go.Proofs.YtcdgbpojcdecbaaDoorW.PrintWords Go.Proofs.YtcdgbpojcdecbaaDoorW.PrintLast Go.Proofs.YtcdgbpojcdecbaaDoorW.PrintMore
attribute [local go_sem] max2_int min2_int max_two min_two max_three min_three max_four min_four   -- for this text's walks alone
set_option linter.unusedVariables false
set_option linter.unusedSimpArgs false

-- GIVEN
/-! ### name_Text: function 12 -/
theorem inf_rune : (Tryd.prog.info? 21).map (fun i => (i.zero, i.size, i.bytes)) = some (some (.int .i32 0), 1, 4) := by kernel_rfl
def txDig : Nat → Int → List Int
  | 0, _ => []
  | k + 1, n => if 0 < n then n % 27 :: txDig k (n / 27) else []
def name_Text.f (a0 : Int) : Option (ByteArray × Int) :=
  if a0 < 1 ∨ 531440 < a0 ∨ (0 : Int) ∈ txDig 4 a0 then some (⟨#[]⟩, 1) else some (strOfNums ((txDig 4 a0).map (96 + ·)).reverse, 0)

theorem runes_of_reads {P : Program} {w : World} {src dst e : TypeId} {A : Option Addr} {n c : Nat} {xs : List Int} (hs : P.underlying src = some (.slice e)) (he : P.underlying e = some (.int .i32)) (hd : P.underlying dst = some .string)
    (h : (Kd.int .i32).C w A n xs) : (convert src dst (.slice A n c)).run P w = .ok (.string (runesBytes xs)) w := by
  have h' := Kd.reads_of_C (enc := Value.int .i32) (d := (0 : Int)) (h1 := fun _ => rfl) h
  have hn : xs.length = n := h'.1
  rcases A with _ | ad
  · have h0 : n = 0 := by
      rcases Nat.eq_zero_or_pos n with h0 | h0
      · exact h0
      · obtain ⟨ad, h', _⟩ := h'.2.2 h0
        cases h'
    subst h0
    obtain rfl : xs = [] := List.eq_nil_of_length_eq_zero hn
    exact run_convert_runes_nil w src dst e 0 c hs he hd
  · have hcell : ∀ j, j < xs.length → w.cell? (ad.add j) = some (.int .i32 (xs.getD j 0)) := by
      intro j hj
      obtain ⟨ad', he', hc⟩ := h'.2.2 (by omega)
      injection he' with he'
      subst he'
      exact hc j (by omega)
    have := run_convert_runes (P := P) w src dst e ad n c xs (by omega) hs he hd hcell
    rw [this, List.take_of_length_le (by omega)]

theorem encode_low (n : Int) (h0 : 0 ≤ n) (h1 : n < 128) : Utf8.encode n = ⟨#[UInt8.ofNat n.toNat]⟩ := by
  have hv : Utf8.valid n = true := by unfold Utf8.valid; simp; omega
  unfold Utf8.encode
  simp only [hv, if_true]
  rw [if_pos (by omega)]
theorem foldl_encode_low (xs : List Int) (h : ∀ x ∈ xs, 0 ≤ x ∧ x < 128) : ∀ s : ByteArray, xs.foldl (fun r n => r ++ Utf8.encode n) s = s ++ strOfNums xs := by
  induction xs with
  | nil => intro s; apply ByteArray.ext; simp [strOfNums]
  | cons x xs ih =>
    intro s
    rw [List.foldl_cons, ih (fun y hy => h y (List.mem_cons_of_mem _ hy)), encode_low x (h x (by simp)).1 (h x (by simp)).2]
    apply ByteArray.ext
    simp [strOfNums, ByteArray.append_assoc]
theorem runesBytes_low (xs : List Int) (h : ∀ x ∈ xs, 0 ≤ x ∧ x < 128) : runesBytes xs = strOfNums xs := by
  unfold runesBytes
  rw [foldl_encode_low xs h]
  apply ByteArray.ext
  simp [strOfNums]
theorem reverse_four (l : List Int) (h : l.length ≤ 4) : slices_Reverse_rune_rune.f 5 l = some l.reverse := by
  match l, h with
  | [], _ => simp [slices_Reverse_rune_rune.f, slices_Reverse_rune_rune.l0, wrap64]
  | [a], _ => simp [slices_Reverse_rune_rune.f, slices_Reverse_rune_rune.l0, wrap64]
  | [a, b], _ => simp [slices_Reverse_rune_rune.f, slices_Reverse_rune_rune.l0, rd, wrap64]
  | [a, b, c], _ => simp [slices_Reverse_rune_rune.f, slices_Reverse_rune_rune.l0, rd, wrap64]
  | [a, b, c, d], _ => simp [slices_Reverse_rune_rune.f, slices_Reverse_rune_rune.l0, rd, wrap64]
theorem txDig_len : ∀ (k : Nat) (n : Int), (txDig k n).length ≤ k
  | 0, _ => by simp [txDig]
  | k + 1, n => by
    unfold txDig
    split
    · have := txDig_len k (n / 27); simp; omega
    · simp
theorem txDig_rg : ∀ (k : Nat) (n : Int), ∀ x ∈ txDig k n, 0 ≤ x ∧ x < 27
  | 0, _ => by simp [txDig]
  | k + 1, n => by
    unfold txDig
    split
    · intro x hx
      rcases List.mem_cons.1 hx with rfl | hx
      · omega
      · exact txDig_rg k _ x hx
    · simp

set_option maxHeartbeats 2000000 in
set_option maxRecDepth 100000 in
theorem name_Text.calls (a0 : Int) (r1 : ByteArray) (r2 : Int) (w : World) (h : name_Text.f a0 = some (r1, r2)) :
    Calls Tryd.prog 12 #[.int .i64 a0] w fun e w' => e = .returned (.tuple #[.string r1, .int .i64 r2]) ∧ Below w.heap.size w w' := by
  unfold name_Text.f at h
  by_cases c1 : a0 < 1
  · rw [if_pos (.inl c1)] at h
    simp only [Option.some.injEq, Prod.mk.injEq] at h
    obtain ⟨rfl, rfl⟩ := h
    go_enter Tryd.func12, Tryd.ntmps12
    go_wp2
    go_ret2
    exact ⟨rfl, Below.refl _ _⟩
  by_cases c2 : 531440 < a0
  · rw [if_pos (.inr (.inl c2))] at h
    simp only [Option.some.injEq, Prod.mk.injEq] at h
    obtain ⟨rfl, rfl⟩ := h
    go_enter Tryd.func12, Tryd.ntmps12
    go_wp2
    go_ret2
    exact ⟨rfl, Below.refl _ _⟩
  have H := Aside0.mk h
  have C := Aside0.mk (And.intro c1 c2)
  clear h
  go_enter Tryd.func12, Tryd.ntmps12
  go_wp2
  go_loopw [0, 4] (fun v0 v4 w' => ∃ (m : Int) (j : Nat) (l : List Int), v0 = .int .i64 m ∧ Aside0 (0 ≤ m ∧ m ≤ 531440) ∧ Aside0 (Kd.R (Kd.int .i32) 21 w' w.heap.size (fun _ => True) v4 l) ∧ Aside0 (Below w.heap.size w w') ∧ Aside0 ((txDig 4 a0).map (96 + ·) = l ++ (txDig j m).map (96 + ·) ∧ l.length + j = 4 ∧ m < 27 ^ j ∧ ∀ x ∈ l, 97 ≤ x ∧ x ≤ 122)) (fun v0 _ _ => (intOf v0).toNat)
  case atStart => exact ⟨a0, 4, [], rfl, ⟨by omega⟩, ⟨Kd.R_nil _ _ _ _ _⟩, ⟨Below.refl _ _⟩, ⟨by simp, by simp, by omega, by simp⟩⟩
  case round =>
    obtain ⟨m, j, l, rfl, HM, HO, HB, HD⟩ := hrel
    obtain ⟨hm0, hm1⟩ := HM.out
    by_cases c3 : 0 < m
    · obtain ⟨j, rfl⟩ : ∃ i, j = i + 1 := ⟨j - 1, by
        have := HD.out.2.2.1
        rcases j with _ | j
        · simp at this; omega
        · omega⟩
      have hdig : txDig (j + 1) m = m % 27 :: txDig j (m / 27) := by rw [txDig, if_pos c3]
      by_cases c4 : m % 27 = 0
      · have c4b : (m % 27 == 0) = true := by simp [c4]
        have hz : (0 : Int) ∈ txDig 4 a0 := by
          have := HD.out.1
          rw [hdig, c4] at this
          have h96 : (96 : Int) ∈ (txDig 4 a0).map (96 + ·) := by rw [this]; simp
          obtain ⟨x, hx, hxe⟩ := List.mem_map.1 h96
          have : x = 0 := by omega
          rwa [this] at hx
        have e := (if_pos (.inr (.inr hz))).symm.trans H.out
        simp only [Option.some.injEq, Prod.mk.injEq] at e
        obtain ⟨rfl, rfl⟩ := e
        clear c4 hdig hz
        go_wp2
        go_ret2
        exact ⟨rfl, HB.out⟩
      · have c4b : (m % 27 == 0) = false := by simp [c4]
        obtain ⟨Ao, co, eo⟩ := Kd.R_slice HO.out
        subst eo
        have hl4 : l.length ≤ 3 := by have := HD.out.2.1; omega
        have HH := Aside0.mk hdig
        clear hdig
        go_wp2_with (first | ((with_reducible refine gate_builtin (b := .append) (xs := #[.tmp 18, .tmp 24]) rfl ?_); at_builtin; refine Kd.R_append (Kd.int .i32) (w0 := w) w.heap.size rfl (.tmp 18) (.tmp 24) 48 21 (.int .i32 0) 4 rfl Tryd.underlying48 inf_rune rfl (by decide) (by omega) (.slice Ao l.length co) l (97 + m % 27 - 1) [.int .i32 (97 + m % 27 - 1)] (fun _ => True) (fun _ => False) rfl rfl ?aP (fun _ hk => hk.elim) (fun _ _ => trivial) HO.out HB.out HB.out.size (by omega) ?_; (case aP => exact rfl); intro v1 w1 ho hb hg hat; have HO1 := Aside0.mk ho; have HB1 := Aside0.mk hb; clear HO HB ho hb hg hat))
        go_roundw
        case rel =>
          obtain ⟨d1, d2, d3, d4⟩ := HD.out
          refine ⟨m / 27, j, l ++ [97 + m % 27 - 1], rfl, ⟨by omega⟩, HO1, HB1, ⟨?_, by simp; omega, ?_, ?_⟩⟩
          · rw [d1, HH.out]; simp; omega
          · rw [Int.pow_succ] at d3; omega
          · intro x hx
            rcases List.mem_append.1 hx with hx | hx
            · exact d4 x hx
            · have : x = 97 + m % 27 - 1 := by simpa using hx
              omega
        case measure => simp [intOf]; omega
    · obtain ⟨d1, d2, d3, d4⟩ := HD.out
      obtain rfl : m = 0 := by omega
      have hnil : txDig j 0 = [] := by cases j <;> simp [txDig]
      rw [hnil, List.map_nil, List.append_nil] at d1
      have hz : ¬ (0 : Int) ∈ txDig 4 a0 := by
        intro hz
        have : (96 : Int) ∈ l := by rw [← d1]; exact List.mem_map.2 ⟨0, hz, rfl⟩
        have := d4 _ this
        omega
      have e := (if_neg (by have hc := C.out; rintro (h | h | h); omega; omega; exact hz h)).symm.trans H.out
      simp only [Option.some.injEq, Prod.mk.injEq] at e
      obtain ⟨rfl, rfl⟩ := e
      have D1 := Aside0.mk d1
      have hrev := Aside0.mk (reverse_four l (by omega))
      have hlow := Aside0.mk (runesBytes_low l.reverse (by intro x hx; have := d4 x (List.mem_reverse.1 hx); omega))
      clear d1 d2 d3 d4 hnil hz
      obtain ⟨Ao, co, eo⟩ := Kd.R_slice HO.out
      subst eo
      go_wp2_with (first | (go_at_call 21; refine (slices_Reverse_rune_rune.calls 5 (fun _ => True) _ l l.reverse w _ HB.out HO.out hrev.out).mono ?_; rintro e w1 ⟨rfl, ho, hb, hk⟩; have HO1 := Aside0.mk ho; have HB1 := Aside0.mk hb; have hcv := runes_of_reads (src := 48) (dst := 9) (e := 21) (c := co) Tryd.underlying48 Tryd.underlying21 Tryd.underlying9 (Kd.R_reads' ho).2.2; rw [hlow.out, List.length_reverse] at hcv; clear HO HB ho hb hk))
      go_ret2
      exact ⟨by rw [D1.out]; rfl, HB1.out⟩


end Go.Proofs.YtcdgbpojcdecbaaDoor.P
