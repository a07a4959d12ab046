-- By wip/tools/drive.py: the kit's print, with contracts of this session's own among the functions.
import Derived.Test.YtgjjcgemelafaaaPx0
import Derived.Test.YtgjjcgemelafaaaPx11
namespace Go.Proofs.Ytgjjcgemelafaaa.P
open Go.RowKit Go.Proofs.YtgjjcgemelafaaaW.PrintWords Go.Proofs.YtgjjcgemelafaaaW.PrintLast Go.Proofs.YtgjjcgemelafaaaW.PrintMore
attribute [local go_sem] max2_int min2_int max_two min_two max_three min_three max_four min_four   -- for this text's walks alone
set_option linter.unusedVariables false
set_option linter.unusedSimpArgs false
/-- A closure that tells of each value whether; it lays blocks of its own at most. -/
def PredC (g : Nat) (lb : Array Value) {α : Type} (enc : α → Value) (p : α → Bool) (w : World) : Prop :=
  ∀ (W : World) (x : α), Below w.heap.size w W → Calls Try.prog g (#[enc x] ++ lb) W fun e w' => e = .returned (.bool (p x)) ∧ Below w.heap.size w w'
theorem getElem_rdOf {α : Type} (d : α) (l : List α) (i : Nat) (h : i < l.length) : rdOf d l (i : Int) = l[i] := by
  simp [rdOf, List.getD_eq_getElem?_getD, List.getElem?_eq_getElem h]
/-- The place of the first value of which it holds, or -1. -/
def idxP {α : Type} (p : α → Bool) : List α → Nat → Int
  | [], _ => -1
  | x :: l, i => if p x then (i : Int) else idxP p l (i + 1)
theorem idxP_ge {α : Type} (p : α → Bool) (l : List α) : ∀ i, (0 ≤ idxP p l i ↔ l.any p = true) := by
  induction l with
  | nil => intro i; simp [idxP]
  | cons x l ih =>
    intro i
    simp only [idxP, List.any_cons, Bool.or_eq_true]
    cases hx : p x
    · rw [if_neg (by decide), ih]; simp
    · rw [if_pos rfl]; simp
set_option maxHeartbeats 2000000 in
theorem slices_IndexFunc_string.walk (A0 : Option Addr) (c0 : Nat) (l0 : List ByteArray) (g : Nat) (lb : Array Value) (eg : ∀ args w, (callFunc g args).run Try.prog w = .ok (.enter g args) w) (p : ByteArray → Bool) (w : World) (hr0 : Kd.C Kd.string w A0 l0.length l0) (hc0 : l0.length ≤ c0) (hp : PredC g lb Value.string p w) :
    Calls Try.prog 138 #[.slice A0 l0.length c0, .func (.func g) #[] lb] w fun e w' => e = .returned (.int .i64 (idxP p l0 0)) ∧ Below w.heap.size w w' := by
  have HR0 := Aside0.mk hr0
  have HC0 := Aside0.mk hc0
  have HP := Aside0.mk hp
  have hmax := Kd.C_max hr0
  clear hr0 hc0 hp
  go_enter Try.func138, Try.ntmps138
  go_wp2
  go_loopg [5, 8] l0.length (fun gg _ s8 wr => ∃ kk : Nat, kk ≤ l0.length ∧ l0.length - kk ≤ gg ∧ s8 = .int .i64 kk ∧ Aside0 (Below w.heap.size w wr) ∧ Aside0 (idxP p (l0.drop kk) kk = idxP p l0 0))
  case atStart => exact ⟨0, Nat.zero_le _, by omega, rfl, ⟨Below.refl _ w⟩, ⟨rfl⟩⟩
  case round =>
    obtain ⟨kk, hkk, hg, rfl, BW, A⟩ := hrel
    by_cases hlt : kk < l0.length
    · have hltz : (kk : Int) < (l0.length : Int) := by omega
      obtain ⟨ad, e1, hx⟩ := Kd.at_string HR0.out (kk : Int) (by omega) hltz
      cases e1
      replace hx := (BW.out.cell (World.block_lt_of_cell? w _ hx)).trans hx
      rw [Int.toNat_natCast, getElem_rdOf _ _ _ hlt] at hx
      have hA := A.out
      rw [List.drop_eq_getElem_cons hlt, idxP] at hA
      have hcall := HP.out wr l0[kk] BW.out
      obtain ⟨y, hy⟩ : ∃ y, y = l0[kk] := ⟨_, rfl⟩
      rw [← hy] at hx hA hcall
      have c4b0 : decide ((kk : Int) < (l0.length : Int)) = true := decide_eq_true hltz
      have c4b1 : decide (kk < l0.length) = true := decide_eq_true hlt
      have q1 : (kk < l0.length) = True := eq_true hlt
      have HK := Aside0.mk hlt
      have HG := Aside0.mk hg
      clear hy hltz hlt hkk hg
      cases hq : p y with
      | true =>
        rw [hq, if_pos rfl] at hA
        rw [hq] at hcall
        have HA := Aside0.mk hA
        clear hA
        go_wp2
        refine hcall.mono ?_
        rintro e w' ⟨rfl, hb'⟩
        go_wp2
        go_ret
        exact ⟨by rw [← HA.out]; rfl, hb'⟩
      | false =>
        rw [hq, if_neg (by decide)] at hA
        rw [hq] at hcall
        have HA := Aside0.mk hA
        clear hA
        go_wp2
        refine hcall.mono ?_
        rintro e w' ⟨rfl, hb'⟩
        go_wp2
        go_roundg (l0.length - (kk + 1))
        case measure => have := HG.out; have := HK.out; omega
        case rel => exact ⟨kk + 1, by have := HK.out; omega, by have := HG.out; have := HK.out; omega, by rw [show wrap64 ((kk : Int) + 1) = ((kk + 1 : Nat) : Int) by have := HK.out; unfold wrap64; omega], ⟨hb'⟩, HA⟩
    · have hltz : ¬ (kk : Int) < (l0.length : Int) := by omega
      have hA := A.out
      rw [List.drop_of_length_le (by omega)] at hA
      have HA := Aside0.mk hA
      clear hA
      go_wp2
      go_ret
      exact ⟨by rw [← HA.out]; rfl, BW.out⟩
theorem slices_ContainsFunc_string.walk (A0 : Option Addr) (c0 : Nat) (l0 : List ByteArray) (g : Nat) (lb : Array Value) (eg : ∀ args w, (callFunc g args).run Try.prog w = .ok (.enter g args) w) (p : ByteArray → Bool) (w : World) (hr0 : Kd.C Kd.string w A0 l0.length l0) (hc0 : l0.length ≤ c0) (hp : PredC g lb Value.string p w) :
    Calls Try.prog 87 #[.slice A0 l0.length c0, .func (.func g) #[] lb] w fun e w' => e = .returned (.bool (l0.any p)) ∧ Below w.heap.size w w' := by
  have hw := slices_IndexFunc_string.walk A0 c0 l0 g lb eg p w hr0 hc0 hp
  have hi := idxP_ge p l0 0
  generalize idxP p l0 0 = I at hw hi
  have hd : decide (0 ≤ I) = l0.any p := by
    by_cases h : 0 ≤ I
    · rw [decide_eq_true h, hi.1 h]
    · rw [decide_eq_false h]; symm; rw [← Bool.not_eq_true]; exact fun e => h (hi.2 e)
  clear hi hr0 hc0 hp
  go_enter Try.func87, Try.ntmps87
  go_wp2_with (go_at_call 138; refine hw.mono ?_; rintro e w' ⟨rfl, hb'⟩)
  go_ret
  exact ⟨rfl, hb'⟩
/-- A write, as a value. -/
def encW (x : S79) : Value := .agg #[.int .i64 x.f0, .string x.f1]
theorem rd_nat79 (l : List S79) (i : Nat) (h : i < l.length) : rd_T79 l (i : Int) = l[i] := by
  simp [rd_T79, List.getD_eq_getElem?_getD, List.getElem?_eq_getElem h]
set_option maxHeartbeats 2000000 in
theorem slices_IndexFunc_write.walk (A0 : Option Addr) (c0 : Nat) (l0 : List S79) (g : Nat) (lb : Array Value) (eg : ∀ args w, (callFunc g args).run Try.prog w = .ok (.enter g args) w) (p : S79 → Bool) (w : World) (hr0 : Kd.C k79 w A0 l0.length l0) (hc0 : l0.length ≤ c0) (hp : PredC g lb encW p w) :
    Calls Try.prog 139 #[.slice A0 l0.length c0, .func (.func g) #[] lb] w fun e w' => e = .returned (.int .i64 (idxP p l0 0)) ∧ Below w.heap.size w w' := by
  have HR0 := Aside0.mk hr0
  have HC0 := Aside0.mk hc0
  have HP := Aside0.mk hp
  have hmax := Kd.C_max hr0
  clear hr0 hc0 hp
  go_enter Try.func139, Try.ntmps139
  go_wp2
  go_loopg [5, 8] l0.length (fun gg _ s8 wr => ∃ kk : Nat, kk ≤ l0.length ∧ l0.length - kk ≤ gg ∧ s8 = .int .i64 kk ∧ Aside0 (Below w.heap.size w wr) ∧ Aside0 (idxP p (l0.drop kk) kk = idxP p l0 0))
  case atStart => exact ⟨0, Nat.zero_le _, by omega, rfl, ⟨Below.refl _ w⟩, ⟨rfl⟩⟩
  case round =>
    obtain ⟨kk, hkk, hg, rfl, BW, A⟩ := hrel
    by_cases hlt : kk < l0.length
    · have hltz : (kk : Int) < (l0.length : Int) := by omega
      obtain ⟨ad, e1, hx, hx2⟩ := at_T79 HR0.out (kk : Int) (by omega) hltz
      cases e1
      replace hx := (BW.out.cell (World.block_lt_of_cell? w _ hx)).trans hx
      replace hx2 := (BW.out.cell (World.block_lt_of_cell? w _ hx2)).trans hx2
      rw [Int.toNat_natCast, rd_nat79 _ _ hlt] at hx hx2
      have hA := A.out
      rw [List.drop_eq_getElem_cons hlt, idxP] at hA
      have hcall := HP.out wr l0[kk] BW.out
      obtain ⟨y, hy⟩ : ∃ y, y = l0[kk] := ⟨_, rfl⟩
      rw [← hy] at hx hx2 hA hcall
      have c4b0 : decide ((kk : Int) < (l0.length : Int)) = true := decide_eq_true hltz
      have c4b1 : decide (kk < l0.length) = true := decide_eq_true hlt
      have q1 : (kk < l0.length) = True := eq_true hlt
      have HK := Aside0.mk hlt
      have HG := Aside0.mk hg
      clear hy hltz hlt hkk hg
      cases hq : p y with
      | true =>
        rw [hq, if_pos rfl] at hA
        rw [hq] at hcall
        have HA := Aside0.mk hA
        clear hA
        go_wp2
        refine hcall.mono ?_
        rintro e w' ⟨rfl, hb'⟩
        go_wp2
        go_ret
        exact ⟨by rw [← HA.out]; rfl, hb'⟩
      | false =>
        rw [hq, if_neg (by decide)] at hA
        rw [hq] at hcall
        have HA := Aside0.mk hA
        clear hA
        go_wp2
        refine hcall.mono ?_
        rintro e w' ⟨rfl, hb'⟩
        go_wp2
        go_roundg (l0.length - (kk + 1))
        case measure => have := HG.out; have := HK.out; omega
        case rel => exact ⟨kk + 1, by have := HK.out; omega, by have := HG.out; have := HK.out; omega, by rw [show wrap64 ((kk : Int) + 1) = ((kk + 1 : Nat) : Int) by have := HK.out; unfold wrap64; omega], ⟨hb'⟩, HA⟩
    · have hltz : ¬ (kk : Int) < (l0.length : Int) := by omega
      have hA := A.out
      rw [List.drop_of_length_le (by omega)] at hA
      have HA := Aside0.mk hA
      clear hA
      go_wp2
      go_ret
      exact ⟨by rw [← HA.out]; rfl, BW.out⟩
theorem slices_ContainsFunc_write.walk (A0 : Option Addr) (c0 : Nat) (l0 : List S79) (g : Nat) (lb : Array Value) (eg : ∀ args w, (callFunc g args).run Try.prog w = .ok (.enter g args) w) (p : S79 → Bool) (w : World) (hr0 : Kd.C k79 w A0 l0.length l0) (hc0 : l0.length ≤ c0) (hp : PredC g lb encW p w) :
    Calls Try.prog 88 #[.slice A0 l0.length c0, .func (.func g) #[] lb] w fun e w' => e = .returned (.bool (l0.any p)) ∧ Below w.heap.size w w' := by
  have hw := slices_IndexFunc_write.walk A0 c0 l0 g lb eg p w hr0 hc0 hp
  have hi := idxP_ge p l0 0
  generalize idxP p l0 0 = I at hw hi
  have hd : decide (0 ≤ I) = l0.any p := by
    by_cases h : 0 ≤ I
    · rw [decide_eq_true h, hi.1 h]
    · rw [decide_eq_false h]; symm; rw [← Bool.not_eq_true]; exact fun e => h (hi.2 e)
  clear hi hr0 hc0 hp
  go_enter Try.func88, Try.ntmps88
  go_wp2_with (go_at_call 139; refine hw.mono ?_; rintro e w' ⟨rfl, hb'⟩)
  go_ret
  exact ⟨rfl, hb'⟩
def shortB (s : ByteArray) : Bool := ((s.size : Int) != 40)
def fitsB (n : Nat) (x : S79) : Bool := decide (0 ≤ x.f0) && (decide (x.f0 < (n : Int)) && ((x.f1.size : Int) == 40))
theorem fits_f (b : List ByteArray) (l : List S79) (x : S79) : disk_fits.f b l x.f0 x.f1 = some (fitsB b.length x) := by
  unfold disk_fits.f fitsB
  by_cases h1 : x.f0 ≥ 0
  · rw [if_pos h1, decide_eq_true h1]
    by_cases h2 : x.f0 < (b.length : Int)
    · rw [if_pos h2, decide_eq_true h2]; rfl
    · rw [if_neg h2, decide_eq_false h2]; rfl
  · rw [if_neg h1, decide_eq_false h1]; rfl
theorem pred84 (w : World) : PredC 84 #[] Value.string shortB w := fun W x hb => by
  show Calls Try.prog 84 #[.string x] W _
  unfold shortB
  go_enter Try.func84, Try.ntmps84
  go_wp2
  go_ret
  exact ⟨rfl, hb⟩
set_option maxHeartbeats 2000000 in
theorem pred85 (Bk : Nat) (A0 : Option Addr) (c0 : Nat) (l0 : List ByteArray) (A1 : Option Addr) (c1 : Nat) (l1 : List S79) (w : World) (hB : Bk < w.heap.size)
    (hx0 : w.cell? ⟨Bk, 0, none⟩ = some (.slice A0 l0.length c0)) (hx1 : w.cell? ⟨Bk, 1, none⟩ = some (.slice A1 l1.length c1))
    (hr0 : Kd.C Kd.string w A0 l0.length l0) (hc0 : l0.length ≤ c0) (hr1 : Kd.C k79 w A1 l1.length l1) (hc1 : l1.length ≤ c1) :
    PredC 85 #[.pointer (some ⟨Bk, 0, none⟩)] encW (fun x => !fitsB l0.length x) w := fun W x hb => by
  have hBW : Bk < W.heap.size := Nat.lt_of_lt_of_le hB hb.size
  have hne : Bk ≠ W.heap.size := by omega
  replace hx0 := (hb.cell (p := ⟨Bk, 0, none⟩) hB).trans hx0
  replace hx1 := (hb.cell (p := ⟨Bk, 1, none⟩) hB).trans hx1
  have HR0 := Aside0.mk (Kd.C_below hr0 hb)
  have HR1 := Aside0.mk (Kd.C_below hr1 hb)
  have HF := Aside0.mk (fits_f l0 l1 x)
  obtain ⟨r, hr⟩ : ∃ r, fitsB l0.length x = r := ⟨_, rfl⟩
  rw [hr] at HF
  have HB := Aside0.mk hb
  have HC0 := Aside0.mk hc0
  have HC1 := Aside0.mk hc1
  show Calls Try.prog 85 #[.agg #[.int .i64 x.f0, .string x.f1], .pointer (some ⟨Bk, 0, none⟩)] W fun e w' => e = .returned (.bool (!fitsB l0.length x)) ∧ Below w.heap.size w w'
  rw [hr]
  clear hr hr0 hr1 hb hc0 hc1
  go_enter Try.func85, Try.ntmps85
  go_wp2_with (first | (go_at_call 86; (with_reducible refine (disk_fits.calls A0 c0 l0 A1 c1 l1 x.f0 x.f1 r _ ?s1 HC0.out ?s2 HC1.out HF.out).mono ?_); (case s1 => exact Kd.C_alloc HR0.out _); (case s2 => exact Kd.C_alloc HR1.out _); rintro e w' ⟨rfl, hb⟩))
  go_ret
  exact ⟨rfl, below_step (below_alloc HB.out _) hb⟩
def disk_Right.f (l0 : List ByteArray) (l1 : List S79) : Option Bool := some (decide ((l0.length : Int) ≥ 1) && (decide ((l0.length : Int) ≤ 4000) && (!l0.any shortB && !l1.any (fun x => !fitsB l0.length x))))
set_option maxHeartbeats 4000000 in
theorem disk_Right.calls (A0_0 : Option Addr) (c0_0 : Nat) (l0_0 : List ByteArray) (A0_1 : Option Addr) (c0_1 : Nat) (l0_1 : List (S79)) (r : Bool) (w : World) (hr0_0 : Kd.C Kd.string w A0_0 l0_0.length l0_0) (hc0_0 : l0_0.length ≤ c0_0) (hr0_1 : Kd.C k79 w A0_1 l0_1.length l0_1) (hc0_1 : l0_1.length ≤ c0_1) (h : disk_Right.f l0_0 l0_1 = some r) :
    Calls Try.prog 39 #[.agg #[.slice A0_0 l0_0.length c0_0, .slice A0_1 l0_1.length c0_1]] w fun e w' => e = .returned (.bool r) ∧ Below w.heap.size w w' := by
  obtain rfl := Option.some.inj h
  clear h
  have e84 : ∀ args w, (callFunc 84 args).run Try.prog w = .ok (.enter 84 args) w := Go.Proofs.enters_of Try.func84 (by kernel_rfl) rfl
  have e85 : ∀ args w, (callFunc 85 args).run Try.prog w = .ok (.enter 85 args) w := Go.Proofs.enters_of Try.func85 (by kernel_rfl) rfl
  have H1 := fun W h3 => slices_ContainsFunc_string.walk A0_0 c0_0 l0_0 84 #[] e84 shortB W h3 hc0_0 (pred84 W)
  have H2 := fun W h3 hB hx0 hx1 h0 => slices_ContainsFunc_write.walk A0_1 c0_1 l0_1 85 #[.pointer (some ⟨w.heap.size, 0, none⟩)] e85 (fun x => !fitsB l0_0.length x) W h3 hc0_1 (pred85 w.heap.size A0_0 c0_0 l0_0 A0_1 c0_1 l0_1 W hB hx0 hx1 h0 hc0_0 h3 hc0_1)
  obtain ⟨s, hs⟩ : ∃ s, l0_0.any shortB = s := ⟨_, rfl⟩
  obtain ⟨o, ho⟩ : ∃ o, l0_1.any (fun x => !fitsB l0_0.length x) = o := ⟨_, rfl⟩
  rw [hs, ho]
  rw [hs] at H1
  rw [ho] at H2
  have K1 := Aside0.mk H1
  have K2 := Aside0.mk H2
  have HR0 := Aside0.mk hr0_0
  have HR1 := Aside0.mk hr0_1
  clear H1 H2 hs ho hr0_0 hr0_1 hc0_0 hc0_1
  by_cases c1 : (l0_0.length : Int) ≥ 1
  · have b1 : decide (1 ≤ (l0_0.length : Int)) = true := decide_eq_true c1
    have b1n : decide (1 ≤ l0_0.length) = true := decide_eq_true (by omega)
    rw [decide_eq_true c1, Bool.true_and]
    by_cases c2 : (l0_0.length : Int) ≤ 4000
    · have b2 : decide ((l0_0.length : Int) ≤ 4000) = true := decide_eq_true c2
      have b2n : decide (l0_0.length ≤ 4000) = true := decide_eq_true (by omega)
      rw [decide_eq_true c2, Bool.true_and]
      clear c1 c2
      cases s
      · go_enter Try.func39, Try.ntmps39
        go_wp2_with (first | (go_at_call 87; (with_reducible refine (K1.out _ ?s1).mono ?_); (case s1 => exact Kd.C_alloc HR0.out _); rintro e w1 ⟨rfl, hb1⟩; have hx0 := (hb1.cell (p := ⟨w.heap.size, 0, none⟩) (by simp)).trans (show _ = some (Value.slice A0_0 l0_0.length c0_0) by simp); have hx1 := (hb1.cell (p := ⟨w.heap.size, 1, none⟩) (by simp)).trans (show _ = some (Value.slice A0_1 l0_1.length c0_1) by simp); have HB := Aside0.mk (show Below w.heap.size w w1 from below_step (below_alloc (Below.refl _ _) _) hb1); have hlt := (show w.heap.size < w1.heap.size from Nat.lt_of_lt_of_le (by simp) hb1.size); clear hb1) | (go_at_call 88; (with_reducible refine (K2.out _ ?s1 ?s2 ?s3 ?s4 ?s5).mono ?_); (case s1 => exact Kd.C_below HR1.out HB.out); (case s2 => exact hlt); (case s3 => exact hx0); (case s4 => exact hx1); (case s5 => exact Kd.C_below HR0.out HB.out); rintro e w2 ⟨rfl, hb2⟩))
        go_ret
        exact ⟨by simp, below_step HB.out hb2⟩
      · go_enter Try.func39, Try.ntmps39
        go_wp2_with (first | (go_at_call 87; (with_reducible refine (K1.out _ ?s1).mono ?_); (case s1 => exact Kd.C_alloc HR0.out _); rintro e w1 ⟨rfl, hb1⟩))
        go_ret
        exact ⟨by simp, below_step (below_alloc (Below.refl _ _) _) hb1⟩
    · have b2 : decide ((l0_0.length : Int) ≤ 4000) = false := decide_eq_false c2
      have b2n : decide (l0_0.length ≤ 4000) = false := decide_eq_false (by omega)
      rw [decide_eq_false c2, Bool.false_and]
      clear c1 c2
      go_enter Try.func39, Try.ntmps39
      go_wp2
      go_ret
      exact ⟨by rfl, below_alloc (Below.refl _ _) _⟩
  · have b1 : decide (1 ≤ (l0_0.length : Int)) = false := decide_eq_false c1
    have b1n : decide (1 ≤ l0_0.length) = false := decide_eq_false (by omega)
    rw [decide_eq_false c1, Bool.false_and]
    clear c1
    go_enter Try.func39, Try.ntmps39
    go_wp2
    go_ret
    exact ⟨by rfl, below_alloc (Below.refl _ _) _⟩
end Go.Proofs.Ytgjjcgemelafaaa.P
