-- By wip/tools/drive.py: the kit's print, with contracts of this session's own among the functions.
import Derived.Test.YtgjjcgemelafaaaPx0
import Derived.Test.YtgjjcgemelafaaaPx3
namespace Go.Proofs.Ytgjjcgemelafaaa.P
open Go.RowKit Go.Proofs.YtgjjcgemelafaaaW.PrintWords Go.Proofs.YtgjjcgemelafaaaW.PrintLast Go.Proofs.YtgjjcgemelafaaaW.PrintMore
attribute [local go_sem] max2_int min2_int max_two min_two max_three min_three max_four min_four   -- for this text's walks alone
set_option linter.unusedVariables false
set_option linter.unusedSimpArgs false
def L40 : List Int := [48, 49, 50, 51, 52, 53, 54, 55, 56, 57, 48, 49, 50, 51, 52, 53, 54, 55, 56, 57, 48, 49, 50, 51, 52, 53, 54, 55, 56, 57, 48, 49, 50, 51, 52, 53, 54, 55, 56, 57]
def cells40 : Array Value := (L40.map (Value.int .u8)).toArray
def parts40 : Array (Nat × Operand) := ((L40.zipIdx 0).map fun x => (x.2, Operand.const (Value.int .u8 x.1))).toArray
def S40 : ByteArray := ⟨#[48, 49, 50, 51, 52, 53, 54, 55, 56, 57, 48, 49, 50, 51, 52, 53, 54, 55, 56, 57, 48, 49, 50, 51, 52, 53, 54, 55, 56, 57, 48, 49, 50, 51, 52, 53, 54, 55, 56, 57]⟩
theorem info5u : (Try.prog.info? 5).map (fun i => (i.zero, i.size, i.bytes)) = some (some (.int .u8 0), 1, 1) := by kernel_rfl
theorem info5z : ∃ ie z, Try.prog.info? 5 = some ie ∧ ie.zero = some z ∧ ie.size = 1 ∧ z.cells = #[.int .u8 0] := by
  obtain ⟨i, hi, hzz⟩ := Option.map_eq_some_iff.1 info5u
  simp only [Prod.mk.injEq] at hzz
  exact ⟨i, _, hi, hzz.1, hzz.2.1, rfl⟩
theorem fill40 : Instr.fill (fun i => some (i * 1, 1)) (Array.map (fun x => #[Value.int IntKind.u8 0][x % #[Value.int IntKind.u8 0].size]!) (Array.range (40 * 1))) (List.map (fun x => (x.snd, x.fst)) (List.map (Value.int IntKind.u8) L40).zipIdx) = some cells40 := by kernel_rfl
theorem cells_marked {W : World} : Kd.C (Kd.int .u8) (W.alloc (.cells cells40 5 (cells40.size, cells40.size + 1))) (some ⟨W.heap.size, 0, none⟩) 40 L40 := by
  refine Kd.C_of_reads (d := (0 : Int)) ⟨rfl, by decide, fun _ => ⟨_, rfl, fun j hj => ?_⟩⟩
  have e : (⟨W.heap.size, 0, none⟩ : Addr).add j = ⟨W.heap.size, j, none⟩ := by simp [Addr.add]; omega
  have hj' : j < L40.length := hj
  rw [e, cell_of_row _ _ j _ _ _ (World.alloc_heap_new W _)]
  simp [cells40, List.getElem?_eq_getElem hj']
theorem lit40 {ops : Array Oper} {rest : List Oper} {a : Act} {w : World} {Q : Exit → Act → World → Prop} {o1 o2 o3 : Oper} (g1 : o1.guard = none) (g2 : o2.guard = none) (g3 : o3.guard = none)
    (h1 : o1.op = .buildSlice 136 40 parts40) (h2 : o2.op = .convert 136 136 (.tmp 15)) (h3 : o3.op = .convert 136 9 (.tmp 16))
    (e1 : (a.put o1.dst (.slice (some ⟨w.heap.size, 0, none⟩) 40 40)).eval (.tmp 15) = .slice (some ⟨w.heap.size, 0, none⟩) 40 40)
    (e2 : ((a.put o1.dst (.slice (some ⟨w.heap.size, 0, none⟩) 40 40)).put o2.dst (.slice (some ⟨w.heap.size, 0, none⟩) 40 40)).eval (.tmp 16) = .slice (some ⟨w.heap.size, 0, none⟩) 40 40)
    (h : ∀ w', Below w.heap.size w w' → wpList Try.prog ops Q rest (((a.put o1.dst (.slice (some ⟨w.heap.size, 0, none⟩) 40 40)).put o2.dst (.slice (some ⟨w.heap.size, 0, none⟩) 40 40)).put o3.dst (.string S40)) w') :
    wpList Try.prog ops Q (o1 :: o2 :: o3 :: rest) a w := by
  obtain ⟨ie, z, hie, hz, hs, hzc⟩ := info5z
  refine wpList_buildSlice g1 136 5 40 parts40 h1 cells40 ie z Try.underlying136 hie hz (by rw [hs]; decide) (by rw [hs]; decide) ?_ ?_
  · rw [parts_eval a parts40 .u8 L40 rfl, hs, hzc]
    clear e1 e2 h h1 h2 h3 g1 g2 g3 hie hz hs hzc
    exact fill40
  refine wpList_plain g2 fun K hK => ?_
  have hc := Go.Lib.run_convert_bytes_const (P := Try.prog) w 136 5 cells40 40 40 Try.underlying136 Try.underlying5
  unfold Oper.wp execOp
  simp only [h2, Sem.run_bind, e1, hc, Result.andThen_ok]
  refine hK _ _ (wpList_plain g3 fun K hK => ?_)
  have hc2 := Kd.C_string (P := Try.prog) (src := 136) (dst := 9) (c := 40) Try.underlying136 Try.underlying5 Try.underlying9 (cells_marked (W := w))
  have hS : strOfNums L40 = S40 := by decide
  rw [hS] at hc2
  unfold Oper.wp execOp
  simp only [h3, Sem.run_bind, e2, hc2, Result.andThen_ok]
  exact hK _ _ (h _ (below_alloc (Below.refl _ _) _))
/-- A row of which the first m cells are filled. -/
def filled (s : ByteArray) (n m : Nat) : List Value := (List.replicate m s ++ List.replicate (n - m) (⟨#[]⟩ : ByteArray)).map Value.string
theorem filled_length (s : ByteArray) (n m : Nat) (h : m ≤ n) : (filled s n m).length = n := by simp [filled]; omega
theorem filled_get (s : ByteArray) (n m j : Nat) (h : j < m) : (filled s n m)[j]? = some (.string s) := by
  simp [filled, List.getElem?_append, h]
theorem filled_splice (s : ByteArray) (n m k : Nat) (h : m + k ≤ n) : splice (filled s n m) m ((List.replicate k s).map Value.string) = filled s n (m + k) := by
  unfold splice filled
  rw [← List.map_take, ← List.map_drop, ← List.map_append, ← List.map_append]
  congr 1
  simp only [List.length_map, List.length_replicate]
  rw [List.take_append_of_le_length (by simp), List.take_of_length_le (by simp)]
  rw [List.drop_append, List.drop_of_length_le (by simp)]
  simp only [List.length_replicate, List.drop_replicate, List.nil_append]
  rw [← List.append_assoc, List.replicate_append_replicate]
  congr 2
  omega
set_option maxHeartbeats 4000000 in
set_option maxRecDepth 100000 in
theorem srep_walk (A : Option Addr) (c : Nat) (s : ByteArray) (n : Nat) (w : World) (hr : Kd.C Kd.string w A 1 [s]) (hc : 1 ≤ c) (hn : 1 ≤ n) (hn2 : n ≤ 4000)
    (hMul : ∀ W : World, Calls Try.prog 132 #[.int .u64 1, .int .u64 (n : Int)] W fun e w' => e = .returned (.tuple #[.int .u64 0, .int .u64 (n : Int)]) ∧ W = w') :
    Calls Try.prog 81 #[.slice A 1 c, .int .i64 (n : Int)] w fun e w' => ∃ v, e = .returned v ∧ Kd.R Kd.string 9 w' w.heap.size (fun _ => True) v (List.replicate n s) ∧ Below w.heap.size w w' := by
  have hmk := fun W => run_make_row' (P := Try.prog) 60 9 (.string ⟨#[]⟩) 16 Try.underlying60 info9 rfl .i64 .i64 n (by omega) (by omega) W
  have HR := Aside0.mk hr
  have HM := Aside0.mk hMul
  obtain ⟨ad, ea, hx⟩ := Kd.at_string hr 0 (by omega) (by simp)
  subst ea
  have e0 : ad.add (Int.toNat 0) = ad := by simp [Addr.add]
  have hx' : w.cell? ad = some (.string s) := by rw [e0] at hx; exact hx
  have HX := Aside0.mk hx'
  clear hx hx' hr hMul e0
  go_enter Try.func81, Try.ntmps81
  have hmc : madeCells #[.string ⟨#[]⟩] n = (filled s n 0).toArray := by
    simp only [madeCells, filled]
    apply Array.ext <;> simp [Nat.mod_one]
  have HMC := Aside0.mk hmc
  clear hmc
  go_wp2_with (first | (go_at_call 132; refine (HM.out _).mono ?_; rintro e w1 ⟨rfl, rfl⟩) | (refine wpList_copy_splice rfl (.tmp 31) (.tmp 32) 60 60 rfl 9 Try.underlying60 (by kernel_rfl) (some ⟨w.heap.size, 0, none⟩) (some ad) n n 1 c rfl rfl w.heap.size 0 (filled s n 0) 9 ?hg [.string s] ?hn ?hpos ?hfit ?h1 w.heap.size w ?hb (Nat.le_refl _) ?_; (case hg => rw [← HMC.out]; exact blk_new _ _); (case hn => exact (Nat.min_eq_left hn).symm); (case hpos => exact fun _ => ⟨rfl, ad, rfl, fun j v hj => (by obtain ⟨rfl, rfl⟩ : j = 0 ∧ Value.string s = v := (by cases j with | zero => exact ⟨rfl, by simpa using hj⟩ | succ j => simp at hj); have e0 : ad.add 0 = ad := (by simp [Addr.add]); rw [e0]; exact ((below_alloc (Below.refl _ _) _).cell (World.block_lt_of_cell? w _ HX.out)).trans HX.out)⟩); (case hfit => rw [filled_length _ _ _ (Nat.zero_le _)]; show 0 + 1 ≤ n; omega); (case h1 => intro v hv; obtain rfl := List.mem_singleton.1 hv; rfl); (case hb => exact below_alloc (Below.refl _ _) _); intro w2 hg2 hb2))
  have hg3 : w2.heap[w.heap.size]? = some (.cells (filled s n 1).toArray 9 (0, 0)) := by
    have h := hg2.out
    have e := filled_splice s n 0 1 (by omega)
    simp only [List.replicate_one, List.map_cons, List.map_nil, Nat.zero_add] at e
    rw [e] at h
    exact h
  have HG3 := Aside0.mk hg3
  have HB2 := Aside0.mk hb2
  clear hg3 hg2 hb2 hmk
  go_loopw [8] (fun v8 wr => ∃ m : Nat, v8 = .int .i64 m ∧ 1 ≤ m ∧ m ≤ n ∧ Aside0 (wr.heap[w.heap.size]? = some (.cells (filled s n m).toArray 9 (0, 0))) ∧ Aside0 (Below w.heap.size w wr)) (fun v8 _ => n - (intOf v8).toNat)
  case atStart => exact ⟨1, rfl, Nat.le_refl _, hn, HG3, HB2⟩
  case round =>
    clear HG3 HB2
    obtain ⟨m, rfl, hm1, hm2, HG, HB⟩ := hrel
    by_cases hlt : m < n
    · have c1 : decide ((m : Int) < (n : Int)) = true := decide_eq_true (by omega)
      have q1 : (m < n) = True := eq_true hlt
      have q2 : (m ≤ n) = True := eq_true hm2
      have q3 : ((m : Int) ≤ (n : Int)) = True := eq_true (by omega)
      have q4 : (n = m) = False := eq_false (by omega)
      obtain ⟨k, hk⟩ : ∃ k, k = Nat.min m (n - m) := ⟨_, rfl⟩
      have hk1 : k ≤ m := by rw [hk]; exact Nat.min_le_left _ _
      have hk2 : m + k ≤ n := by have : k ≤ n - m := by rw [hk]; exact Nat.min_le_right _ _
                                 omega
      have hk3 : 1 ≤ k := by rw [hk]; exact Nat.le_min.2 ⟨hm1, by omega⟩
      obtain ⟨X, hX⟩ : ∃ X, X = (List.replicate k s).map Value.string := ⟨_, rfl⟩
      have hXL : X.length = k := by rw [hX]; simp
      have HXL := Aside0.mk hXL
      have HXN := Aside0.mk (hXL.trans hk)
      have HX1 : Aside0 (∀ v ∈ X, v.oneCell' = true) := ⟨fun v hv => by rw [hX] at hv; obtain ⟨_, _, rfl⟩ := List.mem_map.1 hv; rfl⟩
      have HXF : Aside0 (m + X.length ≤ (filled s n m).length) := ⟨by rw [hXL, filled_length _ _ _ hm2]; exact hk2⟩
      have HXP : Aside0 (∀ j v, X[j]? = some v → wr.drew.cell? ((⟨w.heap.size, 0, none⟩ : Addr).add j) = some v) := ⟨fun j v hj => by
        have hjk : j < k := by rw [← hXL]; exact (List.getElem?_eq_some_iff.1 hj).1
        rw [hX] at hj
        have hv : v = .string s := by simp [List.getElem?_replicate, hjk] at hj; exact hj.symm
        have e : ((⟨w.heap.size, 0, none⟩ : Addr).add j) = ⟨w.heap.size, j, none⟩ := by simp [Addr.add]; omega
        rw [e, hv]
        have h := blk_cell (blk_drew HG.out) j
        rw [h]
        simpa using filled_get s n m j (by omega)⟩
      have HS : Aside0 (splice (filled s n m) m X = filled s n (m + k)) := ⟨by rw [hX]; exact filled_splice s n m k hk2⟩
      have hw : IntKind.i64.wrap ((m : Int) + (k : Int)) = ((m + k : Nat) : Int) := by rw [show ((m + k : Nat) : Int) = (m : Int) + (k : Int) by omega]; exact IntWalk.i64_in _ (by omega)
      have HK := Aside0.mk (And.intro hk2 (And.intro hk3 hn2))
      clear hk hX hXL hk1 hk2 hk3
      go_wp2
      go_region_law (refine step_copy_splice (o := ⟨some 45, _, _, _, _, _⟩) rfl (.tmp 41) (.tmp 44) 60 60 rfl 9 Try.underlying60 (by kernel_rfl) (some ⟨w.heap.size, m, none⟩) (some ⟨w.heap.size, 0, none⟩) (n - m) (n - m) m n ?hd ?hs w.heap.size m (filled s n m) 9 (blk_drew HG.out) X HXN.out (fun _ => ⟨rfl, _, rfl, HXP.out⟩) HXF.out HX1.out w.heap.size w (below_drew1 HB.out) (Nat.le_refl _) ?_; (case hd => first | (go_simp; done) | (go_simp; rfl)); (case hs => first | (go_simp; done) | (go_simp; rfl)); intro w4 hg4 hb4; rw [HXL.out])
      go_simp
      go_wp2
      go_roundw
      case rel =>
        have h := hg4.out
        rw [HS.out] at h
        exact ⟨m + k, by go_num, by omega, HK.out.1, ⟨h⟩, ⟨hb4⟩⟩
      case measure =>
        have := HK.out
        simp [intOf]
        omega
    · obtain rfl : m = n := by omega
      have c1 : decide ((m : Int) < (m : Int)) = false := decide_eq_false (by omega)
      go_wp2
      go_ret
      refine ⟨_, rfl, ?_, HB.out⟩
      refine Kd.R_of_own (enc := Value.string) ?_ (fun _ _ => trivial)
      refine ⟨by simp [encs], .inr ⟨w.heap.size, m, _, by simp, Nat.le_refl _, HG.out, by simp, by unfold maxLen; omega, by simp [filled], ?_⟩⟩
      simp [encs, filled]
theorem mul_one_n (n : Nat) (hn2 : n ≤ 4000) (W : World) : Calls Try.prog 132 #[.int .u64 1, .int .u64 (n : Int)] W fun e w' => e = .returned (.tuple #[.int .u64 0, .int .u64 (n : Int)]) ∧ W = w' := by
  refine (Try.bits_Mul 1 n (by omega) (by omega) W).mono ?_
  rintro e w' ⟨rfl, h⟩
  rw [Nat.one_mul, Nat.div_eq_of_lt (by omega), Nat.mod_eq_of_lt (by omega)]
  exact ⟨rfl, h.symm⟩
def slices_Repeat_string_string.f (l0 : List ByteArray) (a1 : Int) : Option (List ByteArray) := if l0.length = 1 ∧ 1 ≤ a1 ∧ a1 ≤ 4000 then some (List.replicate a1.toNat (l0.getD 0 ByteArray.empty)) else none
theorem slices_Repeat_string_string.calls (A0 : Option Addr) (c0 : Nat) (l0 : List ByteArray) (a1 : Int) (r : List ByteArray) (w : World) (hr0 : Kd.C Kd.string w A0 l0.length l0) (hc0 : l0.length ≤ c0) (h : slices_Repeat_string_string.f l0 a1 = some r) :
    Calls Try.prog 81 #[.slice A0 l0.length c0, .int .i64 a1] w fun e w' => ∃ v0_ : Value, e = .returned v0_ ∧ Kd.R Kd.string 9 w' w.heap.size (fun _ => True) v0_ r ∧ Below w.heap.size w w' := by
  unfold slices_Repeat_string_string.f at h
  by_cases hc : l0.length = 1 ∧ 1 ≤ a1 ∧ a1 ≤ 4000
  · rw [if_pos hc] at h
    obtain rfl := Option.some.inj h
    obtain ⟨h1, h2, h3⟩ := hc
    obtain ⟨s, rfl⟩ := List.length_eq_one_iff.1 h1
    obtain ⟨n, rfl⟩ : ∃ n : Nat, a1 = (n : Int) := ⟨a1.toNat, by omega⟩
    exact srep_walk A0 c0 s n w hr0 hc0 (by omega) (by omega) (mul_one_n n (by omega))
  · rw [if_neg hc] at h; cases h
def strings_Repeat.f (a0 : ByteArray) (a1 : Int) : Option ByteArray := if a0.size ≤ 1000 ∧ 0 ≤ a1 ∧ a1 ≤ 1000 then some ⟨(Go.Lib.repeatL a0.data.toList a1.toNat).toArray⟩ else none
theorem strings_Repeat.calls (a0 : ByteArray) (a1 : Int) (r : ByteArray) (w : World) (h : strings_Repeat.f a0 a1 = some r) :
    Calls Try.prog 82 #[.string a0, .int .i64 a1] w fun e w' => e = .returned (.string r) ∧ Below w.heap.size w w' := by
  unfold strings_Repeat.f at h
  by_cases hc : a0.size ≤ 1000 ∧ 0 ≤ a1 ∧ a1 ≤ 1000
  · rw [if_pos hc] at h
    obtain rfl := Option.some.inj h
    obtain ⟨h1, h2, h3⟩ := hc
    obtain ⟨n, rfl⟩ : ∃ n : Nat, a1 = (n : Int) := ⟨a1.toNat, by omega⟩
    have hm : a0.size * n ≤ 1000 * 1000 := Nat.mul_le_mul h1 (by omega)
    exact Try.strings_Repeat a0 n w (by omega) (by omega)
  · rw [if_neg hc] at h; cases h
theorem rep_one {t : ByteArray} (h : strings_Repeat.f (⟨#[48, 49, 50, 51, 52, 53, 54, 55, 56, 57, 48, 49, 50, 51, 52, 53, 54, 55, 56, 57, 48, 49, 50, 51, 52, 53, 54, 55, 56, 57, 48, 49, 50, 51, 52, 53, 54, 55, 56, 57]⟩ : ByteArray) 1 = some t) : S40 = t := by
  unfold strings_Repeat.f at h
  rw [if_pos (by decide)] at h
  exact (show S40 = _ by decide).trans (Option.some.inj h)
end Go.Proofs.Ytgjjcgemelafaaa.P
