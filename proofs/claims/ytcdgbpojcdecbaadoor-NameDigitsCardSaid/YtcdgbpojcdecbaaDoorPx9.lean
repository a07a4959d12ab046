-- By wip/tools/drive.py: the kit's print, with contracts of this session's own among the functions.
import Derived.Test.YtcdgbpojcdecbaaDoorPx0
import Derived.Test.YtcdgbpojcdecbaaDoorPx1
import Derived.Test.YtcdgbpojcdecbaaDoorPx3
namespace Go.Proofs.YtcdgbpojcdecbaaDoor.P
open Go.RowKit Go.Proofs.YtcdgbpojcdecbaaDoorW.PrintWords Go.Proofs.YtcdgbpojcdecbaaDoorW.PrintLast Go.Proofs.YtcdgbpojcdecbaaDoorW.PrintMore
attribute [local go_sem] max2_int min2_int max_two min_two max_three min_three max_four min_four   -- for this text's walks alone
set_option linter.unusedVariables false
set_option linter.unusedSimpArgs false

-- GIVEN
/-! ### name_Join: function 16 -/
def bldRen : Go.Shelf.Ren := ⟨fun | 166 => 24 | 240 => 29 | 276 => 34 | 169 => 25 | n => n, fun | 0 => 0 | 3 => 3 | 4 => 4 | 5 => 5 | 9 => 9 | 20 => 20 | 37 => 50 | 70 => 56 | 72 => 58 | 75 => 60 | 80 => 63 | 164 => 70 | 127 => 65 | n => n, fun n => n⟩
theorem bldLays : Go.Proofs.Lays.n166 Tryd.prog bldRen := {
  mixed := by kernel_rfl
  f166 := Tryd.func24.trans (congrArg some (by kernel_rfl))
  f240 := Tryd.func29.trans (congrArg some (by kernel_rfl))
  f276 := Tryd.func34.trans (congrArg some (by kernel_rfl))
  t0 := Tryd.underlying0, a0 := Tryd.isAgg0, z0 := Tryd.sizeOf0, v0 := Tryd.zeroValue0
  t3 := Tryd.underlying3, a3 := Tryd.isAgg3, z3 := Tryd.sizeOf3, v3 := Tryd.zeroValue3
  t4 := Tryd.underlying4, a4 := Tryd.isAgg4, z4 := Tryd.sizeOf4, v4 := Tryd.zeroValue4
  t9 := Tryd.underlying9, a9 := Tryd.isAgg9, z9 := Tryd.sizeOf9, v9 := Tryd.zeroValue9
  t20 := Tryd.underlying20, a20 := Tryd.isAgg20, z20 := Tryd.sizeOf20, v20 := Tryd.zeroValue20
  t37 := Tryd.underlying50, a37 := Tryd.isAgg50, z37 := Tryd.sizeOf50, v37 := Tryd.zeroValue50
  t70 := Tryd.underlying56, a70 := Tryd.isAgg56, z70 := Tryd.sizeOf56, v70 := Tryd.zeroValue56
  t72 := Tryd.underlying58, a72 := Tryd.isAgg58, z72 := Tryd.sizeOf58, v72 := Tryd.zeroValue58
  t75 := Tryd.underlying60, a75 := Tryd.isAgg60, z75 := Tryd.sizeOf60, v75 := Tryd.zeroValue60
  t164 := Tryd.underlying70, a164 := Tryd.isAgg70, z164 := Tryd.sizeOf70, v164 := Tryd.zeroValue70 }

theorem bldLays9 : Go.Proofs.Lays.n169 Tryd.prog bldRen := {
  mixed := by kernel_rfl
  f169 := Tryd.func25.trans (congrArg some (by kernel_rfl))
  t0 := Tryd.underlying0, a0 := Tryd.isAgg0, z0 := Tryd.sizeOf0, v0 := Tryd.zeroValue0
  t3 := Tryd.underlying3, a3 := Tryd.isAgg3, z3 := Tryd.sizeOf3, v3 := Tryd.zeroValue3
  t9 := Tryd.underlying9, a9 := Tryd.isAgg9, z9 := Tryd.sizeOf9, v9 := Tryd.zeroValue9
  t37 := Tryd.underlying50, a37 := Tryd.isAgg50, z37 := Tryd.sizeOf50, v37 := Tryd.zeroValue50
  t70 := Tryd.underlying56, a70 := Tryd.isAgg56, z70 := Tryd.sizeOf56, v70 := Tryd.zeroValue56
  t72 := Tryd.underlying58, a72 := Tryd.isAgg58, z72 := Tryd.sizeOf58, v72 := Tryd.zeroValue58
  t127 := Tryd.underlying65, a127 := Tryd.isAgg65, z127 := Tryd.sizeOf65, v127 := Tryd.zeroValue65 }
theorem bldX : Builder.Extra Tryd.prog bldRen := {
  sizeBuilder := by kernel_rfl
  liesBuilder := by kernel_rfl
  t5 := Tryd.underlying5
  a5 := Tryd.isAgg5
  z5 := Tryd.sizeOf5
  v5 := Tryd.zeroValue5
  infoByte := by kernel_rfl
  cellsByte := by kernel_rfl
  sizeByte := by kernel_rfl
  neB5 := by decide }
theorem bld_below {T e : TypeId} {B b : Nat} {p : Value} {bs : List Value} {w w1 : World} (h : Lib.BuilderAt T e B b p bs w) (hb : Below w.heap.size w w1) : Lib.BuilderAt T e B b p bs w1 := by
  have hlt := h.lt
  obtain ⟨h1, v, h2, h3, h4⟩ := h
  exact ⟨h1, v, (hb.block b hlt).trans h2, own_move h3 (fun k hk => hb.block k (own_lt h3 k hk)), h4⟩
theorem bld_is {T e : TypeId} {B b : Nat} {bs : List Value} {w w1 : World} (h : Lib.IsBuilder T e B b bs w) (hb : Below w.heap.size w w1) : Lib.IsBuilder T e B b bs w1 :=
  h.imp (fun h => bld_below h hb) (fun h => bld_below h hb)
theorem bldWrite (B b : Nat) (l : List UInt8) (s : ByteArray) (w : World) (h : Lib.IsBuilder 58 5 B b (Lib.byteCells l) w) (hlen : l.length + s.size ≤ 1000000) (hBw : B ≤ w.heap.size) :
    Calls Tryd.prog 24 #[.pointer (some ⟨b, 0, none⟩), .string s] w fun e w' => e = .returned (.tuple #[.int .i64 s.size, .nilIface]) ∧ Lib.IsBuilder 58 5 B b (Lib.byteCells (l ++ s.data.toList)) w' ∧ Below B w w' := by
  refine (Any.Builder_WriteString bldLays bldX B b (Lib.byteCells l) s w h (by rw [Lib.byteCells_length]; omega) hBw).mono ?_
  rintro e w' ⟨rfl, h1, h2⟩
  refine ⟨rfl, .inr ?_, h2⟩
  have : Lib.byteCells (l ++ s.data.toList) = Lib.byteCells l ++ Lib.strCells s := by simp [Lib.byteCells, Lib.strCells]
  rw [this]
  exact h1
theorem bldString (B b : Nat) (l : List UInt8) (w : World) (h : Lib.IsBuilder 58 5 B b (Lib.byteCells l) w) (hBw : B ≤ w.heap.size) :
    Calls Tryd.prog 25 #[.pointer (some ⟨b, 0, none⟩)] w fun e w' => e = .returned (.string ⟨l.toArray⟩) ∧ Below B w w' := Any.Builder_String_any bldLays9 bldX B b l w h hBw

def joinGo : List Int → List UInt8 → Option (ByteArray × Int)
  | [], s => some (⟨s.toArray⟩, 0)
  | n :: l, s => (name_Text.f n).bind fun p => if p.2 = 0 then (if s.length + 1 + p.1.size ≤ 1000000 then joinGo l (s ++ 47 :: p.1.data.toList) else none) else some (⟨#[]⟩, p.2)
def name_Join.f (l : List Int) : Option (ByteArray × Int) := if 20 < l.length then some (⟨#[]⟩, 1) else if l.length = 0 then some (⟨#[47]⟩, 0) else joinGo l []
set_option maxHeartbeats 2000000 in
set_option maxRecDepth 100000 in
theorem name_Join.calls (A0 : Option Addr) (c0 : Nat) (l0 : List Int) (r1 : ByteArray) (r2 : Int) (w : World) (hr0 : Kd.C (Kd.int .i64) w A0 l0.length l0) (hc0 : l0.length ≤ c0) (h : name_Join.f l0 = some (r1, r2)) :
    Calls Tryd.prog 16 #[.slice A0 l0.length c0] w fun e w' => e = .returned (.tuple #[.string r1, .int .i64 r2]) ∧ Below w.heap.size w w' := by
  unfold name_Join.f at h
  by_cases c1 : 20 < l0.length
  · rw [if_pos c1] at h
    simp only [Option.some.injEq, Prod.mk.injEq] at h
    obtain ⟨rfl, rfl⟩ := h
    have c1b : decide (20 < (l0.length : Int)) = true := decide_eq_true (by omega)
    clear c1
    go_enter Tryd.func16, Tryd.ntmps16
    go_wp2
    go_ret2
    exact ⟨rfl, Below.refl _ _⟩
  rw [if_neg c1] at h
  have c1b : decide (20 < (l0.length : Int)) = false := decide_eq_false (by omega)
  by_cases c2 : l0.length = 0
  · rw [if_pos c2] at h
    simp only [Option.some.injEq, Prod.mk.injEq] at h
    obtain ⟨rfl, rfl⟩ := h
    have c2b : ((l0.length : Int) == 0) = true := by simp [c2]
    clear c1 c2 hr0 hc0
    go_enter Tryd.func16, Tryd.ntmps16
    go_wp2
    go_ret2
    exact ⟨rfl, Below.refl _ _⟩
  rw [if_neg c2] at h
  have c2b : ((l0.length : Int) == 0) = false := beq_eq_false_iff_ne.mpr (by omega)
  have H := Aside0.mk h
  have HR0 := Aside0.mk hr0
  have C1 := Aside0.mk c1
  clear h hr0 hc0 c1 c2
  go_enter Tryd.func16, Tryd.ntmps16
  go_wp2
  go_loopw [17] (fun v17 w' => ∃ (i : Nat) (s : List UInt8), v17 = .int .i64 i ∧ Aside0 (i ≤ l0.length) ∧ Aside0 (Lib.IsBuilder 58 5 w.heap.size w.heap.size (Lib.byteCells s) w') ∧ Aside0 (Below w.heap.size w w') ∧ Aside0 (joinGo (l0.drop i) s = some (r1, r2))) (fun v17 _ => l0.length - (intOf v17).toNat)
  case atStart => exact ⟨0, [], rfl, ⟨by omega⟩, ⟨Lib.fresh_isBuilder 58 5 w⟩, ⟨(Below.refl _ _).alloc (Nat.le_refl _) _⟩, H⟩
  case round =>
    obtain ⟨i, s, rfl, HI, HS, HB, HJ⟩ := hrel
    have h20 := C1.out
    have hi := HI.out
    by_cases hlt : i < l0.length
    · obtain ⟨ad, e1, hx⟩ := Kd.at_int HR0.out (i : Int) (by omega) (by omega)
      cases e1
      replace hx := (HB.out.cell (World.block_lt_of_cell? w _ hx)).trans hx
      rw [Int.toNat_natCast] at hx
      have hj0 := HJ.out
      rw [List.drop_eq_getElem_cons hlt, joinGo] at hj0
      obtain ⟨⟨t, e⟩, ht, hj1⟩ := Option.bind_eq_some_iff.1 hj0
      have hj : (if e = 0 then (if s.length + 1 + t.size ≤ 1000000 then joinGo (l0.drop (i + 1)) (s ++ 47 :: t.data.toList) else none) else some (⟨#[]⟩, e)) = some (r1, r2) := hj1
      clear hj0 hj1
      have hrd : rd l0 (i : Int) = l0[i] := rd_eq l0 i hlt
      rw [← hrd] at ht
      have HT := Aside0.mk ht
      have hltb : decide ((i : Int) < (l0.length : Int)) = true := decide_eq_true (by omega)
      clear ht hrd
      by_cases he : e = 0
      · subst he
        rw [if_pos rfl] at hj
        by_cases hb : s.length + 1 + t.size ≤ 1000000
        · rw [if_pos hb] at hj
          have HJ1 := Aside0.mk hj
          have b1 : 1 + t.size ≤ 9223372036854775807 := by omega
          have b2 := eq_true b1
          have b3 : decide (1 + t.size ≤ 9223372036854775807) = true := decide_eq_true b1
          have b4 : (9223372036854775807 < 1 + t.size) = False := eq_false (Nat.not_lt.2 b1)
          clear hj HJ
          go_wp2_with (first | (go_at_call 12; refine (name_Text.calls (rd l0 (i : Int)) t 0 _ HT.out).mono ?_; rintro e w1 ⟨rfl, hb1⟩; have HS1 := Aside0.mk (bld_is HS.out hb1); have HB1 := Aside0.mk (below_step HB.out hb1); clear HS HB hb1) | (go_at_call 24; refine (bldWrite w.heap.size w.heap.size s ((⟨#[47]⟩ : ByteArray) ++ t) _ HS1.out ?cL HB1.out.size).mono ?_; (case cL => rw [ByteArray.size_append]; show s.length + (1 + t.size) ≤ 1000000; omega); rintro e w2 ⟨rfl, h1, h2⟩; have HS2 := Aside0.mk h1; have HB2 := Aside0.mk (HB1.out.trans h2); clear HS1 HB1 h1 h2))
          go_roundw
          case rel => exact ⟨i + 1, s ++ 47 :: t.data.toList, by go_num, ⟨by omega⟩, ⟨by
            have : s ++ 47 :: t.data.toList = s ++ ((⟨#[47]⟩ : ByteArray) ++ t).data.toList := by simp
            rw [this]
            exact HS2.out⟩, HB2, HJ1⟩
          case measure => simp [intOf]; omega
        · rw [if_neg hb] at hj
          exact absurd hj (by simp)
      · rw [if_neg he] at hj
        simp only [Option.some.injEq, Prod.mk.injEq] at hj
        obtain ⟨rfl, rfl⟩ := hj
        have heb : (e == 0) = false := beq_eq_false_iff_ne.mpr he
        have heb2 : (e != 0) = true := bne_iff_ne.mpr he
        clear he
        go_wp2_with (first | (go_at_call 12; refine (name_Text.calls (rd l0 (i : Int)) t e _ HT.out).mono ?_; rintro e w1 ⟨rfl, hb1⟩; have HB1 := Aside0.mk (below_step HB.out hb1); clear HS HB hb1))
        go_ret2
        exact ⟨rfl, HB1.out⟩
    · have hltb : decide ((i : Int) < (l0.length : Int)) = false := decide_eq_false (by omega)
      have hj := HJ.out
      rw [List.drop_of_length_le (by omega), joinGo] at hj
      simp only [Option.some.injEq, Prod.mk.injEq] at hj
      obtain ⟨rfl, rfl⟩ := hj
      go_wp2_with (first | (go_at_call 25; refine (bldString w.heap.size w.heap.size s _ HS.out HB.out.size).mono ?_; rintro e w1 ⟨rfl, hb1⟩; have HB1 := Aside0.mk (HB.out.trans hb1); clear HS HB hb1))
      go_ret2
      exact ⟨rfl, HB1.out⟩


end Go.Proofs.YtcdgbpojcdecbaaDoor.P
