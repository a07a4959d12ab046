-- By wip/tools/drive.py: the kit's print, with contracts of this session's own among the functions.
import Derived.Test.YtgjjcgemelafaaaPx0
namespace Go.Proofs.Ytgjjcgemelafaaa.P
open Go.RowKit Go.Proofs.YtgjjcgemelafaaaW.PrintWords Go.Proofs.YtgjjcgemelafaaaW.PrintLast Go.Proofs.YtgjjcgemelafaaaW.PrintMore
attribute [local go_sem] max2_int min2_int max_two min_two max_three min_three max_four min_four   -- for this text's walks alone
set_option linter.unusedVariables false
set_option linter.unusedSimpArgs false
end Go.Proofs.Ytgjjcgemelafaaa.P
namespace Go.Proofs
open Go.Shelf
def Try.lays212_ren : Go.Shelf.Ren := ⟨fun | 212 => 132 | 263 => 160 | 264 => 161 | n => n, fun | 46 => 183 | 51 => 219 | 146 => 220 | 53 => 222 | 148 => 223 | n => n, fun | n => n⟩
theorem Try.lays212 : Go.Proofs.Lays.n212 Try.prog Try.lays212_ren := {
  mixed := by kernel_rfl
  f212 := Try.func132.trans (congrArg some (by kernel_rfl))
  f263 := Try.func160.trans (congrArg some (by kernel_rfl))
  f264 := Try.func161.trans (congrArg some (by kernel_rfl))
  t46 := Try.underlying183
  a46 := Try.isAgg183
  z46 := Try.sizeOf183
  v46 := Try.zeroValue183
  t51 := Try.underlying219
  a51 := Try.isAgg219
  z51 := Try.sizeOf219
  v51 := Try.zeroValue219
  t53 := Try.underlying222
  a53 := Try.isAgg222
  z53 := Try.sizeOf222
  v53 := Try.zeroValue222
  t146 := Try.underlying220
  a146 := Try.isAgg220
  z146 := Try.sizeOf220
  v146 := Try.zeroValue220
  t148 := Try.underlying223
  a148 := Try.isAgg223
  z148 := Try.sizeOf223
  v148 := Try.zeroValue223 }
open Go.RowKit Go.Lib in
/-- math/bits.Mul: "Mul returns the full-width product of x and y": on a machine of 64 bits: Mul64's. (LAID: no walk: one application.) -/
theorem Try.bits_Mul (x y : Nat) (hx : x < 18446744073709551616) (hy : y < 18446744073709551616) (w : World) :
    Calls Try.prog 132 #[.int .u64 x, .int .u64 y] w fun e w' => e = .returned (.tuple #[.int .u64 ((x * y / 18446744073709551616 : Nat) : Int), .int .u64 ((x * y % 18446744073709551616 : Nat) : Int)]) ∧ w' = w := Any.bits_Mul Try.lays212 x y hx hy w
def Try.lays105_ren : Go.Shelf.Ren := ⟨fun | 105 => 82 | 212 => 132 | 99 => 133 | 165 => 134 | 166 => 135 | 170 => 136 | 169 => 137 | 263 => 160 | 264 => 161 | 206 => 162 | 240 => 163 | 241 => 164 | 276 => 172 | 277 => 173 | n => n, fun | 9 => 9 | 3 => 3 | 4 => 4 | 20 => 20 | 0 => 0 | 46 => 183 | 109 => 184 | 5 => 5 | 72 => 189 | 76 => 192 | 51 => 219 | 146 => 220 | 53 => 222 | 148 => 223 | 70 => 187 | 37 => 136 | 75 => 191 | 127 => 225 | 164 => 230 | 80 => 195 | n => n, fun | n => n⟩
theorem Try.lays105 : Go.Proofs.Lays.n105 Try.prog Try.lays105_ren := {
  mixed := by kernel_rfl
  f99 := Try.func133.trans (congrArg some (by kernel_rfl))
  f105 := Try.func82.trans (congrArg some (by kernel_rfl))
  f165 := Try.func134.trans (congrArg some (by kernel_rfl))
  f166 := Try.func135.trans (congrArg some (by kernel_rfl))
  f169 := Try.func137.trans (congrArg some (by kernel_rfl))
  f170 := Try.func136.trans (congrArg some (by kernel_rfl))
  f206 := Try.func162.trans (congrArg some (by kernel_rfl))
  f212 := Try.func132.trans (congrArg some (by kernel_rfl))
  f240 := Try.func163.trans (congrArg some (by kernel_rfl))
  f241 := Try.func164.trans (congrArg some (by kernel_rfl))
  f263 := Try.func160.trans (congrArg some (by kernel_rfl))
  f264 := Try.func161.trans (congrArg some (by kernel_rfl))
  f276 := Try.func172.trans (congrArg some (by kernel_rfl))
  f277 := Try.func173.trans (congrArg some (by kernel_rfl))
  t0 := Try.underlying0
  a0 := Try.isAgg0
  z0 := Try.sizeOf0
  v0 := Try.zeroValue0
  t3 := Try.underlying3
  a3 := Try.isAgg3
  z3 := Try.sizeOf3
  v3 := Try.zeroValue3
  t4 := Try.underlying4
  a4 := Try.isAgg4
  z4 := Try.sizeOf4
  v4 := Try.zeroValue4
  t5 := Try.underlying5
  a5 := Try.isAgg5
  z5 := Try.sizeOf5
  v5 := Try.zeroValue5
  t9 := Try.underlying9
  a9 := Try.isAgg9
  z9 := Try.sizeOf9
  v9 := Try.zeroValue9
  t20 := Try.underlying20
  a20 := Try.isAgg20
  z20 := Try.sizeOf20
  v20 := Try.zeroValue20
  t37 := Try.underlying136
  a37 := Try.isAgg136
  z37 := Try.sizeOf136
  v37 := Try.zeroValue136
  t46 := Try.underlying183
  a46 := Try.isAgg183
  z46 := Try.sizeOf183
  v46 := Try.zeroValue183
  t51 := Try.underlying219
  a51 := Try.isAgg219
  z51 := Try.sizeOf219
  v51 := Try.zeroValue219
  t53 := Try.underlying222
  a53 := Try.isAgg222
  z53 := Try.sizeOf222
  v53 := Try.zeroValue222
  t70 := Try.underlying187
  a70 := Try.isAgg187
  z70 := Try.sizeOf187
  v70 := Try.zeroValue187
  t72 := Try.underlying189
  a72 := Try.isAgg189
  z72 := Try.sizeOf189
  v72 := Try.zeroValue189
  t75 := Try.underlying191
  a75 := Try.isAgg191
  z75 := Try.sizeOf191
  v75 := Try.zeroValue191
  t76 := Try.underlying192
  a76 := Try.isAgg192
  z76 := Try.sizeOf192
  v76 := Try.zeroValue192
  t109 := Try.underlying184
  a109 := Try.isAgg184
  z109 := Try.sizeOf184
  v109 := Try.zeroValue184
  t127 := Try.underlying225
  a127 := Try.isAgg225
  z127 := Try.sizeOf225
  v127 := Try.zeroValue225
  t146 := Try.underlying220
  a146 := Try.isAgg220
  z146 := Try.sizeOf220
  v146 := Try.zeroValue220
  t148 := Try.underlying223
  a148 := Try.isAgg223
  z148 := Try.sizeOf223
  v148 := Try.zeroValue223
  t164 := Try.underlying230
  a164 := Try.isAgg230
  z164 := Try.sizeOf230
  v164 := Try.zeroValue230 }
theorem Try.Builder_Extra_105 : Builder.Extra Try.prog Try.lays105_ren := {
  sizeBuilder := by kernel_rfl
  liesBuilder := by kernel_rfl
  t5 := Try.underlying5
  a5 := Try.isAgg5
  z5 := Try.sizeOf5
  v5 := Try.zeroValue5
  infoByte := by kernel_rfl
  cellsByte := by kernel_rfl
  sizeByte := by kernel_rfl
  neB5 := by decide }
open Go.RowKit Go.Lib in
/-- **strings.Repeat: count ≥ 0, the result within one allocation: count copies of s.** (LAID: no walk: one application.) -/
theorem Try.strings_Repeat (s : ByteArray) (c : Nat) (w : World) (hc : c ≤ 9223372036854775807) (hlen : s.size * c ≤ 140737488355328) :
    Calls Try.prog 82 #[.string s, .int .i64 c] w fun e w' => e = .returned (.string ⟨(Lib.repeatL s.data.toList c).toArray⟩) ∧ Below w.heap.size w w' := Any.strings_Repeat Try.lays105 Try.Builder_Extra_105 s c w hc hlen
end Go.Proofs
namespace Go.Proofs.Ytgjjcgemelafaaa.P
end Go.Proofs.Ytgjjcgemelafaaa.P
