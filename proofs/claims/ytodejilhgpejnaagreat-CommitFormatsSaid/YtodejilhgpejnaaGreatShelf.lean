
import Derived.Shelf.Strings.Builder1
import Derived.Shelf.Strings.Builder2
import Derived.Shelf.Strings.BuilderF
import Derived.Shelf.Strings.Prefix
import Derived.Shelf.Bits.Mul64
import Derived.Shelf.Strings.Repeat
import Derived.Test.YtodejilhgpejnaaGreatProg
namespace Go.Proofs
open Go.Shelf
def Tryz.lays212_ren : Go.Shelf.Ren := ⟨fun | 212 => 52 | 263 => 85 | 264 => 86 | n => n, fun | 46 => 117 | 51 => 154 | 146 => 155 | 53 => 157 | 148 => 158 | n => n, fun | n => n⟩
theorem Tryz.lays212 : Go.Proofs.Lays.n212 Tryz.prog Tryz.lays212_ren := {
  mixed := by kernel_rfl
  f212 := Tryz.func52.trans (congrArg some (by kernel_rfl))
  f263 := Tryz.func85.trans (congrArg some (by kernel_rfl))
  f264 := Tryz.func86.trans (congrArg some (by kernel_rfl))
  t46 := Tryz.underlying117
  a46 := Tryz.isAgg117
  z46 := Tryz.sizeOf117
  v46 := Tryz.zeroValue117
  t51 := Tryz.underlying154
  a51 := Tryz.isAgg154
  z51 := Tryz.sizeOf154
  v51 := Tryz.zeroValue154
  t53 := Tryz.underlying157
  a53 := Tryz.isAgg157
  z53 := Tryz.sizeOf157
  v53 := Tryz.zeroValue157
  t146 := Tryz.underlying155
  a146 := Tryz.isAgg155
  z146 := Tryz.sizeOf155
  v146 := Tryz.zeroValue155
  t148 := Tryz.underlying158
  a148 := Tryz.isAgg158
  z148 := Tryz.sizeOf158
  v148 := Tryz.zeroValue158 }
open Go.RowKit Go.Lib in
/-- math/bits.Mul: "Mul returns the full-width product of x and y": on a machine of 64 bits: Mul64's. (LAID: no walk: one application.) -/
theorem Tryz.bits_Mul (x y : Nat) (hx : x < 18446744073709551616) (hy : y < 18446744073709551616) (w : World) :
    Calls Tryz.prog 52 #[.int .u64 x, .int .u64 y] w fun e w' => e = .returned (.tuple #[.int .u64 ((x * y / 18446744073709551616 : Nat) : Int), .int .u64 ((x * y % 18446744073709551616 : Nat) : Int)]) ∧ w' = w := Any.bits_Mul Tryz.lays212 x y hx hy w
def Tryz.lays105_ren : Go.Shelf.Ren := ⟨fun | 105 => 32 | 212 => 52 | 99 => 53 | 165 => 54 | 166 => 55 | 170 => 56 | 169 => 57 | 263 => 85 | 264 => 86 | 206 => 87 | 240 => 88 | 241 => 89 | 276 => 107 | 277 => 108 | n => n, fun | 9 => 9 | 3 => 3 | 4 => 4 | 20 => 20 | 0 => 0 | 46 => 117 | 109 => 118 | 5 => 5 | 72 => 123 | 76 => 127 | 51 => 154 | 146 => 155 | 53 => 157 | 148 => 158 | 70 => 121 | 37 => 83 | 75 => 126 | 127 => 160 | 164 => 177 | 80 => 130 | n => n, fun | n => n⟩
theorem Tryz.lays105 : Go.Proofs.Lays.n105 Tryz.prog Tryz.lays105_ren := {
  mixed := by kernel_rfl
  f99 := Tryz.func53.trans (congrArg some (by kernel_rfl))
  f105 := Tryz.func32.trans (congrArg some (by kernel_rfl))
  f165 := Tryz.func54.trans (congrArg some (by kernel_rfl))
  f166 := Tryz.func55.trans (congrArg some (by kernel_rfl))
  f169 := Tryz.func57.trans (congrArg some (by kernel_rfl))
  f170 := Tryz.func56.trans (congrArg some (by kernel_rfl))
  f206 := Tryz.func87.trans (congrArg some (by kernel_rfl))
  f212 := Tryz.func52.trans (congrArg some (by kernel_rfl))
  f240 := Tryz.func88.trans (congrArg some (by kernel_rfl))
  f241 := Tryz.func89.trans (congrArg some (by kernel_rfl))
  f263 := Tryz.func85.trans (congrArg some (by kernel_rfl))
  f264 := Tryz.func86.trans (congrArg some (by kernel_rfl))
  f276 := Tryz.func107.trans (congrArg some (by kernel_rfl))
  f277 := Tryz.func108.trans (congrArg some (by kernel_rfl))
  t0 := Tryz.underlying0
  a0 := Tryz.isAgg0
  z0 := Tryz.sizeOf0
  v0 := Tryz.zeroValue0
  t3 := Tryz.underlying3
  a3 := Tryz.isAgg3
  z3 := Tryz.sizeOf3
  v3 := Tryz.zeroValue3
  t4 := Tryz.underlying4
  a4 := Tryz.isAgg4
  z4 := Tryz.sizeOf4
  v4 := Tryz.zeroValue4
  t5 := Tryz.underlying5
  a5 := Tryz.isAgg5
  z5 := Tryz.sizeOf5
  v5 := Tryz.zeroValue5
  t9 := Tryz.underlying9
  a9 := Tryz.isAgg9
  z9 := Tryz.sizeOf9
  v9 := Tryz.zeroValue9
  t20 := Tryz.underlying20
  a20 := Tryz.isAgg20
  z20 := Tryz.sizeOf20
  v20 := Tryz.zeroValue20
  t37 := Tryz.underlying83
  a37 := Tryz.isAgg83
  z37 := Tryz.sizeOf83
  v37 := Tryz.zeroValue83
  t46 := Tryz.underlying117
  a46 := Tryz.isAgg117
  z46 := Tryz.sizeOf117
  v46 := Tryz.zeroValue117
  t51 := Tryz.underlying154
  a51 := Tryz.isAgg154
  z51 := Tryz.sizeOf154
  v51 := Tryz.zeroValue154
  t53 := Tryz.underlying157
  a53 := Tryz.isAgg157
  z53 := Tryz.sizeOf157
  v53 := Tryz.zeroValue157
  t70 := Tryz.underlying121
  a70 := Tryz.isAgg121
  z70 := Tryz.sizeOf121
  v70 := Tryz.zeroValue121
  t72 := Tryz.underlying123
  a72 := Tryz.isAgg123
  z72 := Tryz.sizeOf123
  v72 := Tryz.zeroValue123
  t75 := Tryz.underlying126
  a75 := Tryz.isAgg126
  z75 := Tryz.sizeOf126
  v75 := Tryz.zeroValue126
  t76 := Tryz.underlying127
  a76 := Tryz.isAgg127
  z76 := Tryz.sizeOf127
  v76 := Tryz.zeroValue127
  t109 := Tryz.underlying118
  a109 := Tryz.isAgg118
  z109 := Tryz.sizeOf118
  v109 := Tryz.zeroValue118
  t127 := Tryz.underlying160
  a127 := Tryz.isAgg160
  z127 := Tryz.sizeOf160
  v127 := Tryz.zeroValue160
  t146 := Tryz.underlying155
  a146 := Tryz.isAgg155
  z146 := Tryz.sizeOf155
  v146 := Tryz.zeroValue155
  t148 := Tryz.underlying158
  a148 := Tryz.isAgg158
  z148 := Tryz.sizeOf158
  v148 := Tryz.zeroValue158
  t164 := Tryz.underlying177
  a164 := Tryz.isAgg177
  z164 := Tryz.sizeOf177
  v164 := Tryz.zeroValue177 }
theorem Tryz.Builder_Extra_105 : Builder.Extra Tryz.prog Tryz.lays105_ren := {
  sizeBuilder := by kernel_rfl
  liesBuilder := by kernel_rfl
  t5 := Tryz.underlying5
  a5 := Tryz.isAgg5
  z5 := Tryz.sizeOf5
  v5 := Tryz.zeroValue5
  infoByte := by kernel_rfl
  cellsByte := by kernel_rfl
  sizeByte := by kernel_rfl
  neB5 := by decide }
open Go.RowKit Go.Lib in
/-- **strings.Repeat: count ≥ 0, the result within one allocation: count copies of s.** (LAID: no walk: one application.) -/
theorem Tryz.strings_Repeat (s : ByteArray) (c : Nat) (w : World) (hc : c ≤ 9223372036854775807) (hlen : s.size * c ≤ 140737488355328) :
    Calls Tryz.prog 32 #[.string s, .int .i64 c] w fun e w' => e = .returned (.string ⟨(Lib.repeatL s.data.toList c).toArray⟩) ∧ Below w.heap.size w w' := Any.strings_Repeat Tryz.lays105 Tryz.Builder_Extra_105 s c w hc hlen
end Go.Proofs
