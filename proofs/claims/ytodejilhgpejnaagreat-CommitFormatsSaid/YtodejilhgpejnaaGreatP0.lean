import Derived.Test.YtodejilhgpejnaaGreatProg
import Derived.Below
import Derived.Deep.Draws
import Derived.Deep.AppendLies
import Derived.Maps.AppendAt
import Derived.OwnWalk
import Derived.Laws.BytesArg
import Derived.Laws.MakeOwn
import Derived.Laws.OwnMore
import Derived.Deep.OwnRows
import Derived.Tactics
import Derived.Lib.ConvBytes
import Derived.Laws.Slices
import Derived.WalkKit
import Derived.KernelRfl
import Derived.RowKit3
import Derived.Deep.LoopGhost
import Derived.Deep.QuietTactic
import Derived.BigQuiet
import Derived.WideLaws
import Derived.Deep.DeepCutAuto
import Derived.Deep.CutBlock
import Derived.Deep.RegionHeld3
import Derived.Laws.Rows
import Derived.Lib.AppendStr
import Derived.ArgAppend
import Derived.Laws.IdiomCopy
import Derived.OrdersHeld
import Derived.Laws.BitsLemmas
import Derived.RowKit
import Derived.IntWalk
import Derived.Test.YtodejilhgpejnaaGreatWWords
import Derived.Test.YtodejilhgpejnaaGreatWLast
import Derived.Test.YtodejilhgpejnaaGreatWTab
import Derived.Test.YtodejilhgpejnaaGreatWFour
import Derived.Test.YtodejilhgpejnaaGreatWQPut
import Derived.Test.YtodejilhgpejnaaGreatWApart
import Derived.Test.YtodejilhgpejnaaGreatWArr
import Derived.Test.YtodejilhgpejnaaGreatWZeros
import Derived.Test.YtodejilhgpejnaaGreatWFoot
import Derived.Test.YtodejilhgpejnaaGreatWKept
import Derived.Test.YtodejilhgpejnaaGreatWShare
import Derived.Test.YtodejilhgpejnaaGreatWN
import Derived.Test.YtodejilhgpejnaaGreatWFootNe
import Derived.Test.YtodejilhgpejnaaGreatWAt
import Derived.Test.YtodejilhgpejnaaGreatWEqStruct
import Derived.Test.YtodejilhgpejnaaGreatWRepsOne
import Derived.Test.YtodejilhgpejnaaGreatWInv
import Derived.Test.YtodejilhgpejnaaGreatWInvWords
import Derived.Test.YtodejilhgpejnaaGreatWGuard
import Derived.Test.YtodejilhgpejnaaGreatWNEv
import Derived.Test.YtodejilhgpejnaaGreatWMore
namespace Go.Proofs.YtodejilhgpejnaaGreat.Q
open Go.RowKit Go.Proofs.YtodejilhgpejnaaGreatW.PrintWords Go.Proofs.YtodejilhgpejnaaGreatW.PrintLast Go.Proofs.YtodejilhgpejnaaGreatW.PrintMore
attribute [local go_sem] max2_int min2_int max_two min_two max_three min_three max_four min_four
set_option linter.unusedVariables false
set_option linter.unusedSimpArgs false
theorem info_u8 : (Tryz.prog.info? 5).map (fun i => (i.zero, i.size, i.bytes)) = some (some (.int .u8 0), 1, 1) := by kernel_rfl
theorem info_str : (Tryz.prog.info? 9).map (fun i => (i.zero, i.size, i.bytes)) = some (some (.string ⟨#[]⟩), 1, 16) := by kernel_rfl
theorem ret_i {a b : Int} (h : a = b) : Ending.returned (.int .i64 a) = .returned (.int .i64 b) := by rw [h]
/-- How many blocks a book of n cells may have. -/
def areaF (n : Nat) : Nat := (1631 + 2 * n + 39) / 40
def baseF (n : Nat) : Nat := 2 + 2 * areaF n
set_option maxHeartbeats 1000000 in
theorem area_walk (n : Nat) (w : World) (hn : n ≤ 100000) : Calls Tryz.prog 58 #[.int .i64 n] w fun e w' => e = .returned (.int .i64 (areaF n : Nat)) ∧ w = w' := by
  have h1 : 0 ≤ (n : Int) := by omega
  have h2 : (n : Int) ≤ 100000 := by omega
  clear hn
  go_enter Tryz.func58, Tryz.ntmps58
  go_wp2
  go_ret
  exact ⟨ret_i (by unfold areaF; omega), rfl⟩
set_option maxHeartbeats 1000000 in
theorem base_walk (n : Nat) (w : World) (hn : n ≤ 100000) : Calls Tryz.prog 36 #[.int .i64 n] w fun e w' => e = .returned (.int .i64 (baseF n : Nat)) ∧ w = w' := by
  have ha : areaF n ≤ 10000 := by unfold areaF; omega
  have HN := Aside0.mk hn
  have h1 : 0 ≤ (areaF n : Int) := by omega
  have h2 : (areaF n : Int) ≤ 10000 := by omega
  clear hn ha
  go_enter Tryz.func36, Tryz.ntmps36
  go_wp2_with (go_at_call 58; refine (area_walk _ _ HN.out).mono ?_; rintro e w' ⟨rfl, rfl⟩)
  go_ret
  exact ⟨ret_i (by unfold baseF; omega), rfl⟩
end Go.Proofs.YtodejilhgpejnaaGreat.Q
