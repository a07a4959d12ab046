/-
  No cell of these rows narrows 'for every input' (looked for: loops, veiled, ifaces, maps, wideKeys, modest, calm, conditions, laid).
  DERIVED. THE GIVEN ROWS OF THIS SEAT. 3 by the template 'for every input the law returns true; each argument reads behind the call as it read before'; 0 by the template 'total and deterministic' (their statements: YtdhbdomjlggfgaaTotals.lean).
  GIVEN WITH THE SEED: the statements are not yours to turn. If you find one false, say at which input.
  Laid BY PROGRAM, IN A SANDBOX (cutbox-rows.mjs): the forced cells as the released guide's own fill.sh prints them over the translation c60c4fd05f0b4874… (all of the seat's roots in one cut). By AI agents, Wed Nov 11 2026. No macro, syntax, notation, axiom, sorry.
-/
import Derived.Test.YtdhbdomjlggfgaaChecked
import GoSem.Claim
import GoSem.ClaimJoined
import GoSem.ClaimMapViews
import Derived.JoinedTies
import Derived.KernelRfl
namespace Go.Proofs.Ytdhbdomjlggfgaa
/- THE CELL 'sum', in the pinned program and in every row, IS THE sha256 OF THE DUMP (.gsa) THAT YtdhbdomjlggfgaaProg.lean LOADS. Nothing in Lean hashes anything: it is a label: what it is worth is what the hold of that sum in a sandbox is worth. -/
noncomputable def Try.pinned : Pinned := { name := "ytdhbdomjlggfgaa", sum := "c60c4fd05f0b487416577c954af610364a74ac70c4e91514b34da09a8fe130f9", checked := Try.checked }
namespace Rows
def none {H : Type} : Left H := { results := [], args := [] }

/-- 'assartlaw14.PlanTells': WHATEVER THE INPUT: true; the input reads as it did. -/
def planTellsSpec : ChangeSpec := { name := "planTells", fn := fun _ => fun
  | [d1, d2, d3] => { results := [.lit (.bool true)], args := [d1, d2, d3] }
  | _ => none }
def planTellsRow : OpenClaim := { program := "ytdhbdomjlggfgaa", sum := "c60c4fd05f0b487416577c954af610364a74ac70c4e91514b34da09a8fe130f9", func := "assart/assartlaw14.PlanTells", spec := "planTells", inPlace := ["internal/abi.NoEscape", "internal/bytealg.MakeNoZero"], unfollowed := true, recurses := true, apart := false }
def PlanTellsSaid : Prop := planTellsRow.holds Try.pinned (OpenSpec.ofChange planTellsSpec)

/-- ITS FALSE NEIGHBOUR: 'it returns false'. Refute it at one input. -/
def planTellsWrong : ChangeSpec := { name := "planTells", fn := fun _ => fun
  | [d1, d2, d3] => { results := [.lit (.bool false)], args := [d1, d2, d3] }
  | _ => none }
def PlanTellsWrongFalsely : Prop := planTellsRow.holds Try.pinned (OpenSpec.ofChange planTellsWrong)

/-- 'assartlaw14.PlanRoom': WHATEVER THE INPUT: true; the input reads as it did. -/
def planRoomSpec : ChangeSpec := { name := "planRoom", fn := fun _ => fun
  | [d1, d2] => { results := [.lit (.bool true)], args := [d1, d2] }
  | _ => none }
def planRoomRow : OpenClaim := { program := "ytdhbdomjlggfgaa", sum := "c60c4fd05f0b487416577c954af610364a74ac70c4e91514b34da09a8fe130f9", func := "assart/assartlaw14.PlanRoom", spec := "planRoom", inPlace := ["internal/abi.NoEscape", "internal/bytealg.MakeNoZero"], unfollowed := true, recurses := true, apart := false }
def PlanRoomSaid : Prop := planRoomRow.holds Try.pinned (OpenSpec.ofChange planRoomSpec)

/-- ITS FALSE NEIGHBOUR: 'it returns false'. Refute it at one input. -/
def planRoomWrong : ChangeSpec := { name := "planRoom", fn := fun _ => fun
  | [d1, d2] => { results := [.lit (.bool false)], args := [d1, d2] }
  | _ => none }
def PlanRoomWrongFalsely : Prop := planRoomRow.holds Try.pinned (OpenSpec.ofChange planRoomWrong)

/-- 'assartlaw14.PlanChunks': WHATEVER THE INPUT: true; the input reads as it did. -/
def planChunksSpec : ChangeSpec := { name := "planChunks", fn := fun _ => fun
  | [d] => { results := [.lit (.bool true)], args := [d] }
  | _ => none }
def planChunksRow : OpenClaim := { program := "ytdhbdomjlggfgaa", sum := "c60c4fd05f0b487416577c954af610364a74ac70c4e91514b34da09a8fe130f9", func := "assart/assartlaw14.PlanChunks", spec := "planChunks", inPlace := ["internal/abi.NoEscape", "internal/bytealg.MakeNoZero"], unfollowed := true, recurses := true, apart := false }
def PlanChunksSaid : Prop := planChunksRow.holds Try.pinned (OpenSpec.ofChange planChunksSpec)

/-- ITS FALSE NEIGHBOUR: 'it returns false'. Refute it at one input. -/
def planChunksWrong : ChangeSpec := { name := "planChunks", fn := fun _ => fun
  | [d] => { results := [.lit (.bool false)], args := [d] }
  | _ => none }
def PlanChunksWrongFalsely : Prop := planChunksRow.holds Try.pinned (OpenSpec.ofChange planChunksWrong)

/- THE SECOND FORM. 'bulk': how many values and letters a reading holds, each counted each time it is reached (what is shared counts as often as it is met; a slice's spare places count too). A statement '..UptoSaid' is the law's where the arguments, and the package variables that the reading takes, are together of bulk at most 1048576: NARROWER than '..Said'. Prove '..Said' where nothing that the law and all that it calls make is longer than what came in: it says more and counts as full. Else prove '..UptoSaid'. A law counts once. -/
mutual
def uptoBulk {H : Type} : DataW H → Nat
  | .lit (.string bytes) => bytes.length + 1
  | .lit _ => 1
  | .nil => 1
  | .ptr d => uptoBulk d + 1
  | .slice elems spare => uptoBulkAll elems + uptoBulkAll spare + 1
  | .agg parts => uptoBulkAll parts + 1
  | .iface _ d => uptoBulk d + 1
  | .map entries => uptoBulkEntries entries + 1
  | .held _ => 1
def uptoBulkAll {H : Type} : List (DataW H) → Nat
  | [] => 0
  | d :: r => uptoBulk d + uptoBulkAll r
def uptoBulkEntries {H : Type} : List (Lit × DataW H) → Nat
  | [] => 0
  | x :: r => uptoBulkEntry x + uptoBulkEntries r
def uptoBulkEntry {H : Type} : Lit × DataW H → Nat
  | (.string bytes, d) => bytes.length + uptoBulk d + 1
  | (_, d) => uptoBulk d + 1
 end
def uptoSmall : (H : Type) → List (DataW H) → Bool := fun _ ds => decide (uptoBulkAll ds ≤ 1048576)
def OpenSpec.upto (s : _root_.Go.ChangeSpec) : _root_.Go.OpenSpec := { _root_.Go.OpenSpec.ofChange s with cond := some uptoSmall }

/-- 'assartlaw14.PlanTells', WHERE WHAT IT READS IS OF BULK AT MOST 1048576: true; the input reads as it did. -/
def planTellsUptoRow : OpenClaim := { program := "ytdhbdomjlggfgaa", sum := "c60c4fd05f0b487416577c954af610364a74ac70c4e91514b34da09a8fe130f9", func := "assart/assartlaw14.PlanTells", spec := "planTells", inPlace := ["internal/abi.NoEscape", "internal/bytealg.MakeNoZero"], unfollowed := true, recurses := true, apart := false, narrowed := true }
def PlanTellsUptoSaid : Prop := planTellsUptoRow.holds Try.pinned (OpenSpec.upto planTellsSpec)

/-- 'assartlaw14.PlanRoom', WHERE WHAT IT READS IS OF BULK AT MOST 1048576: true; the input reads as it did. -/
def planRoomUptoRow : OpenClaim := { program := "ytdhbdomjlggfgaa", sum := "c60c4fd05f0b487416577c954af610364a74ac70c4e91514b34da09a8fe130f9", func := "assart/assartlaw14.PlanRoom", spec := "planRoom", inPlace := ["internal/abi.NoEscape", "internal/bytealg.MakeNoZero"], unfollowed := true, recurses := true, apart := false, narrowed := true }
def PlanRoomUptoSaid : Prop := planRoomUptoRow.holds Try.pinned (OpenSpec.upto planRoomSpec)

/-- 'assartlaw14.PlanChunks', WHERE WHAT IT READS IS OF BULK AT MOST 1048576: true; the input reads as it did. -/
def planChunksUptoRow : OpenClaim := { program := "ytdhbdomjlggfgaa", sum := "c60c4fd05f0b487416577c954af610364a74ac70c4e91514b34da09a8fe130f9", func := "assart/assartlaw14.PlanChunks", spec := "planChunks", inPlace := ["internal/abi.NoEscape", "internal/bytealg.MakeNoZero"], unfollowed := true, recurses := true, apart := false, narrowed := true }
def PlanChunksUptoSaid : Prop := planChunksUptoRow.holds Try.pinned (OpenSpec.upto planChunksSpec)

end Rows
end Go.Proofs.Ytdhbdomjlggfgaa
