/-
  No cell of these rows narrows 'for every input' (looked for: loops, veiled, ifaces, maps, wideKeys, modest, calm, conditions, laid).
  DERIVED. THE GIVEN ROWS OF THIS SEAT. 8 by the template 'for every input the law returns true; each argument reads behind the call as it read before'; 0 by the template 'total and deterministic' (their statements: YtopkoganfnabgaaTotals.lean).
  GIVEN WITH THE SEED: the statements are not yours to turn. If you find one false, say at which input.
  Laid BY PROGRAM, IN A SANDBOX (cutbox-rows.mjs): the forced cells as the released guide's own fill.sh prints them over the translation 610280e2701dda0b… (all of the seat's roots in one cut). By AI agents, Wed Nov 11 2026. No macro, syntax, notation, axiom, sorry.
-/
import Derived.Test.YtopkoganfnabgaaChecked
import GoSem.Claim
import GoSem.ClaimJoined
import GoSem.ClaimMapViews
import Derived.JoinedTies
import Derived.KernelRfl
namespace Go.Proofs.Ytopkoganfnabgaa
/- THE CELL 'sum', in the pinned program and in every row, IS THE sha256 OF THE DUMP (.gsa) THAT YtopkoganfnabgaaProg.lean LOADS. Nothing in Lean hashes anything: it is a label: what it is worth is what the hold of that sum in a sandbox is worth. -/
noncomputable def Try.pinned : Pinned := { name := "ytopkoganfnabgaa", sum := "610280e2701dda0b9104c702761c5b363c40bb5804452d7a0501512c4a14e7d1", checked := Try.checked }
namespace Rows
def none {H : Type} : Left H := { results := [], args := [] }

/-- 'assartlaw09.GrowTells': WHATEVER THE INPUT: true; the input reads as it did. -/
def growTellsSpec : ChangeSpec := { name := "growTells", fn := fun _ => fun
  | [d] => { results := [.lit (.bool true)], args := [d] }
  | _ => none }
def growTellsRow : OpenClaim := { program := "ytopkoganfnabgaa", sum := "610280e2701dda0b9104c702761c5b363c40bb5804452d7a0501512c4a14e7d1", func := "assart/assartlaw09.GrowTells", spec := "growTells", unfollowed := true, recurses := true, apart := false }
def GrowTellsSaid : Prop := growTellsRow.holds Try.pinned (OpenSpec.ofChange growTellsSpec)

/-- ITS FALSE NEIGHBOUR: 'it returns false'. Refute it at one input. -/
def growTellsWrong : ChangeSpec := { name := "growTells", fn := fun _ => fun
  | [d] => { results := [.lit (.bool false)], args := [d] }
  | _ => none }
def GrowTellsWrongFalsely : Prop := growTellsRow.holds Try.pinned (OpenSpec.ofChange growTellsWrong)

/-- 'assartlaw09.GrowRoom': WHATEVER THE INPUT: true; the input reads as it did. -/
def growRoomSpec : ChangeSpec := { name := "growRoom", fn := fun _ => fun
  | [d] => { results := [.lit (.bool true)], args := [d] }
  | _ => none }
def growRoomRow : OpenClaim := { program := "ytopkoganfnabgaa", sum := "610280e2701dda0b9104c702761c5b363c40bb5804452d7a0501512c4a14e7d1", func := "assart/assartlaw09.GrowRoom", spec := "growRoom", unfollowed := true, recurses := true, apart := false }
def GrowRoomSaid : Prop := growRoomRow.holds Try.pinned (OpenSpec.ofChange growRoomSpec)

/-- ITS FALSE NEIGHBOUR: 'it returns false'. Refute it at one input. -/
def growRoomWrong : ChangeSpec := { name := "growRoom", fn := fun _ => fun
  | [d] => { results := [.lit (.bool false)], args := [d] }
  | _ => none }
def GrowRoomWrongFalsely : Prop := growRoomRow.holds Try.pinned (OpenSpec.ofChange growRoomWrong)

/-- 'assartlaw09.GrowTwice': WHATEVER THE INPUT: true; the input reads as it did. -/
def growTwiceSpec : ChangeSpec := { name := "growTwice", fn := fun _ => fun
  | [d] => { results := [.lit (.bool true)], args := [d] }
  | _ => none }
def growTwiceRow : OpenClaim := { program := "ytopkoganfnabgaa", sum := "610280e2701dda0b9104c702761c5b363c40bb5804452d7a0501512c4a14e7d1", func := "assart/assartlaw09.GrowTwice", spec := "growTwice", unfollowed := true, recurses := true, apart := false }
def GrowTwiceSaid : Prop := growTwiceRow.holds Try.pinned (OpenSpec.ofChange growTwiceSpec)

/-- ITS FALSE NEIGHBOUR: 'it returns false'. Refute it at one input. -/
def growTwiceWrong : ChangeSpec := { name := "growTwice", fn := fun _ => fun
  | [d] => { results := [.lit (.bool false)], args := [d] }
  | _ => none }
def GrowTwiceWrongFalsely : Prop := growTwiceRow.holds Try.pinned (OpenSpec.ofChange growTwiceWrong)

/-- 'assartlaw09.GrowFills': WHATEVER THE INPUT: true; the input reads as it did. -/
def growFillsSpec : ChangeSpec := { name := "growFills", fn := fun _ => fun
  | [d1, d2, d3] => { results := [.lit (.bool true)], args := [d1, d2, d3] }
  | _ => none }
def growFillsRow : OpenClaim := { program := "ytopkoganfnabgaa", sum := "610280e2701dda0b9104c702761c5b363c40bb5804452d7a0501512c4a14e7d1", func := "assart/assartlaw09.GrowFills", spec := "growFills", unfollowed := true, recurses := true, apart := false }
def GrowFillsSaid : Prop := growFillsRow.holds Try.pinned (OpenSpec.ofChange growFillsSpec)

/-- ITS FALSE NEIGHBOUR: 'it returns false'. Refute it at one input. -/
def growFillsWrong : ChangeSpec := { name := "growFills", fn := fun _ => fun
  | [d1, d2, d3] => { results := [.lit (.bool false)], args := [d1, d2, d3] }
  | _ => none }
def GrowFillsWrongFalsely : Prop := growFillsRow.holds Try.pinned (OpenSpec.ofChange growFillsWrong)

/-- 'assartlaw10.PruneTells': WHATEVER THE INPUT: true; the input reads as it did. -/
def pruneTellsSpec : ChangeSpec := { name := "pruneTells", fn := fun _ => fun
  | [d] => { results := [.lit (.bool true)], args := [d] }
  | _ => none }
def pruneTellsRow : OpenClaim := { program := "ytopkoganfnabgaa", sum := "610280e2701dda0b9104c702761c5b363c40bb5804452d7a0501512c4a14e7d1", func := "assart/assartlaw10.PruneTells", spec := "pruneTells", unfollowed := true, recurses := true, apart := false }
def PruneTellsSaid : Prop := pruneTellsRow.holds Try.pinned (OpenSpec.ofChange pruneTellsSpec)

/-- ITS FALSE NEIGHBOUR: 'it returns false'. Refute it at one input. -/
def pruneTellsWrong : ChangeSpec := { name := "pruneTells", fn := fun _ => fun
  | [d] => { results := [.lit (.bool false)], args := [d] }
  | _ => none }
def PruneTellsWrongFalsely : Prop := pruneTellsRow.holds Try.pinned (OpenSpec.ofChange pruneTellsWrong)

/-- 'assartlaw10.PruneRoom': WHATEVER THE INPUT: true; the input reads as it did. -/
def pruneRoomSpec : ChangeSpec := { name := "pruneRoom", fn := fun _ => fun
  | [d1, d2, d3] => { results := [.lit (.bool true)], args := [d1, d2, d3] }
  | _ => none }
def pruneRoomRow : OpenClaim := { program := "ytopkoganfnabgaa", sum := "610280e2701dda0b9104c702761c5b363c40bb5804452d7a0501512c4a14e7d1", func := "assart/assartlaw10.PruneRoom", spec := "pruneRoom", unfollowed := true, recurses := true, apart := false }
def PruneRoomSaid : Prop := pruneRoomRow.holds Try.pinned (OpenSpec.ofChange pruneRoomSpec)

/-- ITS FALSE NEIGHBOUR: 'it returns false'. Refute it at one input. -/
def pruneRoomWrong : ChangeSpec := { name := "pruneRoom", fn := fun _ => fun
  | [d1, d2, d3] => { results := [.lit (.bool false)], args := [d1, d2, d3] }
  | _ => none }
def PruneRoomWrongFalsely : Prop := pruneRoomRow.holds Try.pinned (OpenSpec.ofChange pruneRoomWrong)

/-- 'assartlaw10.PruneCuts': WHATEVER THE INPUT: true; the input reads as it did. -/
def pruneCutsSpec : ChangeSpec := { name := "pruneCuts", fn := fun _ => fun
  | [d] => { results := [.lit (.bool true)], args := [d] }
  | _ => none }
def pruneCutsRow : OpenClaim := { program := "ytopkoganfnabgaa", sum := "610280e2701dda0b9104c702761c5b363c40bb5804452d7a0501512c4a14e7d1", func := "assart/assartlaw10.PruneCuts", spec := "pruneCuts", unfollowed := true, recurses := true, apart := false }
def PruneCutsSaid : Prop := pruneCutsRow.holds Try.pinned (OpenSpec.ofChange pruneCutsSpec)

/-- ITS FALSE NEIGHBOUR: 'it returns false'. Refute it at one input. -/
def pruneCutsWrong : ChangeSpec := { name := "pruneCuts", fn := fun _ => fun
  | [d] => { results := [.lit (.bool false)], args := [d] }
  | _ => none }
def PruneCutsWrongFalsely : Prop := pruneCutsRow.holds Try.pinned (OpenSpec.ofChange pruneCutsWrong)

/-- 'assartlaw10.PruneBack': WHATEVER THE INPUT: true; the input reads as it did. -/
def pruneBackSpec : ChangeSpec := { name := "pruneBack", fn := fun _ => fun
  | [d1, d2, d3] => { results := [.lit (.bool true)], args := [d1, d2, d3] }
  | _ => none }
def pruneBackRow : OpenClaim := { program := "ytopkoganfnabgaa", sum := "610280e2701dda0b9104c702761c5b363c40bb5804452d7a0501512c4a14e7d1", func := "assart/assartlaw10.PruneBack", spec := "pruneBack", unfollowed := true, recurses := true, apart := false }
def PruneBackSaid : Prop := pruneBackRow.holds Try.pinned (OpenSpec.ofChange pruneBackSpec)

/-- ITS FALSE NEIGHBOUR: 'it returns false'. Refute it at one input. -/
def pruneBackWrong : ChangeSpec := { name := "pruneBack", fn := fun _ => fun
  | [d1, d2, d3] => { results := [.lit (.bool false)], args := [d1, d2, d3] }
  | _ => none }
def PruneBackWrongFalsely : Prop := pruneBackRow.holds Try.pinned (OpenSpec.ofChange pruneBackWrong)

/- THE SECOND FORM. 'bulk': how many values and letters a reading holds, each counted each time it is reached (what is shared counts as often as it is met; a slice's spare places count too). A statement '..UptoSaid' is the law's where the arguments, and the package variables that the reading takes, are together of bulk at most 1048576: NARROWER than '..Said'. Prove '..Said' where nothing that the law and all that it calls make is longer than what came in: it says more and counts as full. Else prove '..UptoSaid'. A law counts once. -/
mutual
def uptoBulk {H : Type} : DataW H → Nat
  | .lit (.string bytes) => bytes.length + 1
  | .lit _ => 1
  | .nil => 1
  | .ptr d => uptoBulk d + 1
  | .slice elems spare => uptoBulkAll elems + uptoBulkAll spare + 1
  | .agg parts => uptoBulkAll parts + 1
  | .iface _ d => uptoBulk d + 1
  | .map entries => uptoBulkEntries entries + 1
  | .held _ => 1
def uptoBulkAll {H : Type} : List (DataW H) → Nat
  | [] => 0
  | d :: r => uptoBulk d + uptoBulkAll r
def uptoBulkEntries {H : Type} : List (Lit × DataW H) → Nat
  | [] => 0
  | x :: r => uptoBulkEntry x + uptoBulkEntries r
def uptoBulkEntry {H : Type} : Lit × DataW H → Nat
  | (.string bytes, d) => bytes.length + uptoBulk d + 1
  | (_, d) => uptoBulk d + 1
 end
def uptoSmall : (H : Type) → List (DataW H) → Bool := fun _ ds => decide (uptoBulkAll ds ≤ 1048576)
def OpenSpec.upto (s : _root_.Go.ChangeSpec) : _root_.Go.OpenSpec := { _root_.Go.OpenSpec.ofChange s with cond := some uptoSmall }

/-- 'assartlaw09.GrowTells', WHERE WHAT IT READS IS OF BULK AT MOST 1048576: true; the input reads as it did. -/
def growTellsUptoRow : OpenClaim := { program := "ytopkoganfnabgaa", sum := "610280e2701dda0b9104c702761c5b363c40bb5804452d7a0501512c4a14e7d1", func := "assart/assartlaw09.GrowTells", spec := "growTells", unfollowed := true, recurses := true, apart := false, narrowed := true }
def GrowTellsUptoSaid : Prop := growTellsUptoRow.holds Try.pinned (OpenSpec.upto growTellsSpec)

/-- 'assartlaw09.GrowRoom', WHERE WHAT IT READS IS OF BULK AT MOST 1048576: true; the input reads as it did. -/
def growRoomUptoRow : OpenClaim := { program := "ytopkoganfnabgaa", sum := "610280e2701dda0b9104c702761c5b363c40bb5804452d7a0501512c4a14e7d1", func := "assart/assartlaw09.GrowRoom", spec := "growRoom", unfollowed := true, recurses := true, apart := false, narrowed := true }
def GrowRoomUptoSaid : Prop := growRoomUptoRow.holds Try.pinned (OpenSpec.upto growRoomSpec)

/-- 'assartlaw09.GrowTwice', WHERE WHAT IT READS IS OF BULK AT MOST 1048576: true; the input reads as it did. -/
def growTwiceUptoRow : OpenClaim := { program := "ytopkoganfnabgaa", sum := "610280e2701dda0b9104c702761c5b363c40bb5804452d7a0501512c4a14e7d1", func := "assart/assartlaw09.GrowTwice", spec := "growTwice", unfollowed := true, recurses := true, apart := false, narrowed := true }
def GrowTwiceUptoSaid : Prop := growTwiceUptoRow.holds Try.pinned (OpenSpec.upto growTwiceSpec)

/-- 'assartlaw09.GrowFills', WHERE WHAT IT READS IS OF BULK AT MOST 1048576: true; the input reads as it did. -/
def growFillsUptoRow : OpenClaim := { program := "ytopkoganfnabgaa", sum := "610280e2701dda0b9104c702761c5b363c40bb5804452d7a0501512c4a14e7d1", func := "assart/assartlaw09.GrowFills", spec := "growFills", unfollowed := true, recurses := true, apart := false, narrowed := true }
def GrowFillsUptoSaid : Prop := growFillsUptoRow.holds Try.pinned (OpenSpec.upto growFillsSpec)

/-- 'assartlaw10.PruneTells', WHERE WHAT IT READS IS OF BULK AT MOST 1048576: true; the input reads as it did. -/
def pruneTellsUptoRow : OpenClaim := { program := "ytopkoganfnabgaa", sum := "610280e2701dda0b9104c702761c5b363c40bb5804452d7a0501512c4a14e7d1", func := "assart/assartlaw10.PruneTells", spec := "pruneTells", unfollowed := true, recurses := true, apart := false, narrowed := true }
def PruneTellsUptoSaid : Prop := pruneTellsUptoRow.holds Try.pinned (OpenSpec.upto pruneTellsSpec)

/-- 'assartlaw10.PruneRoom', WHERE WHAT IT READS IS OF BULK AT MOST 1048576: true; the input reads as it did. -/
def pruneRoomUptoRow : OpenClaim := { program := "ytopkoganfnabgaa", sum := "610280e2701dda0b9104c702761c5b363c40bb5804452d7a0501512c4a14e7d1", func := "assart/assartlaw10.PruneRoom", spec := "pruneRoom", unfollowed := true, recurses := true, apart := false, narrowed := true }
def PruneRoomUptoSaid : Prop := pruneRoomUptoRow.holds Try.pinned (OpenSpec.upto pruneRoomSpec)

/-- 'assartlaw10.PruneCuts', WHERE WHAT IT READS IS OF BULK AT MOST 1048576: true; the input reads as it did. -/
def pruneCutsUptoRow : OpenClaim := { program := "ytopkoganfnabgaa", sum := "610280e2701dda0b9104c702761c5b363c40bb5804452d7a0501512c4a14e7d1", func := "assart/assartlaw10.PruneCuts", spec := "pruneCuts", unfollowed := true, recurses := true, apart := false, narrowed := true }
def PruneCutsUptoSaid : Prop := pruneCutsUptoRow.holds Try.pinned (OpenSpec.upto pruneCutsSpec)

/-- 'assartlaw10.PruneBack', WHERE WHAT IT READS IS OF BULK AT MOST 1048576: true; the input reads as it did. -/
def pruneBackUptoRow : OpenClaim := { program := "ytopkoganfnabgaa", sum := "610280e2701dda0b9104c702761c5b363c40bb5804452d7a0501512c4a14e7d1", func := "assart/assartlaw10.PruneBack", spec := "pruneBack", unfollowed := true, recurses := true, apart := false, narrowed := true }
def PruneBackUptoSaid : Prop := pruneBackUptoRow.holds Try.pinned (OpenSpec.upto pruneBackSpec)

end Rows
end Go.Proofs.Ytopkoganfnabgaa
