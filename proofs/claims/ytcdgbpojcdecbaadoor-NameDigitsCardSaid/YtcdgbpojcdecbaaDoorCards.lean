/-
  DERIVED. GIVEN WITH THE SEED: THE CARDS: each row of YtcdgbpojcdecbaaDoorRows.lean that lists a variable, with what it lists TIED to the program's text (the seventh form; the later family's looks); each row that meets fmt, with fmt's text TOLD by the authors' own Lean function (tested against real Go, not proved from fmt's source: count such statements apart). THE CARD IS WHAT COUNTS. Prove the row's statement (the work); the ties are given (YtcdgbpojcdecbaaDoorTie.lean); close each card by the builder's one call (the guide's Derived/Test/ToyasCard.lean, 'card_holds'). Laid BY PROGRAM, IN A SANDBOX (cutbox-door.mjs). By AI agents, Wed Nov 11 2026. No macro, syntax, notation, axiom, sorry.
-/
import Derived.Test.YtcdgbpojcdecbaaDoorRows
import GoSem.ClaimSeven
namespace Go.Proofs.YtcdgbpojcdecbaaDoor
namespace Rows

/-- THE TIED CARD OF 'assartlaw17.NameTells'. -/
def nameTellsCard : Claim7 := { stood := { row := nameTellsRow, standIns := [], harness := (true, "23b30d0e75e5aedc73a9dc0a59589908f84528916257ec592174fa3d9013b9d9"), looks := false }, kinds := [], alts := [], laidByText := true, laidKinds := [.data, .pinned], laidTests := true, laidLooks := .later }
def NameTellsCardSaid : Prop := Claim7.holds Tryd.pinned (.plain (OpenSpec.ofChange nameTellsSpec)) nameTellsCard

/-- THE TIED CARD OF 'assartlaw17.NameBack'. -/
def nameBackCard : Claim7 := { stood := { row := nameBackRow, standIns := [], harness := (true, "23b30d0e75e5aedc73a9dc0a59589908f84528916257ec592174fa3d9013b9d9"), looks := false }, kinds := [], alts := [], laidByText := true, laidKinds := [.data, .pinned], laidTests := true, laidLooks := .later }
def NameBackCardSaid : Prop := Claim7.holds Tryd.pinned (.plain (OpenSpec.ofChange nameBackSpec)) nameBackCard

/-- THE TIED CARD OF 'assartlaw17.NameOrder'. -/
def nameOrderCard : Claim7 := { stood := { row := nameOrderRow, standIns := [], harness := (true, "23b30d0e75e5aedc73a9dc0a59589908f84528916257ec592174fa3d9013b9d9"), looks := false }, kinds := [], alts := [], laidByText := true, laidKinds := [.data, .pinned], laidTests := true, laidLooks := .later }
def NameOrderCardSaid : Prop := Claim7.holds Tryd.pinned (.plain (OpenSpec.ofChange nameOrderSpec)) nameOrderCard

/-- THE TIED CARD OF 'assartlaw17.NameWithin'. -/
def nameWithinCard : Claim7 := { stood := { row := nameWithinRow, standIns := [], harness := (true, "23b30d0e75e5aedc73a9dc0a59589908f84528916257ec592174fa3d9013b9d9"), looks := false }, kinds := [], alts := [], laidByText := true, laidKinds := [.data, .pinned], laidTests := true, laidLooks := .later }
def NameWithinCardSaid : Prop := Claim7.holds Tryd.pinned (.plain (OpenSpec.ofChange nameWithinSpec)) nameWithinCard

/-- THE TIED CARD OF 'assartlaw17.NameJoins'. -/
def nameJoinsCard : Claim7 := { stood := { row := nameJoinsRow, standIns := [], harness := (true, "23b30d0e75e5aedc73a9dc0a59589908f84528916257ec592174fa3d9013b9d9"), looks := false }, kinds := [], alts := [], laidByText := true, laidKinds := [.data, .pinned], laidTests := true, laidLooks := .later }
def NameJoinsCardSaid : Prop := Claim7.holds Tryd.pinned (.plain (OpenSpec.ofChange nameJoinsSpec)) nameJoinsCard

/-- THE TIED CARD OF 'assartlaw17.NameDigits'. -/
def nameDigitsCard : Claim7 := { stood := { row := nameDigitsRow, standIns := [], harness := (true, "23b30d0e75e5aedc73a9dc0a59589908f84528916257ec592174fa3d9013b9d9"), looks := false }, kinds := [], alts := [], laidByText := true, laidKinds := [.data, .pinned], laidTests := true, laidLooks := .later }
def NameDigitsCardSaid : Prop := Claim7.holds Tryd.pinned (.plain (OpenSpec.ofChange nameDigitsSpec)) nameDigitsCard

/-- THE SECOND FORM's CARD OF 'assartlaw17.NameTells'. -/
def nameTellsUptoCard : Claim7 := { stood := { row := nameTellsUptoRow, standIns := [], harness := (true, "23b30d0e75e5aedc73a9dc0a59589908f84528916257ec592174fa3d9013b9d9"), looks := false }, kinds := [], alts := [], laidByText := true, laidKinds := [.data, .pinned], laidTests := true, laidLooks := .later }
def NameTellsUptoCardSaid : Prop := Claim7.holds Tryd.pinned (.plain (OpenSpec.upto nameTellsSpec)) nameTellsUptoCard

/-- THE SECOND FORM's CARD OF 'assartlaw17.NameBack'. -/
def nameBackUptoCard : Claim7 := { stood := { row := nameBackUptoRow, standIns := [], harness := (true, "23b30d0e75e5aedc73a9dc0a59589908f84528916257ec592174fa3d9013b9d9"), looks := false }, kinds := [], alts := [], laidByText := true, laidKinds := [.data, .pinned], laidTests := true, laidLooks := .later }
def NameBackUptoCardSaid : Prop := Claim7.holds Tryd.pinned (.plain (OpenSpec.upto nameBackSpec)) nameBackUptoCard

/-- THE SECOND FORM's CARD OF 'assartlaw17.NameOrder'. -/
def nameOrderUptoCard : Claim7 := { stood := { row := nameOrderUptoRow, standIns := [], harness := (true, "23b30d0e75e5aedc73a9dc0a59589908f84528916257ec592174fa3d9013b9d9"), looks := false }, kinds := [], alts := [], laidByText := true, laidKinds := [.data, .pinned], laidTests := true, laidLooks := .later }
def NameOrderUptoCardSaid : Prop := Claim7.holds Tryd.pinned (.plain (OpenSpec.upto nameOrderSpec)) nameOrderUptoCard

/-- THE SECOND FORM's CARD OF 'assartlaw17.NameWithin'. -/
def nameWithinUptoCard : Claim7 := { stood := { row := nameWithinUptoRow, standIns := [], harness := (true, "23b30d0e75e5aedc73a9dc0a59589908f84528916257ec592174fa3d9013b9d9"), looks := false }, kinds := [], alts := [], laidByText := true, laidKinds := [.data, .pinned], laidTests := true, laidLooks := .later }
def NameWithinUptoCardSaid : Prop := Claim7.holds Tryd.pinned (.plain (OpenSpec.upto nameWithinSpec)) nameWithinUptoCard

/-- THE SECOND FORM's CARD OF 'assartlaw17.NameJoins'. -/
def nameJoinsUptoCard : Claim7 := { stood := { row := nameJoinsUptoRow, standIns := [], harness := (true, "23b30d0e75e5aedc73a9dc0a59589908f84528916257ec592174fa3d9013b9d9"), looks := false }, kinds := [], alts := [], laidByText := true, laidKinds := [.data, .pinned], laidTests := true, laidLooks := .later }
def NameJoinsUptoCardSaid : Prop := Claim7.holds Tryd.pinned (.plain (OpenSpec.upto nameJoinsSpec)) nameJoinsUptoCard

/-- THE SECOND FORM's CARD OF 'assartlaw17.NameDigits'. -/
def nameDigitsUptoCard : Claim7 := { stood := { row := nameDigitsUptoRow, standIns := [], harness := (true, "23b30d0e75e5aedc73a9dc0a59589908f84528916257ec592174fa3d9013b9d9"), looks := false }, kinds := [], alts := [], laidByText := true, laidKinds := [.data, .pinned], laidTests := true, laidLooks := .later }
def NameDigitsUptoCardSaid : Prop := Claim7.holds Tryd.pinned (.plain (OpenSpec.upto nameDigitsSpec)) nameDigitsUptoCard
end Rows
end Go.Proofs.YtcdgbpojcdecbaaDoor
