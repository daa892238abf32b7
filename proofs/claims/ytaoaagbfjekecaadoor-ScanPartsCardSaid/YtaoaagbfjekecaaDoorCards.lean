/-
  DERIVED. GIVEN WITH THE SEED: THE CARDS: each row of YtaoaagbfjekecaaDoorRows.lean that lists a variable, with what it lists TIED to the program's text (the seventh form; the later family's looks); each row that meets fmt, with fmt's text TOLD by the authors' own Lean function (tested against real Go, not proved from fmt's source: count such statements apart). THE CARD IS WHAT COUNTS. Prove the row's statement (the work); the ties are given (YtaoaagbfjekecaaDoorTie.lean); close each card by the builder's one call (the guide's Derived/Test/ToyasCard.lean, 'card_holds'). Laid BY PROGRAM, IN A SANDBOX (cutbox-door.mjs). By AI agents, Wed Nov 11 2026. No macro, syntax, notation, axiom, sorry.
-/
import Derived.Test.YtaoaagbfjekecaaDoorRows
import GoSem.ClaimSeven
namespace Go.Proofs.YtaoaagbfjekecaaDoor
namespace Rows

/-- THE TIED CARD OF 'pillarboxlaw20.ScanParts'. -/
def scanPartsCard : Claim7 := { stood := { row := scanPartsRow, standIns := [], harness := (true, "ffaf8b050dfaa925e5d83f2ec0d76a86876544128761ee6c1baf039b4c7cc280"), looks := false }, kinds := [], alts := [], laidByText := true, laidKinds := [.data, .pinned], laidTests := true, laidLooks := .later }
def ScanPartsCardSaid : Prop := Claim7.holds Tryd.pinned (.plain (OpenSpec.ofChange scanPartsSpec)) scanPartsCard

/-- THE TIED CARD OF 'pillarboxlaw20.ScanFields'. -/
def scanFieldsCard : Claim7 := { stood := { row := scanFieldsRow, standIns := [], harness := (true, "ffaf8b050dfaa925e5d83f2ec0d76a86876544128761ee6c1baf039b4c7cc280"), looks := false }, kinds := [], alts := [], laidByText := true, laidKinds := [.data, .pinned], laidTests := true, laidLooks := .later }
def ScanFieldsCardSaid : Prop := Claim7.holds Tryd.pinned (.plain (OpenSpec.ofChange scanFieldsSpec)) scanFieldsCard

/-- THE TIED CARD OF 'pillarboxlaw20.ScanEight'. -/
def scanEightCard : Claim7 := { stood := { row := scanEightRow, standIns := [], harness := (true, "ffaf8b050dfaa925e5d83f2ec0d76a86876544128761ee6c1baf039b4c7cc280"), looks := false }, kinds := [], alts := [], laidByText := true, laidKinds := [.data, .pinned], laidTests := true, laidLooks := .later }
def ScanEightCardSaid : Prop := Claim7.holds Tryd.pinned (.plain (OpenSpec.ofChange scanEightSpec)) scanEightCard

/-- THE TIED CARD OF 'pillarboxlaw20.ScanFolds'. -/
def scanFoldsCard : Claim7 := { stood := { row := scanFoldsRow, standIns := [], harness := (true, "ffaf8b050dfaa925e5d83f2ec0d76a86876544128761ee6c1baf039b4c7cc280"), looks := false }, kinds := [], alts := [], laidByText := true, laidKinds := [.data, .pinned], laidTests := true, laidLooks := .later }
def ScanFoldsCardSaid : Prop := Claim7.holds Tryd.pinned (.plain (OpenSpec.ofChange scanFoldsSpec)) scanFoldsCard

/-- THE SECOND FORM's CARD OF 'pillarboxlaw20.ScanParts'. -/
def scanPartsUptoCard : Claim7 := { stood := { row := scanPartsUptoRow, standIns := [], harness := (true, "ffaf8b050dfaa925e5d83f2ec0d76a86876544128761ee6c1baf039b4c7cc280"), looks := false }, kinds := [], alts := [], laidByText := true, laidKinds := [.data, .pinned], laidTests := true, laidLooks := .later }
def ScanPartsUptoCardSaid : Prop := Claim7.holds Tryd.pinned (.plain (OpenSpec.upto scanPartsSpec)) scanPartsUptoCard

/-- THE SECOND FORM's CARD OF 'pillarboxlaw20.ScanFields'. -/
def scanFieldsUptoCard : Claim7 := { stood := { row := scanFieldsUptoRow, standIns := [], harness := (true, "ffaf8b050dfaa925e5d83f2ec0d76a86876544128761ee6c1baf039b4c7cc280"), looks := false }, kinds := [], alts := [], laidByText := true, laidKinds := [.data, .pinned], laidTests := true, laidLooks := .later }
def ScanFieldsUptoCardSaid : Prop := Claim7.holds Tryd.pinned (.plain (OpenSpec.upto scanFieldsSpec)) scanFieldsUptoCard

/-- THE SECOND FORM's CARD OF 'pillarboxlaw20.ScanEight'. -/
def scanEightUptoCard : Claim7 := { stood := { row := scanEightUptoRow, standIns := [], harness := (true, "ffaf8b050dfaa925e5d83f2ec0d76a86876544128761ee6c1baf039b4c7cc280"), looks := false }, kinds := [], alts := [], laidByText := true, laidKinds := [.data, .pinned], laidTests := true, laidLooks := .later }
def ScanEightUptoCardSaid : Prop := Claim7.holds Tryd.pinned (.plain (OpenSpec.upto scanEightSpec)) scanEightUptoCard

/-- THE SECOND FORM's CARD OF 'pillarboxlaw20.ScanFolds'. -/
def scanFoldsUptoCard : Claim7 := { stood := { row := scanFoldsUptoRow, standIns := [], harness := (true, "ffaf8b050dfaa925e5d83f2ec0d76a86876544128761ee6c1baf039b4c7cc280"), looks := false }, kinds := [], alts := [], laidByText := true, laidKinds := [.data, .pinned], laidTests := true, laidLooks := .later }
def ScanFoldsUptoCardSaid : Prop := Claim7.holds Tryd.pinned (.plain (OpenSpec.upto scanFoldsSpec)) scanFoldsUptoCard
end Rows
end Go.Proofs.YtaoaagbfjekecaaDoor
