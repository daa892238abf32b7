/-
  DERIVED. GIVEN WITH THE SEED: THE CARDS: each row of YtgkmfhhghcccjaaGreatDoorRows.lean that lists a variable, with what it lists TIED to the program's text (the seventh form; the later family's looks); each row that meets fmt, with fmt's text TOLD by the authors' own Lean function (tested against real Go, not proved from fmt's source: count such statements apart). THE CARD IS WHAT COUNTS. Prove the row's statement (the work); the ties are given (YtgkmfhhghcccjaaGreatDoorTie.lean); close each card by the builder's one call (the guide's Derived/Test/ToyasCard.lean, 'card_holds'). Laid BY PROGRAM, IN A SANDBOX (cutbox-door.mjs). By AI agents, Wed Nov 11 2026. No macro, syntax, notation, axiom, sorry.
-/
import Derived.Test.YtgkmfhhghcccjaaGreatDoorRows
import GoSem.ClaimSeven
namespace Go.Proofs.YtgkmfhhghcccjaaGreatDoor
namespace Rows

/-- THE TIED CARD OF 'pillarboxlaw24.ClientEnds'. -/
def clientEndsCard : Claim7 := { stood := { row := clientEndsRow, standIns := [], harness := (true, "f91feab2507109a461b97a306939d3a2f073ea80f7baa4027096dcfdb85e99cd"), looks := true }, kinds := [], alts := [], laidByText := true, laidKinds := [.data, .data, .data, .data, .sentinel, .sentinel, .data, .pinned], laidTests := true, laidLooks := .later }
def ClientEndsCardSaid : Prop := Claim7.holds Tryz.pinned (.plain (OpenSpec.ofChange clientEndsSpec)) clientEndsCard

/-- THE TIED CARD OF 'pillarboxlaw24.ClientSent'. -/
def clientSentCard : Claim7 := { stood := { row := clientSentRow, standIns := [], harness := (true, "f91feab2507109a461b97a306939d3a2f073ea80f7baa4027096dcfdb85e99cd"), looks := true }, kinds := [], alts := [], laidByText := true, laidKinds := [.data, .data, .data, .data, .sentinel, .sentinel, .data, .pinned], laidTests := true, laidLooks := .later }
def ClientSentCardSaid : Prop := Claim7.holds Tryz.pinned (.plain (OpenSpec.ofChange clientSentSpec)) clientSentCard

/-- THE TIED CARD OF 'pillarboxlaw24.ClientEight'. -/
def clientEightCard : Claim7 := { stood := { row := clientEightRow, standIns := [], harness := (true, "f91feab2507109a461b97a306939d3a2f073ea80f7baa4027096dcfdb85e99cd"), looks := true }, kinds := [], alts := [], laidByText := true, laidKinds := [.data, .data, .data, .data, .sentinel, .sentinel, .data, .pinned], laidTests := true, laidLooks := .later }
def ClientEightCardSaid : Prop := Claim7.holds Tryz.pinned (.plain (OpenSpec.ofChange clientEightSpec)) clientEightCard

/-- THE TIED CARD OF 'pillarboxlaw24.ClientPaths'. -/
def clientPathsCard : Claim7 := { stood := { row := clientPathsRow, standIns := [], harness := (true, "f91feab2507109a461b97a306939d3a2f073ea80f7baa4027096dcfdb85e99cd"), looks := true }, kinds := [], alts := [], laidByText := true, laidKinds := [.data, .data, .data, .data, .sentinel, .sentinel, .data, .pinned], laidTests := true, laidLooks := .later }
def ClientPathsCardSaid : Prop := Claim7.holds Tryz.pinned (.plain (OpenSpec.ofChange clientPathsSpec)) clientPathsCard

/-- THE SECOND FORM's CARD OF 'pillarboxlaw24.ClientEnds'. -/
def clientEndsUptoCard : Claim7 := { stood := { row := clientEndsUptoRow, standIns := [], harness := (true, "f91feab2507109a461b97a306939d3a2f073ea80f7baa4027096dcfdb85e99cd"), looks := true }, kinds := [], alts := [], laidByText := true, laidKinds := [.data, .data, .data, .data, .sentinel, .sentinel, .data, .pinned], laidTests := true, laidLooks := .later }
def ClientEndsUptoCardSaid : Prop := Claim7.holds Tryz.pinned (.plain (OpenSpec.upto clientEndsSpec)) clientEndsUptoCard

/-- THE SECOND FORM's CARD OF 'pillarboxlaw24.ClientSent'. -/
def clientSentUptoCard : Claim7 := { stood := { row := clientSentUptoRow, standIns := [], harness := (true, "f91feab2507109a461b97a306939d3a2f073ea80f7baa4027096dcfdb85e99cd"), looks := true }, kinds := [], alts := [], laidByText := true, laidKinds := [.data, .data, .data, .data, .sentinel, .sentinel, .data, .pinned], laidTests := true, laidLooks := .later }
def ClientSentUptoCardSaid : Prop := Claim7.holds Tryz.pinned (.plain (OpenSpec.upto clientSentSpec)) clientSentUptoCard

/-- THE SECOND FORM's CARD OF 'pillarboxlaw24.ClientEight'. -/
def clientEightUptoCard : Claim7 := { stood := { row := clientEightUptoRow, standIns := [], harness := (true, "f91feab2507109a461b97a306939d3a2f073ea80f7baa4027096dcfdb85e99cd"), looks := true }, kinds := [], alts := [], laidByText := true, laidKinds := [.data, .data, .data, .data, .sentinel, .sentinel, .data, .pinned], laidTests := true, laidLooks := .later }
def ClientEightUptoCardSaid : Prop := Claim7.holds Tryz.pinned (.plain (OpenSpec.upto clientEightSpec)) clientEightUptoCard

/-- THE SECOND FORM's CARD OF 'pillarboxlaw24.ClientPaths'. -/
def clientPathsUptoCard : Claim7 := { stood := { row := clientPathsUptoRow, standIns := [], harness := (true, "f91feab2507109a461b97a306939d3a2f073ea80f7baa4027096dcfdb85e99cd"), looks := true }, kinds := [], alts := [], laidByText := true, laidKinds := [.data, .data, .data, .data, .sentinel, .sentinel, .data, .pinned], laidTests := true, laidLooks := .later }
def ClientPathsUptoCardSaid : Prop := Claim7.holds Tryz.pinned (.plain (OpenSpec.upto clientPathsSpec)) clientPathsUptoCard
end Rows
end Go.Proofs.YtgkmfhhghcccjaaGreatDoor
