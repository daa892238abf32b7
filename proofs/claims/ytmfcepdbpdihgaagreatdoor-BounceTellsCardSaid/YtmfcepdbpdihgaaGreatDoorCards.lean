/-
  DERIVED. GIVEN WITH THE SEED: THE CARDS: each row of YtmfcepdbpdihgaaGreatDoorRows.lean that lists a variable, with what it lists TIED to the program's text (the seventh form; the later family's looks); each row that meets fmt, with fmt's text TOLD by the authors' own Lean function (tested against real Go, not proved from fmt's source: count such statements apart). THE CARD IS WHAT COUNTS. Prove the row's statement (the work); the ties are given (YtmfcepdbpdihgaaGreatDoorTie.lean); close each card by the builder's one call (the guide's Derived/Test/ToyasCard.lean, 'card_holds'). Laid BY PROGRAM, IN A SANDBOX (cutbox-door.mjs). By AI agents, Wed Nov 11 2026. No macro, syntax, notation, axiom, sorry.
-/
import Derived.Test.YtmfcepdbpdihgaaGreatDoorRows
import GoSem.ClaimSeven
namespace Go.Proofs.YtmfcepdbpdihgaaGreatDoor
namespace Rows

/-- THE TIED CARD OF 'pillarboxlaw25.BounceEscapes'. -/
def bounceEscapesCard : Claim7 := { stood := { row := bounceEscapesRow, standIns := [], harness := (true, "674093c8abba284eb178cbafb7a8f0bfec1a1237c9865fc4254c8543fa9adb49"), looks := true }, kinds := [], alts := [], laidByText := true, laidKinds := [.data, .data, .data, .data, .sentinel, .sentinel, .pinned, .pinned], laidTests := true, laidLooks := .later }
def BounceEscapesCardSaid : Prop := Claim7.holds Tryz.pinned (.plain (OpenSpec.ofChange bounceEscapesSpec)) bounceEscapesCard

/-- THE TIED CARD OF 'pillarboxlaw25.BounceBuilds'. -/
def bounceBuildsCard : Claim7 := { stood := { row := bounceBuildsRow, standIns := [], harness := (true, "674093c8abba284eb178cbafb7a8f0bfec1a1237c9865fc4254c8543fa9adb49"), looks := true }, kinds := [], alts := [], laidByText := true, laidKinds := [.data, .data, .data, .data, .sentinel, .sentinel, .pinned, .pinned], laidTests := true, laidLooks := .later }
def BounceBuildsCardSaid : Prop := Claim7.holds Tryz.pinned (.plain (OpenSpec.ofChange bounceBuildsSpec)) bounceBuildsCard

/-- THE TIED CARD OF 'pillarboxlaw25.BounceBack'. -/
def bounceBackCard : Claim7 := { stood := { row := bounceBackRow, standIns := [], harness := (true, "674093c8abba284eb178cbafb7a8f0bfec1a1237c9865fc4254c8543fa9adb49"), looks := true }, kinds := [], alts := [], laidByText := true, laidKinds := [.data, .data, .data, .data, .sentinel, .sentinel, .pinned, .pinned], laidTests := true, laidLooks := .later }
def BounceBackCardSaid : Prop := Claim7.holds Tryz.pinned (.plain (OpenSpec.ofChange bounceBackSpec)) bounceBackCard

/-- THE TIED CARD OF 'pillarboxlaw25.BounceTells'. -/
def bounceTellsCard : Claim7 := { stood := { row := bounceTellsRow, standIns := [], harness := (true, "674093c8abba284eb178cbafb7a8f0bfec1a1237c9865fc4254c8543fa9adb49"), looks := true }, kinds := [], alts := [], laidByText := true, laidKinds := [.data, .data, .data, .data, .sentinel, .sentinel, .pinned, .pinned], laidTests := true, laidLooks := .later }
def BounceTellsCardSaid : Prop := Claim7.holds Tryz.pinned (.plain (OpenSpec.ofChange bounceTellsSpec)) bounceTellsCard

/-- THE TIED CARD OF 'pillarboxlaw25.BounceStatus'. -/
def bounceStatusCard : Claim7 := { stood := { row := bounceStatusRow, standIns := [], harness := (true, "674093c8abba284eb178cbafb7a8f0bfec1a1237c9865fc4254c8543fa9adb49"), looks := true }, kinds := [], alts := [], laidByText := true, laidKinds := [.data, .data, .data, .data, .sentinel, .sentinel, .pinned, .pinned], laidTests := true, laidLooks := .later }
def BounceStatusCardSaid : Prop := Claim7.holds Tryz.pinned (.plain (OpenSpec.ofChange bounceStatusSpec)) bounceStatusCard

/-- THE SECOND FORM's CARD OF 'pillarboxlaw25.BounceEscapes'. -/
def bounceEscapesUptoCard : Claim7 := { stood := { row := bounceEscapesUptoRow, standIns := [], harness := (true, "674093c8abba284eb178cbafb7a8f0bfec1a1237c9865fc4254c8543fa9adb49"), looks := true }, kinds := [], alts := [], laidByText := true, laidKinds := [.data, .data, .data, .data, .sentinel, .sentinel, .pinned, .pinned], laidTests := true, laidLooks := .later }
def BounceEscapesUptoCardSaid : Prop := Claim7.holds Tryz.pinned (.plain (OpenSpec.upto bounceEscapesSpec)) bounceEscapesUptoCard

/-- THE SECOND FORM's CARD OF 'pillarboxlaw25.BounceBuilds'. -/
def bounceBuildsUptoCard : Claim7 := { stood := { row := bounceBuildsUptoRow, standIns := [], harness := (true, "674093c8abba284eb178cbafb7a8f0bfec1a1237c9865fc4254c8543fa9adb49"), looks := true }, kinds := [], alts := [], laidByText := true, laidKinds := [.data, .data, .data, .data, .sentinel, .sentinel, .pinned, .pinned], laidTests := true, laidLooks := .later }
def BounceBuildsUptoCardSaid : Prop := Claim7.holds Tryz.pinned (.plain (OpenSpec.upto bounceBuildsSpec)) bounceBuildsUptoCard

/-- THE SECOND FORM's CARD OF 'pillarboxlaw25.BounceBack'. -/
def bounceBackUptoCard : Claim7 := { stood := { row := bounceBackUptoRow, standIns := [], harness := (true, "674093c8abba284eb178cbafb7a8f0bfec1a1237c9865fc4254c8543fa9adb49"), looks := true }, kinds := [], alts := [], laidByText := true, laidKinds := [.data, .data, .data, .data, .sentinel, .sentinel, .pinned, .pinned], laidTests := true, laidLooks := .later }
def BounceBackUptoCardSaid : Prop := Claim7.holds Tryz.pinned (.plain (OpenSpec.upto bounceBackSpec)) bounceBackUptoCard

/-- THE SECOND FORM's CARD OF 'pillarboxlaw25.BounceTells'. -/
def bounceTellsUptoCard : Claim7 := { stood := { row := bounceTellsUptoRow, standIns := [], harness := (true, "674093c8abba284eb178cbafb7a8f0bfec1a1237c9865fc4254c8543fa9adb49"), looks := true }, kinds := [], alts := [], laidByText := true, laidKinds := [.data, .data, .data, .data, .sentinel, .sentinel, .pinned, .pinned], laidTests := true, laidLooks := .later }
def BounceTellsUptoCardSaid : Prop := Claim7.holds Tryz.pinned (.plain (OpenSpec.upto bounceTellsSpec)) bounceTellsUptoCard

/-- THE SECOND FORM's CARD OF 'pillarboxlaw25.BounceStatus'. -/
def bounceStatusUptoCard : Claim7 := { stood := { row := bounceStatusUptoRow, standIns := [], harness := (true, "674093c8abba284eb178cbafb7a8f0bfec1a1237c9865fc4254c8543fa9adb49"), looks := true }, kinds := [], alts := [], laidByText := true, laidKinds := [.data, .data, .data, .data, .sentinel, .sentinel, .pinned, .pinned], laidTests := true, laidLooks := .later }
def BounceStatusUptoCardSaid : Prop := Claim7.holds Tryz.pinned (.plain (OpenSpec.upto bounceStatusSpec)) bounceStatusUptoCard
end Rows
end Go.Proofs.YtmfcepdbpdihgaaGreatDoor
