/-
  DERIVED. GIVEN WITH THE SEED: THE CARDS: each row of YtiacnhhmkdkpmaaGreatDoorRows.lean that lists a variable, with what it lists TIED to the program's text (the seventh form; the later family's looks); each row that meets fmt, with fmt's text TOLD by the authors' own Lean function (tested against real Go, not proved from fmt's source: count such statements apart). THE CARD IS WHAT COUNTS. Prove the row's statement (the work); the ties are given (YtiacnhhmkdkpmaaGreatDoorTie.lean); close each card by the builder's one call (the guide's Derived/Test/ToyasCard.lean, 'card_holds'). Laid BY PROGRAM, IN A SANDBOX (cutbox-door.mjs). By AI agents, Wed Nov 11 2026. No macro, syntax, notation, axiom, sorry.
-/
import Derived.Test.YtiacnhhmkdkpmaaGreatDoorRows
import GoSem.ClaimSeven
namespace Go.Proofs.YtiacnhhmkdkpmaaGreatDoor
namespace Rows

/-- THE TIED CARD OF 'pillarboxlaw21.CapsUtf8'. -/
def capsUtf8Card : Claim7 := { stood := { row := capsUtf8Row, standIns := [], harness := (true, "d62e62e7bdf5716e18d58b225d1286ccd436add8243e8f668950fdf7e381a657"), looks := true }, kinds := [], alts := [], laidByText := true, laidKinds := [.data, .data, .data, .data, .sentinel, .sentinel, .pinned], laidTests := true, laidLooks := .later }
def CapsUtf8CardSaid : Prop := Claim7.holds Tryz.pinned (.plain (OpenSpec.ofChange capsUtf8Spec)) capsUtf8Card

/-- THE TIED CARD OF 'pillarboxlaw21.CapsPlain'. -/
def capsPlainCard : Claim7 := { stood := { row := capsPlainRow, standIns := [], harness := (true, "d62e62e7bdf5716e18d58b225d1286ccd436add8243e8f668950fdf7e381a657"), looks := true }, kinds := [], alts := [], laidByText := true, laidKinds := [.data, .data, .data, .data, .sentinel, .sentinel, .pinned], laidTests := true, laidLooks := .later }
def CapsPlainCardSaid : Prop := Claim7.holds Tryz.pinned (.plain (OpenSpec.ofChange capsPlainSpec)) capsPlainCard

/-- THE TIED CARD OF 'pillarboxlaw17.CommandLong'. -/
def commandLongCard : Claim7 := { stood := { row := commandLongRow, standIns := [], harness := (true, "d62e62e7bdf5716e18d58b225d1286ccd436add8243e8f668950fdf7e381a657"), looks := true }, kinds := [], alts := [], laidByText := true, laidKinds := [.data, .data, .data, .data, .data, .pinned], laidTests := true, laidLooks := .later }
def CommandLongCardSaid : Prop := Claim7.holds Tryz.pinned (.plain (OpenSpec.ofChange commandLongSpec)) commandLongCard

/-- THE TIED CARD OF 'pillarboxlaw17.CommandLetters'. -/
def commandLettersCard : Claim7 := { stood := { row := commandLettersRow, standIns := [], harness := (true, "d62e62e7bdf5716e18d58b225d1286ccd436add8243e8f668950fdf7e381a657"), looks := true }, kinds := [], alts := [], laidByText := true, laidKinds := [.data, .data, .data, .data, .data, .pinned], laidTests := true, laidLooks := .later }
def CommandLettersCardSaid : Prop := Claim7.holds Tryz.pinned (.plain (OpenSpec.ofChange commandLettersSpec)) commandLettersCard

/-- THE TIED CARD OF 'pillarboxlaw17.CommandBack'. -/
def commandBackCard : Claim7 := { stood := { row := commandBackRow, standIns := [], harness := (true, "d62e62e7bdf5716e18d58b225d1286ccd436add8243e8f668950fdf7e381a657"), looks := true }, kinds := [], alts := [], laidByText := true, laidKinds := [.data, .data, .data, .data, .data, .pinned], laidTests := true, laidLooks := .later }
def CommandBackCardSaid : Prop := Claim7.holds Tryz.pinned (.plain (OpenSpec.ofChange commandBackSpec)) commandBackCard

/-- THE TIED CARD OF 'pillarboxlaw15.ListFull'. -/
def listFullCard : Claim7 := { stood := { row := listFullRow, standIns := [], harness := (true, "d62e62e7bdf5716e18d58b225d1286ccd436add8243e8f668950fdf7e381a657"), looks := true }, kinds := [], alts := [], laidByText := true, laidKinds := [.data, .pinned], laidTests := true, laidLooks := .later }
def ListFullCardSaid : Prop := Claim7.holds Tryz.pinned (.plain (OpenSpec.ofChange listFullSpec)) listFullCard

/-- THE TIED CARD OF 'pillarboxlaw15.ListOne'. -/
def listOneCard : Claim7 := { stood := { row := listOneRow, standIns := [], harness := (true, "d62e62e7bdf5716e18d58b225d1286ccd436add8243e8f668950fdf7e381a657"), looks := true }, kinds := [], alts := [], laidByText := true, laidKinds := [.data, .pinned], laidTests := true, laidLooks := .later }
def ListOneCardSaid : Prop := Claim7.holds Tryz.pinned (.plain (OpenSpec.ofChange listOneSpec)) listOneCard

/-- THE TIED CARD OF 'pillarboxlaw15.ListBack'. -/
def listBackCard : Claim7 := { stood := { row := listBackRow, standIns := [], harness := (true, "d62e62e7bdf5716e18d58b225d1286ccd436add8243e8f668950fdf7e381a657"), looks := true }, kinds := [], alts := [], laidByText := true, laidKinds := [.data, .pinned], laidTests := true, laidLooks := .later }
def ListBackCardSaid : Prop := Claim7.holds Tryz.pinned (.plain (OpenSpec.ofChange listBackSpec)) listBackCard

/-- THE TIED CARD OF 'pillarboxlaw14.PathNull'. -/
def pathNullCard : Claim7 := { stood := { row := pathNullRow, standIns := [], harness := (true, "d62e62e7bdf5716e18d58b225d1286ccd436add8243e8f668950fdf7e381a657"), looks := true }, kinds := [], alts := [], laidByText := true, laidKinds := [.data, .pinned], laidTests := true, laidLooks := .later }
def PathNullCardSaid : Prop := Claim7.holds Tryz.pinned (.plain (OpenSpec.ofChange pathNullSpec)) pathNullCard

/-- THE TIED CARD OF 'pillarboxlaw14.PathBack'. -/
def pathBackCard : Claim7 := { stood := { row := pathBackRow, standIns := [], harness := (true, "d62e62e7bdf5716e18d58b225d1286ccd436add8243e8f668950fdf7e381a657"), looks := true }, kinds := [], alts := [], laidByText := true, laidKinds := [.data, .pinned], laidTests := true, laidLooks := .later }
def PathBackCardSaid : Prop := Claim7.holds Tryz.pinned (.plain (OpenSpec.ofChange pathBackSpec)) pathBackCard

/-- THE TIED CARD OF 'pillarboxlaw13.MailboxBack'. -/
def mailboxBackCard : Claim7 := { stood := { row := mailboxBackRow, standIns := [], harness := (true, "d62e62e7bdf5716e18d58b225d1286ccd436add8243e8f668950fdf7e381a657"), looks := true }, kinds := [], alts := [], laidByText := true, laidKinds := [.data, .pinned], laidTests := true, laidLooks := .later }
def MailboxBackCardSaid : Prop := Claim7.holds Tryz.pinned (.plain (OpenSpec.ofChange mailboxBackSpec)) mailboxBackCard

/-- THE TIED CARD OF 'pillarboxlaw13.MailboxNotes'. -/
def mailboxNotesCard : Claim7 := { stood := { row := mailboxNotesRow, standIns := [], harness := (true, "d62e62e7bdf5716e18d58b225d1286ccd436add8243e8f668950fdf7e381a657"), looks := true }, kinds := [], alts := [], laidByText := true, laidKinds := [.data, .pinned], laidTests := true, laidLooks := .later }
def MailboxNotesCardSaid : Prop := Claim7.holds Tryz.pinned (.plain (OpenSpec.ofChange mailboxNotesSpec)) mailboxNotesCard

/-- THE SECOND FORM's CARD OF 'pillarboxlaw21.CapsUtf8'. -/
def capsUtf8UptoCard : Claim7 := { stood := { row := capsUtf8UptoRow, standIns := [], harness := (true, "d62e62e7bdf5716e18d58b225d1286ccd436add8243e8f668950fdf7e381a657"), looks := true }, kinds := [], alts := [], laidByText := true, laidKinds := [.data, .data, .data, .data, .sentinel, .sentinel, .pinned], laidTests := true, laidLooks := .later }
def CapsUtf8UptoCardSaid : Prop := Claim7.holds Tryz.pinned (.plain (OpenSpec.upto capsUtf8Spec)) capsUtf8UptoCard

/-- THE SECOND FORM's CARD OF 'pillarboxlaw21.CapsPlain'. -/
def capsPlainUptoCard : Claim7 := { stood := { row := capsPlainUptoRow, standIns := [], harness := (true, "d62e62e7bdf5716e18d58b225d1286ccd436add8243e8f668950fdf7e381a657"), looks := true }, kinds := [], alts := [], laidByText := true, laidKinds := [.data, .data, .data, .data, .sentinel, .sentinel, .pinned], laidTests := true, laidLooks := .later }
def CapsPlainUptoCardSaid : Prop := Claim7.holds Tryz.pinned (.plain (OpenSpec.upto capsPlainSpec)) capsPlainUptoCard

/-- THE SECOND FORM's CARD OF 'pillarboxlaw17.CommandLong'. -/
def commandLongUptoCard : Claim7 := { stood := { row := commandLongUptoRow, standIns := [], harness := (true, "d62e62e7bdf5716e18d58b225d1286ccd436add8243e8f668950fdf7e381a657"), looks := true }, kinds := [], alts := [], laidByText := true, laidKinds := [.data, .data, .data, .data, .data, .pinned], laidTests := true, laidLooks := .later }
def CommandLongUptoCardSaid : Prop := Claim7.holds Tryz.pinned (.plain (OpenSpec.upto commandLongSpec)) commandLongUptoCard

/-- THE SECOND FORM's CARD OF 'pillarboxlaw17.CommandLetters'. -/
def commandLettersUptoCard : Claim7 := { stood := { row := commandLettersUptoRow, standIns := [], harness := (true, "d62e62e7bdf5716e18d58b225d1286ccd436add8243e8f668950fdf7e381a657"), looks := true }, kinds := [], alts := [], laidByText := true, laidKinds := [.data, .data, .data, .data, .data, .pinned], laidTests := true, laidLooks := .later }
def CommandLettersUptoCardSaid : Prop := Claim7.holds Tryz.pinned (.plain (OpenSpec.upto commandLettersSpec)) commandLettersUptoCard

/-- THE SECOND FORM's CARD OF 'pillarboxlaw17.CommandBack'. -/
def commandBackUptoCard : Claim7 := { stood := { row := commandBackUptoRow, standIns := [], harness := (true, "d62e62e7bdf5716e18d58b225d1286ccd436add8243e8f668950fdf7e381a657"), looks := true }, kinds := [], alts := [], laidByText := true, laidKinds := [.data, .data, .data, .data, .data, .pinned], laidTests := true, laidLooks := .later }
def CommandBackUptoCardSaid : Prop := Claim7.holds Tryz.pinned (.plain (OpenSpec.upto commandBackSpec)) commandBackUptoCard

/-- THE SECOND FORM's CARD OF 'pillarboxlaw15.ListFull'. -/
def listFullUptoCard : Claim7 := { stood := { row := listFullUptoRow, standIns := [], harness := (true, "d62e62e7bdf5716e18d58b225d1286ccd436add8243e8f668950fdf7e381a657"), looks := true }, kinds := [], alts := [], laidByText := true, laidKinds := [.data, .pinned], laidTests := true, laidLooks := .later }
def ListFullUptoCardSaid : Prop := Claim7.holds Tryz.pinned (.plain (OpenSpec.upto listFullSpec)) listFullUptoCard

/-- THE SECOND FORM's CARD OF 'pillarboxlaw15.ListOne'. -/
def listOneUptoCard : Claim7 := { stood := { row := listOneUptoRow, standIns := [], harness := (true, "d62e62e7bdf5716e18d58b225d1286ccd436add8243e8f668950fdf7e381a657"), looks := true }, kinds := [], alts := [], laidByText := true, laidKinds := [.data, .pinned], laidTests := true, laidLooks := .later }
def ListOneUptoCardSaid : Prop := Claim7.holds Tryz.pinned (.plain (OpenSpec.upto listOneSpec)) listOneUptoCard

/-- THE SECOND FORM's CARD OF 'pillarboxlaw15.ListBack'. -/
def listBackUptoCard : Claim7 := { stood := { row := listBackUptoRow, standIns := [], harness := (true, "d62e62e7bdf5716e18d58b225d1286ccd436add8243e8f668950fdf7e381a657"), looks := true }, kinds := [], alts := [], laidByText := true, laidKinds := [.data, .pinned], laidTests := true, laidLooks := .later }
def ListBackUptoCardSaid : Prop := Claim7.holds Tryz.pinned (.plain (OpenSpec.upto listBackSpec)) listBackUptoCard

/-- THE SECOND FORM's CARD OF 'pillarboxlaw14.PathNull'. -/
def pathNullUptoCard : Claim7 := { stood := { row := pathNullUptoRow, standIns := [], harness := (true, "d62e62e7bdf5716e18d58b225d1286ccd436add8243e8f668950fdf7e381a657"), looks := true }, kinds := [], alts := [], laidByText := true, laidKinds := [.data, .pinned], laidTests := true, laidLooks := .later }
def PathNullUptoCardSaid : Prop := Claim7.holds Tryz.pinned (.plain (OpenSpec.upto pathNullSpec)) pathNullUptoCard

/-- THE SECOND FORM's CARD OF 'pillarboxlaw14.PathBack'. -/
def pathBackUptoCard : Claim7 := { stood := { row := pathBackUptoRow, standIns := [], harness := (true, "d62e62e7bdf5716e18d58b225d1286ccd436add8243e8f668950fdf7e381a657"), looks := true }, kinds := [], alts := [], laidByText := true, laidKinds := [.data, .pinned], laidTests := true, laidLooks := .later }
def PathBackUptoCardSaid : Prop := Claim7.holds Tryz.pinned (.plain (OpenSpec.upto pathBackSpec)) pathBackUptoCard

/-- THE SECOND FORM's CARD OF 'pillarboxlaw13.MailboxBack'. -/
def mailboxBackUptoCard : Claim7 := { stood := { row := mailboxBackUptoRow, standIns := [], harness := (true, "d62e62e7bdf5716e18d58b225d1286ccd436add8243e8f668950fdf7e381a657"), looks := true }, kinds := [], alts := [], laidByText := true, laidKinds := [.data, .pinned], laidTests := true, laidLooks := .later }
def MailboxBackUptoCardSaid : Prop := Claim7.holds Tryz.pinned (.plain (OpenSpec.upto mailboxBackSpec)) mailboxBackUptoCard

/-- THE SECOND FORM's CARD OF 'pillarboxlaw13.MailboxNotes'. -/
def mailboxNotesUptoCard : Claim7 := { stood := { row := mailboxNotesUptoRow, standIns := [], harness := (true, "d62e62e7bdf5716e18d58b225d1286ccd436add8243e8f668950fdf7e381a657"), looks := true }, kinds := [], alts := [], laidByText := true, laidKinds := [.data, .pinned], laidTests := true, laidLooks := .later }
def MailboxNotesUptoCardSaid : Prop := Claim7.holds Tryz.pinned (.plain (OpenSpec.upto mailboxNotesSpec)) mailboxNotesUptoCard
end Rows
end Go.Proofs.YtiacnhhmkdkpmaaGreatDoor
