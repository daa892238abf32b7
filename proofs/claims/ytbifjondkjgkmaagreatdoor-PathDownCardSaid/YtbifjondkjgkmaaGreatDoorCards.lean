/-
  DERIVED. GIVEN WITH THE SEED: THE CARDS: each row of YtbifjondkjgkmaaGreatDoorRows.lean that lists a variable, with what it lists TIED to the program's text (the seventh form; the later family's looks); each row that meets fmt, with fmt's text TOLD by the authors' own Lean function (tested against real Go, not proved from fmt's source: count such statements apart). THE CARD IS WHAT COUNTS. Prove the row's statement (the work); the ties are given (YtbifjondkjgkmaaGreatDoorTie.lean); close each card by the builder's one call (the guide's Derived/Test/ToyasCard.lean, 'card_holds'). Laid BY PROGRAM, IN A SANDBOX (cutbox-door.mjs). By AI agents, Wed Nov 11 2026. No macro, syntax, notation, axiom, sorry.
-/
import Derived.Test.YtbifjondkjgkmaaGreatDoorRows
import GoSem.ClaimSeven
namespace Go.Proofs.YtbifjondkjgkmaaGreatDoor
namespace Rows

/-- THE TIED CARD OF 'pillarboxlaw13.MailboxForms'. -/
def mailboxFormsCard : Claim7 := { stood := { row := mailboxFormsRow, standIns := [], harness := (true, "6ac8c31cebfe072cafdb6d359ec8b0983162115c0478e66406d7249290c798c6"), looks := true }, kinds := [], alts := [], laidByText := true, laidKinds := [.data, .pinned], laidTests := true, laidLooks := .later }
def MailboxFormsCardSaid : Prop := Claim7.holds Tryz.pinned (.plain (OpenSpec.ofChange mailboxFormsSpec)) mailboxFormsCard

/-- THE TIED CARD OF 'pillarboxlaw13.MailboxDown'. -/
def mailboxDownCard : Claim7 := { stood := { row := mailboxDownRow, standIns := [], harness := (true, "6ac8c31cebfe072cafdb6d359ec8b0983162115c0478e66406d7249290c798c6"), looks := true }, kinds := [], alts := [], laidByText := true, laidKinds := [.data, .pinned], laidTests := true, laidLooks := .later }
def MailboxDownCardSaid : Prop := Claim7.holds Tryz.pinned (.plain (OpenSpec.ofChange mailboxDownSpec)) mailboxDownCard

/-- THE TIED CARD OF 'pillarboxlaw14.PathDown'. -/
def pathDownCard : Claim7 := { stood := { row := pathDownRow, standIns := [], harness := (true, "6ac8c31cebfe072cafdb6d359ec8b0983162115c0478e66406d7249290c798c6"), looks := true }, kinds := [], alts := [], laidByText := true, laidKinds := [.data, .pinned], laidTests := true, laidLooks := .later }
def PathDownCardSaid : Prop := Claim7.holds Tryz.pinned (.plain (OpenSpec.ofChange pathDownSpec)) pathDownCard

/-- THE TIED CARD OF 'pillarboxlaw21.CapsSafe'. -/
def capsSafeCard : Claim7 := { stood := { row := capsSafeRow, standIns := [], harness := (true, "6ac8c31cebfe072cafdb6d359ec8b0983162115c0478e66406d7249290c798c6"), looks := true }, kinds := [], alts := [], laidByText := true, laidKinds := [.data, .data, .data, .data, .sentinel, .sentinel, .pinned], laidTests := true, laidLooks := .later }
def CapsSafeCardSaid : Prop := Claim7.holds Tryz.pinned (.plain (OpenSpec.ofChange capsSafeSpec)) capsSafeCard

/-- THE SECOND FORM's CARD OF 'pillarboxlaw13.MailboxForms'. -/
def mailboxFormsUptoCard : Claim7 := { stood := { row := mailboxFormsUptoRow, standIns := [], harness := (true, "6ac8c31cebfe072cafdb6d359ec8b0983162115c0478e66406d7249290c798c6"), looks := true }, kinds := [], alts := [], laidByText := true, laidKinds := [.data, .pinned], laidTests := true, laidLooks := .later }
def MailboxFormsUptoCardSaid : Prop := Claim7.holds Tryz.pinned (.plain (OpenSpec.upto mailboxFormsSpec)) mailboxFormsUptoCard

/-- THE SECOND FORM's CARD OF 'pillarboxlaw13.MailboxDown'. -/
def mailboxDownUptoCard : Claim7 := { stood := { row := mailboxDownUptoRow, standIns := [], harness := (true, "6ac8c31cebfe072cafdb6d359ec8b0983162115c0478e66406d7249290c798c6"), looks := true }, kinds := [], alts := [], laidByText := true, laidKinds := [.data, .pinned], laidTests := true, laidLooks := .later }
def MailboxDownUptoCardSaid : Prop := Claim7.holds Tryz.pinned (.plain (OpenSpec.upto mailboxDownSpec)) mailboxDownUptoCard

/-- THE SECOND FORM's CARD OF 'pillarboxlaw14.PathDown'. -/
def pathDownUptoCard : Claim7 := { stood := { row := pathDownUptoRow, standIns := [], harness := (true, "6ac8c31cebfe072cafdb6d359ec8b0983162115c0478e66406d7249290c798c6"), looks := true }, kinds := [], alts := [], laidByText := true, laidKinds := [.data, .pinned], laidTests := true, laidLooks := .later }
def PathDownUptoCardSaid : Prop := Claim7.holds Tryz.pinned (.plain (OpenSpec.upto pathDownSpec)) pathDownUptoCard

/-- THE SECOND FORM's CARD OF 'pillarboxlaw21.CapsSafe'. -/
def capsSafeUptoCard : Claim7 := { stood := { row := capsSafeUptoRow, standIns := [], harness := (true, "6ac8c31cebfe072cafdb6d359ec8b0983162115c0478e66406d7249290c798c6"), looks := true }, kinds := [], alts := [], laidByText := true, laidKinds := [.data, .data, .data, .data, .sentinel, .sentinel, .pinned], laidTests := true, laidLooks := .later }
def CapsSafeUptoCardSaid : Prop := Claim7.holds Tryz.pinned (.plain (OpenSpec.upto capsSafeSpec)) capsSafeUptoCard
end Rows
end Go.Proofs.YtbifjondkjgkmaaGreatDoor
