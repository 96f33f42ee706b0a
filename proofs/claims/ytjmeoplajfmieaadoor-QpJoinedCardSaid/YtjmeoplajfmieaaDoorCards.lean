/-
  DERIVED. GIVEN WITH THE SEED: THE CARDS: each row of YtjmeoplajfmieaaDoorRows.lean that lists a variable, with what it lists TIED to the program's text (the seventh form; the later family's looks); each row that meets fmt, with fmt's text TOLD by the authors' own Lean function (tested against real Go, not proved from fmt's source: count such statements apart). THE CARD IS WHAT COUNTS. Prove the row's statement (the work); the ties are given (YtjmeoplajfmieaaDoorTie.lean); close each card by the builder's one call (the guide's Derived/Test/ToyasCard.lean, 'card_holds'). Laid BY PROGRAM, IN A SANDBOX (cutbox-door.mjs). By AI agents, Wed Nov 11 2026. No macro, syntax, notation, axiom, sorry.
-/
import Derived.Test.YtjmeoplajfmieaaDoorRows
import GoSem.ClaimSeven
namespace Go.Proofs.YtjmeoplajfmieaaDoor
namespace Rows

/-- THE TIED CARD OF 'muslinlaw02.QpDecodes'. -/
def qpDecodesCard : Claim7 := { stood := { row := qpDecodesRow, standIns := [], harness := (true, "14ca26cc4cfbc57264ea65e02922a54f573c1737f80b00a604b7afb45b151e76"), looks := false }, kinds := [], alts := [], laidByText := true, laidKinds := [.data, .pinned, .pinned], laidTests := true, laidLooks := .later }
def QpDecodesCardSaid : Prop := Claim7.holds Tryd.pinned (.plain (OpenSpec.ofChange qpDecodesSpec)) qpDecodesCard

/-- THE TIED CARD OF 'muslinlaw02.QpEncodes'. -/
def qpEncodesCard : Claim7 := { stood := { row := qpEncodesRow, standIns := [], harness := (true, "14ca26cc4cfbc57264ea65e02922a54f573c1737f80b00a604b7afb45b151e76"), looks := false }, kinds := [], alts := [], laidByText := true, laidKinds := [.data, .pinned, .pinned], laidTests := true, laidLooks := .later }
def QpEncodesCardSaid : Prop := Claim7.holds Tryd.pinned (.plain (OpenSpec.ofChange qpEncodesSpec)) qpEncodesCard

/-- THE TIED CARD OF 'muslinlaw02.QpBack'. -/
def qpBackCard : Claim7 := { stood := { row := qpBackRow, standIns := [], harness := (true, "14ca26cc4cfbc57264ea65e02922a54f573c1737f80b00a604b7afb45b151e76"), looks := false }, kinds := [], alts := [], laidByText := true, laidKinds := [.data, .pinned, .pinned], laidTests := true, laidLooks := .later }
def QpBackCardSaid : Prop := Claim7.holds Tryd.pinned (.plain (OpenSpec.ofChange qpBackSpec)) qpBackCard

/-- THE TIED CARD OF 'muslinlaw02.QpLines'. -/
def qpLinesCard : Claim7 := { stood := { row := qpLinesRow, standIns := [], harness := (true, "14ca26cc4cfbc57264ea65e02922a54f573c1737f80b00a604b7afb45b151e76"), looks := false }, kinds := [], alts := [], laidByText := true, laidKinds := [.data, .pinned, .pinned], laidTests := true, laidLooks := .later }
def QpLinesCardSaid : Prop := Claim7.holds Tryd.pinned (.plain (OpenSpec.ofChange qpLinesSpec)) qpLinesCard

/-- THE TIED CARD OF 'muslinlaw02.QpPlain'. -/
def qpPlainCard : Claim7 := { stood := { row := qpPlainRow, standIns := [], harness := (true, "14ca26cc4cfbc57264ea65e02922a54f573c1737f80b00a604b7afb45b151e76"), looks := false }, kinds := [], alts := [], laidByText := true, laidKinds := [.data, .pinned, .pinned], laidTests := true, laidLooks := .later }
def QpPlainCardSaid : Prop := Claim7.holds Tryd.pinned (.plain (OpenSpec.ofChange qpPlainSpec)) qpPlainCard

/-- THE TIED CARD OF 'muslinlaw02.QpJoined'. -/
def qpJoinedCard : Claim7 := { stood := { row := qpJoinedRow, standIns := [], harness := (true, "14ca26cc4cfbc57264ea65e02922a54f573c1737f80b00a604b7afb45b151e76"), looks := false }, kinds := [], alts := [], laidByText := true, laidKinds := [.data, .pinned, .pinned], laidTests := true, laidLooks := .later }
def QpJoinedCardSaid : Prop := Claim7.holds Tryd.pinned (.plain (OpenSpec.ofChange qpJoinedSpec)) qpJoinedCard

/-- THE SECOND FORM's CARD OF 'muslinlaw02.QpDecodes'. -/
def qpDecodesUptoCard : Claim7 := { stood := { row := qpDecodesUptoRow, standIns := [], harness := (true, "14ca26cc4cfbc57264ea65e02922a54f573c1737f80b00a604b7afb45b151e76"), looks := false }, kinds := [], alts := [], laidByText := true, laidKinds := [.data, .pinned, .pinned], laidTests := true, laidLooks := .later }
def QpDecodesUptoCardSaid : Prop := Claim7.holds Tryd.pinned (.plain (OpenSpec.upto qpDecodesSpec)) qpDecodesUptoCard

/-- THE SECOND FORM's CARD OF 'muslinlaw02.QpEncodes'. -/
def qpEncodesUptoCard : Claim7 := { stood := { row := qpEncodesUptoRow, standIns := [], harness := (true, "14ca26cc4cfbc57264ea65e02922a54f573c1737f80b00a604b7afb45b151e76"), looks := false }, kinds := [], alts := [], laidByText := true, laidKinds := [.data, .pinned, .pinned], laidTests := true, laidLooks := .later }
def QpEncodesUptoCardSaid : Prop := Claim7.holds Tryd.pinned (.plain (OpenSpec.upto qpEncodesSpec)) qpEncodesUptoCard

/-- THE SECOND FORM's CARD OF 'muslinlaw02.QpBack'. -/
def qpBackUptoCard : Claim7 := { stood := { row := qpBackUptoRow, standIns := [], harness := (true, "14ca26cc4cfbc57264ea65e02922a54f573c1737f80b00a604b7afb45b151e76"), looks := false }, kinds := [], alts := [], laidByText := true, laidKinds := [.data, .pinned, .pinned], laidTests := true, laidLooks := .later }
def QpBackUptoCardSaid : Prop := Claim7.holds Tryd.pinned (.plain (OpenSpec.upto qpBackSpec)) qpBackUptoCard

/-- THE SECOND FORM's CARD OF 'muslinlaw02.QpLines'. -/
def qpLinesUptoCard : Claim7 := { stood := { row := qpLinesUptoRow, standIns := [], harness := (true, "14ca26cc4cfbc57264ea65e02922a54f573c1737f80b00a604b7afb45b151e76"), looks := false }, kinds := [], alts := [], laidByText := true, laidKinds := [.data, .pinned, .pinned], laidTests := true, laidLooks := .later }
def QpLinesUptoCardSaid : Prop := Claim7.holds Tryd.pinned (.plain (OpenSpec.upto qpLinesSpec)) qpLinesUptoCard

/-- THE SECOND FORM's CARD OF 'muslinlaw02.QpPlain'. -/
def qpPlainUptoCard : Claim7 := { stood := { row := qpPlainUptoRow, standIns := [], harness := (true, "14ca26cc4cfbc57264ea65e02922a54f573c1737f80b00a604b7afb45b151e76"), looks := false }, kinds := [], alts := [], laidByText := true, laidKinds := [.data, .pinned, .pinned], laidTests := true, laidLooks := .later }
def QpPlainUptoCardSaid : Prop := Claim7.holds Tryd.pinned (.plain (OpenSpec.upto qpPlainSpec)) qpPlainUptoCard

/-- THE SECOND FORM's CARD OF 'muslinlaw02.QpJoined'. -/
def qpJoinedUptoCard : Claim7 := { stood := { row := qpJoinedUptoRow, standIns := [], harness := (true, "14ca26cc4cfbc57264ea65e02922a54f573c1737f80b00a604b7afb45b151e76"), looks := false }, kinds := [], alts := [], laidByText := true, laidKinds := [.data, .pinned, .pinned], laidTests := true, laidLooks := .later }
def QpJoinedUptoCardSaid : Prop := Claim7.holds Tryd.pinned (.plain (OpenSpec.upto qpJoinedSpec)) qpJoinedUptoCard
end Rows
end Go.Proofs.YtjmeoplajfmieaaDoor
