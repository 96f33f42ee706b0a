/-
  DERIVED. GIVEN WITH THE SEED: THE CARDS: each row of YtokkgjiofhhlkaaDoorRows.lean that lists a variable, with what it lists TIED to the program's text (the seventh form; the later family's looks); each row that meets fmt, with fmt's text TOLD by the authors' own Lean function (tested against real Go, not proved from fmt's source: count such statements apart). THE CARD IS WHAT COUNTS. Prove the row's statement (the work); the ties are given (YtokkgjiofhhlkaaDoorTie.lean); close each card by the builder's one call (the guide's Derived/Test/ToyasCard.lean, 'card_holds'). Laid BY PROGRAM, IN A SANDBOX (cutbox-door.mjs). By AI agents, Wed Nov 11 2026. No macro, syntax, notation, axiom, sorry.
-/
import Derived.Test.YtokkgjiofhhlkaaDoorRows
import GoSem.ClaimSeven
namespace Go.Proofs.YtokkgjiofhhlkaaDoor
namespace Rows

/-- THE TIED CARD OF 'muslinlaw05.WordDecodes'. -/
def wordDecodesCard : Claim7 := { stood := { row := wordDecodesRow, standIns := [], harness := (true, "42df9ae8b962eb88be1151b133186d9ace84ebe24a6f8494146f75b34f4da5c3"), looks := false }, kinds := [], alts := [], laidByText := true, laidKinds := [.data, .data, .pinned], laidTests := true, laidLooks := .later }
def WordDecodesCardSaid : Prop := Claim7.holds Tryd.pinned (.plain (OpenSpec.ofChange wordDecodesSpec)) wordDecodesCard

/-- THE TIED CARD OF 'muslinlaw05.WordEncodes'. -/
def wordEncodesCard : Claim7 := { stood := { row := wordEncodesRow, standIns := [], harness := (true, "42df9ae8b962eb88be1151b133186d9ace84ebe24a6f8494146f75b34f4da5c3"), looks := false }, kinds := [], alts := [], laidByText := true, laidKinds := [.data, .data, .pinned], laidTests := true, laidLooks := .later }
def WordEncodesCardSaid : Prop := Claim7.holds Tryd.pinned (.plain (OpenSpec.ofChange wordEncodesSpec)) wordEncodesCard

/-- THE TIED CARD OF 'muslinlaw05.WordBack'. -/
def wordBackCard : Claim7 := { stood := { row := wordBackRow, standIns := [], harness := (true, "42df9ae8b962eb88be1151b133186d9ace84ebe24a6f8494146f75b34f4da5c3"), looks := false }, kinds := [], alts := [], laidByText := true, laidKinds := [.data, .data, .pinned], laidTests := true, laidLooks := .later }
def WordBackCardSaid : Prop := Claim7.holds Tryd.pinned (.plain (OpenSpec.ofChange wordBackSpec)) wordBackCard

/-- THE TIED CARD OF 'muslinlaw05.WordValid'. -/
def wordValidCard : Claim7 := { stood := { row := wordValidRow, standIns := [], harness := (true, "42df9ae8b962eb88be1151b133186d9ace84ebe24a6f8494146f75b34f4da5c3"), looks := false }, kinds := [], alts := [], laidByText := true, laidKinds := [.data, .data, .pinned], laidTests := true, laidLooks := .later }
def WordValidCardSaid : Prop := Claim7.holds Tryd.pinned (.plain (OpenSpec.ofChange wordValidSpec)) wordValidCard

/-- THE TIED CARD OF 'muslinlaw05.WordJoined'. -/
def wordJoinedCard : Claim7 := { stood := { row := wordJoinedRow, standIns := [], harness := (true, "42df9ae8b962eb88be1151b133186d9ace84ebe24a6f8494146f75b34f4da5c3"), looks := false }, kinds := [], alts := [], laidByText := true, laidKinds := [.data, .data, .pinned], laidTests := true, laidLooks := .later }
def WordJoinedCardSaid : Prop := Claim7.holds Tryd.pinned (.plain (OpenSpec.ofChange wordJoinedSpec)) wordJoinedCard

/-- THE TIED CARD OF 'muslinlaw05.WordShort'. -/
def wordShortCard : Claim7 := { stood := { row := wordShortRow, standIns := [], harness := (true, "42df9ae8b962eb88be1151b133186d9ace84ebe24a6f8494146f75b34f4da5c3"), looks := false }, kinds := [], alts := [], laidByText := true, laidKinds := [.data, .data, .pinned], laidTests := true, laidLooks := .later }
def WordShortCardSaid : Prop := Claim7.holds Tryd.pinned (.plain (OpenSpec.ofChange wordShortSpec)) wordShortCard

/-- THE SECOND FORM's CARD OF 'muslinlaw05.WordDecodes'. -/
def wordDecodesUptoCard : Claim7 := { stood := { row := wordDecodesUptoRow, standIns := [], harness := (true, "42df9ae8b962eb88be1151b133186d9ace84ebe24a6f8494146f75b34f4da5c3"), looks := false }, kinds := [], alts := [], laidByText := true, laidKinds := [.data, .data, .pinned], laidTests := true, laidLooks := .later }
def WordDecodesUptoCardSaid : Prop := Claim7.holds Tryd.pinned (.plain (OpenSpec.upto wordDecodesSpec)) wordDecodesUptoCard

/-- THE SECOND FORM's CARD OF 'muslinlaw05.WordEncodes'. -/
def wordEncodesUptoCard : Claim7 := { stood := { row := wordEncodesUptoRow, standIns := [], harness := (true, "42df9ae8b962eb88be1151b133186d9ace84ebe24a6f8494146f75b34f4da5c3"), looks := false }, kinds := [], alts := [], laidByText := true, laidKinds := [.data, .data, .pinned], laidTests := true, laidLooks := .later }
def WordEncodesUptoCardSaid : Prop := Claim7.holds Tryd.pinned (.plain (OpenSpec.upto wordEncodesSpec)) wordEncodesUptoCard

/-- THE SECOND FORM's CARD OF 'muslinlaw05.WordBack'. -/
def wordBackUptoCard : Claim7 := { stood := { row := wordBackUptoRow, standIns := [], harness := (true, "42df9ae8b962eb88be1151b133186d9ace84ebe24a6f8494146f75b34f4da5c3"), looks := false }, kinds := [], alts := [], laidByText := true, laidKinds := [.data, .data, .pinned], laidTests := true, laidLooks := .later }
def WordBackUptoCardSaid : Prop := Claim7.holds Tryd.pinned (.plain (OpenSpec.upto wordBackSpec)) wordBackUptoCard

/-- THE SECOND FORM's CARD OF 'muslinlaw05.WordValid'. -/
def wordValidUptoCard : Claim7 := { stood := { row := wordValidUptoRow, standIns := [], harness := (true, "42df9ae8b962eb88be1151b133186d9ace84ebe24a6f8494146f75b34f4da5c3"), looks := false }, kinds := [], alts := [], laidByText := true, laidKinds := [.data, .data, .pinned], laidTests := true, laidLooks := .later }
def WordValidUptoCardSaid : Prop := Claim7.holds Tryd.pinned (.plain (OpenSpec.upto wordValidSpec)) wordValidUptoCard

/-- THE SECOND FORM's CARD OF 'muslinlaw05.WordJoined'. -/
def wordJoinedUptoCard : Claim7 := { stood := { row := wordJoinedUptoRow, standIns := [], harness := (true, "42df9ae8b962eb88be1151b133186d9ace84ebe24a6f8494146f75b34f4da5c3"), looks := false }, kinds := [], alts := [], laidByText := true, laidKinds := [.data, .data, .pinned], laidTests := true, laidLooks := .later }
def WordJoinedUptoCardSaid : Prop := Claim7.holds Tryd.pinned (.plain (OpenSpec.upto wordJoinedSpec)) wordJoinedUptoCard

/-- THE SECOND FORM's CARD OF 'muslinlaw05.WordShort'. -/
def wordShortUptoCard : Claim7 := { stood := { row := wordShortUptoRow, standIns := [], harness := (true, "42df9ae8b962eb88be1151b133186d9ace84ebe24a6f8494146f75b34f4da5c3"), looks := false }, kinds := [], alts := [], laidByText := true, laidKinds := [.data, .data, .pinned], laidTests := true, laidLooks := .later }
def WordShortUptoCardSaid : Prop := Claim7.holds Tryd.pinned (.plain (OpenSpec.upto wordShortSpec)) wordShortUptoCard
end Rows
end Go.Proofs.YtokkgjiofhhlkaaDoor
