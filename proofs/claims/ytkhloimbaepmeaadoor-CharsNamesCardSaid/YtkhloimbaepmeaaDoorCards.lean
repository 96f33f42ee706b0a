/-
  DERIVED. GIVEN WITH THE SEED: THE CARDS: each row of YtkhloimbaepmeaaDoorRows.lean that lists a variable, with what it lists TIED to the program's text (the seventh form; the later family's looks); each row that meets fmt, with fmt's text TOLD by the authors' own Lean function (tested against real Go, not proved from fmt's source: count such statements apart). THE CARD IS WHAT COUNTS. Prove the row's statement (the work); the ties are given (YtkhloimbaepmeaaDoorTie.lean); close each card by the builder's one call (the guide's Derived/Test/ToyasCard.lean, 'card_holds'). Laid BY PROGRAM, IN A SANDBOX (cutbox-door.mjs). By AI agents, Wed Nov 11 2026. No macro, syntax, notation, axiom, sorry.
-/
import Derived.Test.YtkhloimbaepmeaaDoorRows
import GoSem.ClaimSeven
namespace Go.Proofs.YtkhloimbaepmeaaDoor
namespace Rows

/-- THE TIED CARD OF 'muslinlaw04.CharsDecodes'. -/
def charsDecodesCard : Claim7 := { stood := { row := charsDecodesRow, standIns := [], harness := (true, "1d8090fca3b4c1b557f2499d968925ffda63c2710b9466ed35eddb7a2a49fa5d"), looks := false }, kinds := [], alts := [], laidByText := true, laidKinds := [.data, .data, .pinned], laidTests := true, laidLooks := .later }
def CharsDecodesCardSaid : Prop := Claim7.holds Tryd.pinned (.plain (OpenSpec.ofChange charsDecodesSpec)) charsDecodesCard

/-- THE TIED CARD OF 'muslinlaw04.CharsValid'. -/
def charsValidCard : Claim7 := { stood := { row := charsValidRow, standIns := [], harness := (true, "1d8090fca3b4c1b557f2499d968925ffda63c2710b9466ed35eddb7a2a49fa5d"), looks := false }, kinds := [], alts := [], laidByText := true, laidKinds := [.data, .data, .pinned], laidTests := true, laidLooks := .later }
def CharsValidCardSaid : Prop := Claim7.holds Tryd.pinned (.plain (OpenSpec.ofChange charsValidSpec)) charsValidCard

/-- THE TIED CARD OF 'muslinlaw04.CharsWhole'. -/
def charsWholeCard : Claim7 := { stood := { row := charsWholeRow, standIns := [], harness := (true, "1d8090fca3b4c1b557f2499d968925ffda63c2710b9466ed35eddb7a2a49fa5d"), looks := false }, kinds := [], alts := [], laidByText := true, laidKinds := [.data, .data, .pinned], laidTests := true, laidLooks := .later }
def CharsWholeCardSaid : Prop := Claim7.holds Tryd.pinned (.plain (OpenSpec.ofChange charsWholeSpec)) charsWholeCard

/-- THE TIED CARD OF 'muslinlaw04.CharsTurned'. -/
def charsTurnedCard : Claim7 := { stood := { row := charsTurnedRow, standIns := [], harness := (true, "1d8090fca3b4c1b557f2499d968925ffda63c2710b9466ed35eddb7a2a49fa5d"), looks := false }, kinds := [], alts := [], laidByText := true, laidKinds := [.data, .data, .pinned], laidTests := true, laidLooks := .later }
def CharsTurnedCardSaid : Prop := Claim7.holds Tryd.pinned (.plain (OpenSpec.ofChange charsTurnedSpec)) charsTurnedCard

/-- THE TIED CARD OF 'muslinlaw04.CharsPlain'. -/
def charsPlainCard : Claim7 := { stood := { row := charsPlainRow, standIns := [], harness := (true, "1d8090fca3b4c1b557f2499d968925ffda63c2710b9466ed35eddb7a2a49fa5d"), looks := false }, kinds := [], alts := [], laidByText := true, laidKinds := [.data, .data, .pinned], laidTests := true, laidLooks := .later }
def CharsPlainCardSaid : Prop := Claim7.holds Tryd.pinned (.plain (OpenSpec.ofChange charsPlainSpec)) charsPlainCard

/-- THE TIED CARD OF 'muslinlaw04.CharsNames'. -/
def charsNamesCard : Claim7 := { stood := { row := charsNamesRow, standIns := [], harness := (true, "1d8090fca3b4c1b557f2499d968925ffda63c2710b9466ed35eddb7a2a49fa5d"), looks := false }, kinds := [], alts := [], laidByText := true, laidKinds := [.data, .data, .pinned], laidTests := true, laidLooks := .later }
def CharsNamesCardSaid : Prop := Claim7.holds Tryd.pinned (.plain (OpenSpec.ofChange charsNamesSpec)) charsNamesCard

/-- THE TIED CARD OF 'muslinlaw04.CharsSizes'. -/
def charsSizesCard : Claim7 := { stood := { row := charsSizesRow, standIns := [], harness := (true, "1d8090fca3b4c1b557f2499d968925ffda63c2710b9466ed35eddb7a2a49fa5d"), looks := false }, kinds := [], alts := [], laidByText := true, laidKinds := [.data, .data, .pinned], laidTests := true, laidLooks := .later }
def CharsSizesCardSaid : Prop := Claim7.holds Tryd.pinned (.plain (OpenSpec.ofChange charsSizesSpec)) charsSizesCard

/-- THE SECOND FORM's CARD OF 'muslinlaw04.CharsDecodes'. -/
def charsDecodesUptoCard : Claim7 := { stood := { row := charsDecodesUptoRow, standIns := [], harness := (true, "1d8090fca3b4c1b557f2499d968925ffda63c2710b9466ed35eddb7a2a49fa5d"), looks := false }, kinds := [], alts := [], laidByText := true, laidKinds := [.data, .data, .pinned], laidTests := true, laidLooks := .later }
def CharsDecodesUptoCardSaid : Prop := Claim7.holds Tryd.pinned (.plain (OpenSpec.upto charsDecodesSpec)) charsDecodesUptoCard

/-- THE SECOND FORM's CARD OF 'muslinlaw04.CharsValid'. -/
def charsValidUptoCard : Claim7 := { stood := { row := charsValidUptoRow, standIns := [], harness := (true, "1d8090fca3b4c1b557f2499d968925ffda63c2710b9466ed35eddb7a2a49fa5d"), looks := false }, kinds := [], alts := [], laidByText := true, laidKinds := [.data, .data, .pinned], laidTests := true, laidLooks := .later }
def CharsValidUptoCardSaid : Prop := Claim7.holds Tryd.pinned (.plain (OpenSpec.upto charsValidSpec)) charsValidUptoCard

/-- THE SECOND FORM's CARD OF 'muslinlaw04.CharsWhole'. -/
def charsWholeUptoCard : Claim7 := { stood := { row := charsWholeUptoRow, standIns := [], harness := (true, "1d8090fca3b4c1b557f2499d968925ffda63c2710b9466ed35eddb7a2a49fa5d"), looks := false }, kinds := [], alts := [], laidByText := true, laidKinds := [.data, .data, .pinned], laidTests := true, laidLooks := .later }
def CharsWholeUptoCardSaid : Prop := Claim7.holds Tryd.pinned (.plain (OpenSpec.upto charsWholeSpec)) charsWholeUptoCard

/-- THE SECOND FORM's CARD OF 'muslinlaw04.CharsTurned'. -/
def charsTurnedUptoCard : Claim7 := { stood := { row := charsTurnedUptoRow, standIns := [], harness := (true, "1d8090fca3b4c1b557f2499d968925ffda63c2710b9466ed35eddb7a2a49fa5d"), looks := false }, kinds := [], alts := [], laidByText := true, laidKinds := [.data, .data, .pinned], laidTests := true, laidLooks := .later }
def CharsTurnedUptoCardSaid : Prop := Claim7.holds Tryd.pinned (.plain (OpenSpec.upto charsTurnedSpec)) charsTurnedUptoCard

/-- THE SECOND FORM's CARD OF 'muslinlaw04.CharsPlain'. -/
def charsPlainUptoCard : Claim7 := { stood := { row := charsPlainUptoRow, standIns := [], harness := (true, "1d8090fca3b4c1b557f2499d968925ffda63c2710b9466ed35eddb7a2a49fa5d"), looks := false }, kinds := [], alts := [], laidByText := true, laidKinds := [.data, .data, .pinned], laidTests := true, laidLooks := .later }
def CharsPlainUptoCardSaid : Prop := Claim7.holds Tryd.pinned (.plain (OpenSpec.upto charsPlainSpec)) charsPlainUptoCard

/-- THE SECOND FORM's CARD OF 'muslinlaw04.CharsNames'. -/
def charsNamesUptoCard : Claim7 := { stood := { row := charsNamesUptoRow, standIns := [], harness := (true, "1d8090fca3b4c1b557f2499d968925ffda63c2710b9466ed35eddb7a2a49fa5d"), looks := false }, kinds := [], alts := [], laidByText := true, laidKinds := [.data, .data, .pinned], laidTests := true, laidLooks := .later }
def CharsNamesUptoCardSaid : Prop := Claim7.holds Tryd.pinned (.plain (OpenSpec.upto charsNamesSpec)) charsNamesUptoCard

/-- THE SECOND FORM's CARD OF 'muslinlaw04.CharsSizes'. -/
def charsSizesUptoCard : Claim7 := { stood := { row := charsSizesUptoRow, standIns := [], harness := (true, "1d8090fca3b4c1b557f2499d968925ffda63c2710b9466ed35eddb7a2a49fa5d"), looks := false }, kinds := [], alts := [], laidByText := true, laidKinds := [.data, .data, .pinned], laidTests := true, laidLooks := .later }
def CharsSizesUptoCardSaid : Prop := Claim7.holds Tryd.pinned (.plain (OpenSpec.upto charsSizesSpec)) charsSizesUptoCard
end Rows
end Go.Proofs.YtkhloimbaepmeaaDoor
