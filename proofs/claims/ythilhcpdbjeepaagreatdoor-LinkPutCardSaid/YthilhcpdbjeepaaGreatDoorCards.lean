/-
  DERIVED. GIVEN WITH THE SEED: THE CARDS: each row of YthilhcpdbjeepaaGreatDoorRows.lean that lists a variable, with what it lists TIED to the program's text (the seventh form; the later family's looks); each row that meets fmt, with fmt's text TOLD by the authors' own Lean function (tested against real Go, not proved from fmt's source: count such statements apart). THE CARD IS WHAT COUNTS. Prove the row's statement (the work); the ties are given (YthilhcpdbjeepaaGreatDoorTie.lean); close each card by the builder's one call (the guide's Derived/Test/ToyasCard.lean, 'card_holds'). Laid BY PROGRAM, IN A SANDBOX (cutbox-door.mjs). By AI agents, Wed Nov 11 2026. No macro, syntax, notation, axiom, sorry.
-/
import Derived.Test.YthilhcpdbjeepaaGreatDoorRows
import GoSem.ClaimSeven
namespace Go.Proofs.YthilhcpdbjeepaaGreatDoor
namespace Rows

/-- THE TIED CARD OF 'muslinlaw16.LinkKinds'. -/
def linkKindsCard : Claim7 := { stood := { row := linkKindsRow, standIns := [], harness := (true, "f62fced05ed5e33b0568b13394d286513987218040a792116003217c0c18e304"), looks := true }, kinds := [], alts := [], laidByText := true, laidKinds := [.data, .pinned], laidTests := true, laidLooks := .later }
def LinkKindsCardSaid : Prop := Claim7.holds Tryz.pinned (.plain (OpenSpec.ofChange linkKindsSpec)) linkKindsCard

/-- THE TIED CARD OF 'muslinlaw16.LinkClean'. -/
def linkCleanCard : Claim7 := { stood := { row := linkCleanRow, standIns := [], harness := (true, "f62fced05ed5e33b0568b13394d286513987218040a792116003217c0c18e304"), looks := true }, kinds := [], alts := [], laidByText := true, laidKinds := [.data, .pinned], laidTests := true, laidLooks := .later }
def LinkCleanCardSaid : Prop := Claim7.holds Tryz.pinned (.plain (OpenSpec.ofChange linkCleanSpec)) linkCleanCard

/-- THE TIED CARD OF 'muslinlaw16.LinkPut'. -/
def linkPutCard : Claim7 := { stood := { row := linkPutRow, standIns := [], harness := (true, "f62fced05ed5e33b0568b13394d286513987218040a792116003217c0c18e304"), looks := true }, kinds := [], alts := [], laidByText := true, laidKinds := [.data, .pinned], laidTests := true, laidLooks := .later }
def LinkPutCardSaid : Prop := Claim7.holds Tryz.pinned (.plain (OpenSpec.ofChange linkPutSpec)) linkPutCard

/-- THE TIED CARD OF 'muslinlaw16.LinkWeb'. -/
def linkWebCard : Claim7 := { stood := { row := linkWebRow, standIns := [], harness := (true, "f62fced05ed5e33b0568b13394d286513987218040a792116003217c0c18e304"), looks := true }, kinds := [], alts := [], laidByText := true, laidKinds := [.data, .pinned], laidTests := true, laidLooks := .later }
def LinkWebCardSaid : Prop := Claim7.holds Tryz.pinned (.plain (OpenSpec.ofChange linkWebSpec)) linkWebCard

/-- THE TIED CARD OF 'muslinlaw16.LinkCase'. -/
def linkCaseCard : Claim7 := { stood := { row := linkCaseRow, standIns := [], harness := (true, "f62fced05ed5e33b0568b13394d286513987218040a792116003217c0c18e304"), looks := true }, kinds := [], alts := [], laidByText := true, laidKinds := [.data, .pinned], laidTests := true, laidLooks := .later }
def LinkCaseCardSaid : Prop := Claim7.holds Tryz.pinned (.plain (OpenSpec.ofChange linkCaseSpec)) linkCaseCard

/-- THE SECOND FORM's CARD OF 'muslinlaw16.LinkKinds'. -/
def linkKindsUptoCard : Claim7 := { stood := { row := linkKindsUptoRow, standIns := [], harness := (true, "f62fced05ed5e33b0568b13394d286513987218040a792116003217c0c18e304"), looks := true }, kinds := [], alts := [], laidByText := true, laidKinds := [.data, .pinned], laidTests := true, laidLooks := .later }
def LinkKindsUptoCardSaid : Prop := Claim7.holds Tryz.pinned (.plain (OpenSpec.upto linkKindsSpec)) linkKindsUptoCard

/-- THE SECOND FORM's CARD OF 'muslinlaw16.LinkClean'. -/
def linkCleanUptoCard : Claim7 := { stood := { row := linkCleanUptoRow, standIns := [], harness := (true, "f62fced05ed5e33b0568b13394d286513987218040a792116003217c0c18e304"), looks := true }, kinds := [], alts := [], laidByText := true, laidKinds := [.data, .pinned], laidTests := true, laidLooks := .later }
def LinkCleanUptoCardSaid : Prop := Claim7.holds Tryz.pinned (.plain (OpenSpec.upto linkCleanSpec)) linkCleanUptoCard

/-- THE SECOND FORM's CARD OF 'muslinlaw16.LinkPut'. -/
def linkPutUptoCard : Claim7 := { stood := { row := linkPutUptoRow, standIns := [], harness := (true, "f62fced05ed5e33b0568b13394d286513987218040a792116003217c0c18e304"), looks := true }, kinds := [], alts := [], laidByText := true, laidKinds := [.data, .pinned], laidTests := true, laidLooks := .later }
def LinkPutUptoCardSaid : Prop := Claim7.holds Tryz.pinned (.plain (OpenSpec.upto linkPutSpec)) linkPutUptoCard

/-- THE SECOND FORM's CARD OF 'muslinlaw16.LinkWeb'. -/
def linkWebUptoCard : Claim7 := { stood := { row := linkWebUptoRow, standIns := [], harness := (true, "f62fced05ed5e33b0568b13394d286513987218040a792116003217c0c18e304"), looks := true }, kinds := [], alts := [], laidByText := true, laidKinds := [.data, .pinned], laidTests := true, laidLooks := .later }
def LinkWebUptoCardSaid : Prop := Claim7.holds Tryz.pinned (.plain (OpenSpec.upto linkWebSpec)) linkWebUptoCard

/-- THE SECOND FORM's CARD OF 'muslinlaw16.LinkCase'. -/
def linkCaseUptoCard : Claim7 := { stood := { row := linkCaseUptoRow, standIns := [], harness := (true, "f62fced05ed5e33b0568b13394d286513987218040a792116003217c0c18e304"), looks := true }, kinds := [], alts := [], laidByText := true, laidKinds := [.data, .pinned], laidTests := true, laidLooks := .later }
def LinkCaseUptoCardSaid : Prop := Claim7.holds Tryz.pinned (.plain (OpenSpec.upto linkCaseSpec)) linkCaseUptoCard
end Rows
end Go.Proofs.YthilhcpdbjeepaaGreatDoor
