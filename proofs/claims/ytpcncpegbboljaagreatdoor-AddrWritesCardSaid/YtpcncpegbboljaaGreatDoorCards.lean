/-
  DERIVED. GIVEN WITH THE SEED: THE CARDS: each row of YtpcncpegbboljaaGreatDoorRows.lean that lists a variable, with what it lists TIED to the program's text (the seventh form; the later family's looks); each row that meets fmt, with fmt's text TOLD by the authors' own Lean function (tested against real Go, not proved from fmt's source: count such statements apart). THE CARD IS WHAT COUNTS. Prove the row's statement (the work); the ties are given (YtpcncpegbboljaaGreatDoorTie.lean); close each card by the builder's one call (the guide's Derived/Test/ToyasCard.lean, 'card_holds'). Laid BY PROGRAM, IN A SANDBOX (cutbox-door.mjs). By AI agents, Wed Nov 11 2026. No macro, syntax, notation, axiom, sorry.
-/
import Derived.Test.YtpcncpegbboljaaGreatDoorRows
import GoSem.ClaimSeven
namespace Go.Proofs.YtpcncpegbboljaaGreatDoor
namespace Rows

/-- THE TIED CARD OF 'muslinlaw08.AddrParses'. -/
def addrParsesCard : Claim7 := { stood := { row := addrParsesRow, standIns := [], harness := (true, "18b4b3119de4e43a90ff004cd6ed71999d7a107f43ffa5dfc5049a67d8dbce92"), looks := true }, kinds := [], alts := [], laidByText := true, laidKinds := [.data, .data, .pinned], laidTests := true, laidLooks := .later }
def AddrParsesCardSaid : Prop := Claim7.holds Tryz.pinned (.plain (OpenSpec.ofChange addrParsesSpec)) addrParsesCard

/-- THE TIED CARD OF 'muslinlaw08.AddrWrites'. -/
def addrWritesCard : Claim7 := { stood := { row := addrWritesRow, standIns := [], harness := (true, "18b4b3119de4e43a90ff004cd6ed71999d7a107f43ffa5dfc5049a67d8dbce92"), looks := true }, kinds := [], alts := [], laidByText := true, laidKinds := [.data, .data, .pinned], laidTests := true, laidLooks := .later }
def AddrWritesCardSaid : Prop := Claim7.holds Tryz.pinned (.plain (OpenSpec.ofChange addrWritesSpec)) addrWritesCard

/-- THE TIED CARD OF 'muslinlaw08.AddrBack'. -/
def addrBackCard : Claim7 := { stood := { row := addrBackRow, standIns := [], harness := (true, "18b4b3119de4e43a90ff004cd6ed71999d7a107f43ffa5dfc5049a67d8dbce92"), looks := true }, kinds := [], alts := [], laidByText := true, laidKinds := [.data, .data, .pinned], laidTests := true, laidLooks := .later }
def AddrBackCardSaid : Prop := Claim7.holds Tryz.pinned (.plain (OpenSpec.ofChange addrBackSpec)) addrBackCard

/-- THE TIED CARD OF 'muslinlaw08.AddrGood'. -/
def addrGoodCard : Claim7 := { stood := { row := addrGoodRow, standIns := [], harness := (true, "18b4b3119de4e43a90ff004cd6ed71999d7a107f43ffa5dfc5049a67d8dbce92"), looks := true }, kinds := [], alts := [], laidByText := true, laidKinds := [.data, .data, .pinned], laidTests := true, laidLooks := .later }
def AddrGoodCardSaid : Prop := Claim7.holds Tryz.pinned (.plain (OpenSpec.ofChange addrGoodSpec)) addrGoodCard

/-- THE TIED CARD OF 'muslinlaw08.AddrJoined'. -/
def addrJoinedCard : Claim7 := { stood := { row := addrJoinedRow, standIns := [], harness := (true, "18b4b3119de4e43a90ff004cd6ed71999d7a107f43ffa5dfc5049a67d8dbce92"), looks := true }, kinds := [], alts := [], laidByText := true, laidKinds := [.data, .data, .pinned], laidTests := true, laidLooks := .later }
def AddrJoinedCardSaid : Prop := Claim7.holds Tryz.pinned (.plain (OpenSpec.ofChange addrJoinedSpec)) addrJoinedCard

/-- THE SECOND FORM's CARD OF 'muslinlaw08.AddrParses'. -/
def addrParsesUptoCard : Claim7 := { stood := { row := addrParsesUptoRow, standIns := [], harness := (true, "18b4b3119de4e43a90ff004cd6ed71999d7a107f43ffa5dfc5049a67d8dbce92"), looks := true }, kinds := [], alts := [], laidByText := true, laidKinds := [.data, .data, .pinned], laidTests := true, laidLooks := .later }
def AddrParsesUptoCardSaid : Prop := Claim7.holds Tryz.pinned (.plain (OpenSpec.upto addrParsesSpec)) addrParsesUptoCard

/-- THE SECOND FORM's CARD OF 'muslinlaw08.AddrWrites'. -/
def addrWritesUptoCard : Claim7 := { stood := { row := addrWritesUptoRow, standIns := [], harness := (true, "18b4b3119de4e43a90ff004cd6ed71999d7a107f43ffa5dfc5049a67d8dbce92"), looks := true }, kinds := [], alts := [], laidByText := true, laidKinds := [.data, .data, .pinned], laidTests := true, laidLooks := .later }
def AddrWritesUptoCardSaid : Prop := Claim7.holds Tryz.pinned (.plain (OpenSpec.upto addrWritesSpec)) addrWritesUptoCard

/-- THE SECOND FORM's CARD OF 'muslinlaw08.AddrBack'. -/
def addrBackUptoCard : Claim7 := { stood := { row := addrBackUptoRow, standIns := [], harness := (true, "18b4b3119de4e43a90ff004cd6ed71999d7a107f43ffa5dfc5049a67d8dbce92"), looks := true }, kinds := [], alts := [], laidByText := true, laidKinds := [.data, .data, .pinned], laidTests := true, laidLooks := .later }
def AddrBackUptoCardSaid : Prop := Claim7.holds Tryz.pinned (.plain (OpenSpec.upto addrBackSpec)) addrBackUptoCard

/-- THE SECOND FORM's CARD OF 'muslinlaw08.AddrGood'. -/
def addrGoodUptoCard : Claim7 := { stood := { row := addrGoodUptoRow, standIns := [], harness := (true, "18b4b3119de4e43a90ff004cd6ed71999d7a107f43ffa5dfc5049a67d8dbce92"), looks := true }, kinds := [], alts := [], laidByText := true, laidKinds := [.data, .data, .pinned], laidTests := true, laidLooks := .later }
def AddrGoodUptoCardSaid : Prop := Claim7.holds Tryz.pinned (.plain (OpenSpec.upto addrGoodSpec)) addrGoodUptoCard

/-- THE SECOND FORM's CARD OF 'muslinlaw08.AddrJoined'. -/
def addrJoinedUptoCard : Claim7 := { stood := { row := addrJoinedUptoRow, standIns := [], harness := (true, "18b4b3119de4e43a90ff004cd6ed71999d7a107f43ffa5dfc5049a67d8dbce92"), looks := true }, kinds := [], alts := [], laidByText := true, laidKinds := [.data, .data, .pinned], laidTests := true, laidLooks := .later }
def AddrJoinedUptoCardSaid : Prop := Claim7.holds Tryz.pinned (.plain (OpenSpec.upto addrJoinedSpec)) addrJoinedUptoCard
end Rows
end Go.Proofs.YtpcncpegbboljaaGreatDoor
