/-
  DERIVED. GIVEN WITH THE SEED: THE CARDS: each row of YtkfcbafjcjmfnaaGreatDoorRows.lean that lists a variable, with what it lists TIED to the program's text (the seventh form; the later family's looks); each row that meets fmt, with fmt's text TOLD by the authors' own Lean function (tested against real Go, not proved from fmt's source: count such statements apart). THE CARD IS WHAT COUNTS. Prove the row's statement (the work); the ties are given (YtkfcbafjcjmfnaaGreatDoorTie.lean); close each card by the builder's one call (the guide's Derived/Test/ToyasCard.lean, 'card_holds'). Laid BY PROGRAM, IN A SANDBOX (cutbox-door.mjs). By AI agents, Wed Nov 11 2026. No macro, syntax, notation, axiom, sorry.
-/
import Derived.Test.YtkfcbafjcjmfnaaGreatDoorRows
import GoSem.ClaimSeven
namespace Go.Proofs.YtkfcbafjcjmfnaaGreatDoor
namespace Rows

/-- THE TIED CARD OF 'muslinlaw12.EntDecodes'. -/
def entDecodesCard : Claim7 := { stood := { row := entDecodesRow, standIns := [], harness := (true, "a9399b1aca689e0346f4ccbe9cb31696192ba003e5ca08db949ad2ec9b71ab7b"), looks := true }, kinds := [], alts := [], laidByText := true, laidKinds := [.data, .data, .data, .data, .sentinel, .sentinel, .data, .mapped, .pinned], laidTests := true, laidLooks := .later }
def EntDecodesCardSaid : Prop := Claim7.holds Tryz.pinned (.plain (OpenSpec.ofChange entDecodesSpec)) entDecodesCard

/-- THE TIED CARD OF 'muslinlaw12.EntWrites'. -/
def entWritesCard : Claim7 := { stood := { row := entWritesRow, standIns := [], harness := (true, "a9399b1aca689e0346f4ccbe9cb31696192ba003e5ca08db949ad2ec9b71ab7b"), looks := true }, kinds := [], alts := [], laidByText := true, laidKinds := [.data, .data, .data, .data, .sentinel, .sentinel, .data, .mapped, .pinned], laidTests := true, laidLooks := .later }
def EntWritesCardSaid : Prop := Claim7.holds Tryz.pinned (.plain (OpenSpec.ofChange entWritesSpec)) entWritesCard

/-- THE TIED CARD OF 'muslinlaw12.EntBack'. -/
def entBackCard : Claim7 := { stood := { row := entBackRow, standIns := [], harness := (true, "a9399b1aca689e0346f4ccbe9cb31696192ba003e5ca08db949ad2ec9b71ab7b"), looks := true }, kinds := [], alts := [], laidByText := true, laidKinds := [.data, .data, .data, .data, .sentinel, .sentinel, .data, .mapped, .pinned], laidTests := true, laidLooks := .later }
def EntBackCardSaid : Prop := Claim7.holds Tryz.pinned (.plain (OpenSpec.ofChange entBackSpec)) entBackCard

/-- THE TIED CARD OF 'muslinlaw12.EntSafe'. -/
def entSafeCard : Claim7 := { stood := { row := entSafeRow, standIns := [], harness := (true, "a9399b1aca689e0346f4ccbe9cb31696192ba003e5ca08db949ad2ec9b71ab7b"), looks := true }, kinds := [], alts := [], laidByText := true, laidKinds := [.data, .data, .data, .data, .sentinel, .sentinel, .data, .mapped, .pinned], laidTests := true, laidLooks := .later }
def EntSafeCardSaid : Prop := Claim7.holds Tryz.pinned (.plain (OpenSpec.ofChange entSafeSpec)) entSafeCard

/-- THE TIED CARD OF 'muslinlaw12.EntPlain'. -/
def entPlainCard : Claim7 := { stood := { row := entPlainRow, standIns := [], harness := (true, "a9399b1aca689e0346f4ccbe9cb31696192ba003e5ca08db949ad2ec9b71ab7b"), looks := true }, kinds := [], alts := [], laidByText := true, laidKinds := [.data, .data, .data, .data, .sentinel, .sentinel, .data, .mapped, .pinned], laidTests := true, laidLooks := .later }
def EntPlainCardSaid : Prop := Claim7.holds Tryz.pinned (.plain (OpenSpec.ofChange entPlainSpec)) entPlainCard

/-- THE TIED CARD OF 'muslinlaw12.EntApart'. -/
def entApartCard : Claim7 := { stood := { row := entApartRow, standIns := [], harness := (true, "a9399b1aca689e0346f4ccbe9cb31696192ba003e5ca08db949ad2ec9b71ab7b"), looks := true }, kinds := [], alts := [], laidByText := true, laidKinds := [.data, .data, .data, .data, .sentinel, .sentinel, .data, .mapped, .pinned], laidTests := true, laidLooks := .later }
def EntApartCardSaid : Prop := Claim7.holds Tryz.pinned (.plain (OpenSpec.ofChange entApartSpec)) entApartCard

/-- THE TIED CARD OF 'muslinlaw12.EntJoined'. -/
def entJoinedCard : Claim7 := { stood := { row := entJoinedRow, standIns := [], harness := (true, "a9399b1aca689e0346f4ccbe9cb31696192ba003e5ca08db949ad2ec9b71ab7b"), looks := true }, kinds := [], alts := [], laidByText := true, laidKinds := [.data, .data, .data, .data, .sentinel, .sentinel, .data, .mapped, .pinned], laidTests := true, laidLooks := .later }
def EntJoinedCardSaid : Prop := Claim7.holds Tryz.pinned (.plain (OpenSpec.ofChange entJoinedSpec)) entJoinedCard

/-- THE SECOND FORM's CARD OF 'muslinlaw12.EntDecodes'. -/
def entDecodesUptoCard : Claim7 := { stood := { row := entDecodesUptoRow, standIns := [], harness := (true, "a9399b1aca689e0346f4ccbe9cb31696192ba003e5ca08db949ad2ec9b71ab7b"), looks := true }, kinds := [], alts := [], laidByText := true, laidKinds := [.data, .data, .data, .data, .sentinel, .sentinel, .data, .mapped, .pinned], laidTests := true, laidLooks := .later }
def EntDecodesUptoCardSaid : Prop := Claim7.holds Tryz.pinned (.plain (OpenSpec.upto entDecodesSpec)) entDecodesUptoCard

/-- THE SECOND FORM's CARD OF 'muslinlaw12.EntWrites'. -/
def entWritesUptoCard : Claim7 := { stood := { row := entWritesUptoRow, standIns := [], harness := (true, "a9399b1aca689e0346f4ccbe9cb31696192ba003e5ca08db949ad2ec9b71ab7b"), looks := true }, kinds := [], alts := [], laidByText := true, laidKinds := [.data, .data, .data, .data, .sentinel, .sentinel, .data, .mapped, .pinned], laidTests := true, laidLooks := .later }
def EntWritesUptoCardSaid : Prop := Claim7.holds Tryz.pinned (.plain (OpenSpec.upto entWritesSpec)) entWritesUptoCard

/-- THE SECOND FORM's CARD OF 'muslinlaw12.EntBack'. -/
def entBackUptoCard : Claim7 := { stood := { row := entBackUptoRow, standIns := [], harness := (true, "a9399b1aca689e0346f4ccbe9cb31696192ba003e5ca08db949ad2ec9b71ab7b"), looks := true }, kinds := [], alts := [], laidByText := true, laidKinds := [.data, .data, .data, .data, .sentinel, .sentinel, .data, .mapped, .pinned], laidTests := true, laidLooks := .later }
def EntBackUptoCardSaid : Prop := Claim7.holds Tryz.pinned (.plain (OpenSpec.upto entBackSpec)) entBackUptoCard

/-- THE SECOND FORM's CARD OF 'muslinlaw12.EntSafe'. -/
def entSafeUptoCard : Claim7 := { stood := { row := entSafeUptoRow, standIns := [], harness := (true, "a9399b1aca689e0346f4ccbe9cb31696192ba003e5ca08db949ad2ec9b71ab7b"), looks := true }, kinds := [], alts := [], laidByText := true, laidKinds := [.data, .data, .data, .data, .sentinel, .sentinel, .data, .mapped, .pinned], laidTests := true, laidLooks := .later }
def EntSafeUptoCardSaid : Prop := Claim7.holds Tryz.pinned (.plain (OpenSpec.upto entSafeSpec)) entSafeUptoCard

/-- THE SECOND FORM's CARD OF 'muslinlaw12.EntPlain'. -/
def entPlainUptoCard : Claim7 := { stood := { row := entPlainUptoRow, standIns := [], harness := (true, "a9399b1aca689e0346f4ccbe9cb31696192ba003e5ca08db949ad2ec9b71ab7b"), looks := true }, kinds := [], alts := [], laidByText := true, laidKinds := [.data, .data, .data, .data, .sentinel, .sentinel, .data, .mapped, .pinned], laidTests := true, laidLooks := .later }
def EntPlainUptoCardSaid : Prop := Claim7.holds Tryz.pinned (.plain (OpenSpec.upto entPlainSpec)) entPlainUptoCard

/-- THE SECOND FORM's CARD OF 'muslinlaw12.EntApart'. -/
def entApartUptoCard : Claim7 := { stood := { row := entApartUptoRow, standIns := [], harness := (true, "a9399b1aca689e0346f4ccbe9cb31696192ba003e5ca08db949ad2ec9b71ab7b"), looks := true }, kinds := [], alts := [], laidByText := true, laidKinds := [.data, .data, .data, .data, .sentinel, .sentinel, .data, .mapped, .pinned], laidTests := true, laidLooks := .later }
def EntApartUptoCardSaid : Prop := Claim7.holds Tryz.pinned (.plain (OpenSpec.upto entApartSpec)) entApartUptoCard

/-- THE SECOND FORM's CARD OF 'muslinlaw12.EntJoined'. -/
def entJoinedUptoCard : Claim7 := { stood := { row := entJoinedUptoRow, standIns := [], harness := (true, "a9399b1aca689e0346f4ccbe9cb31696192ba003e5ca08db949ad2ec9b71ab7b"), looks := true }, kinds := [], alts := [], laidByText := true, laidKinds := [.data, .data, .data, .data, .sentinel, .sentinel, .data, .mapped, .pinned], laidTests := true, laidLooks := .later }
def EntJoinedUptoCardSaid : Prop := Claim7.holds Tryz.pinned (.plain (OpenSpec.upto entJoinedSpec)) entJoinedUptoCard
end Rows
end Go.Proofs.YtkfcbafjcjmfnaaGreatDoor
