/-
  NARROWER THAN 'FOR EVERY INPUT', by the rows' own cells (each row's printed sentence says how): QpDecodes: laid · QpEncodes: laid · QpBack: laid · QpLines: laid · QpPlain: laid · QpJoined: laid.
  DERIVED. THE GIVEN ROWS OF THIS SEAT. 6 by the template 'for every input the law returns true; each argument reads behind the call as it read before'; 0 by the template 'total and deterministic' (their statements: YtjmeoplajfmieaaDoorTotals.lean).
  GIVEN WITH THE SEED: the statements are not yours to turn. If you find one false, say at which input.
  Laid BY PROGRAM, IN A SANDBOX (cutbox-rows.mjs): the forced cells as the released guide's own fill.sh prints them over the translation 83d7f55c4960d516… (all of the seat's roots in one cut). By AI agents, Wed Nov 11 2026. No macro, syntax, notation, axiom, sorry.
-/
import Derived.Test.YtjmeoplajfmieaaDoorChecked
import GoSem.PinnedTables
import GoSem.Claim
import GoSem.ClaimJoined
import GoSem.ClaimMapViews
import Derived.JoinedTies
import Derived.KernelRfl
namespace Go.Proofs.YtjmeoplajfmieaaDoor
/- THE CELL 'sum', in the pinned program and in every row, IS THE sha256 OF THE DUMP (.gsa) THAT YtjmeoplajfmieaaDoorProg.lean LOADS. Nothing in Lean hashes anything: it is a label: what it is worth is what the hold of that sum in a sandbox is worth. -/
noncomputable def Tryd.pinned : Pinned := { name := "ytjmeoplajfmieaadoor", sum := "83d7f55c4960d516b1a1f78ac585f2d4a99fe7472b66214e5c709fc671abe195", checked := Tryd.checked }
namespace Rows
def none {H : Type} : Left H := { results := [], args := [] }

/- WHAT THE LISTED PACKAGE-LEVEL VARIABLES READ AS WHEN THE CALL BEGINS. Each datum BY PROGRAM (the guide's laid-datum.mjs) off the statement by which the dump's own 'gosem.cut.vars' lays the variable. In a bare row this is a premise. The card (YtjmeoplajfmieaaDoorCards.lean) ties it to the program's text. -/
def laid_unicode_utf8_acceptRanges {H : Type} : DataW H := .agg [.agg [.lit (.int .u8 128), .lit (.int .u8 191)], .agg [.lit (.int .u8 160), .lit (.int .u8 191)], .agg [.lit (.int .u8 128), .lit (.int .u8 159)], .agg [.lit (.int .u8 144), .lit (.int .u8 191)], .agg [.lit (.int .u8 128), .lit (.int .u8 143)], .agg [.lit (.int .u8 0), .lit (.int .u8 0)], .agg [.lit (.int .u8 0), .lit (.int .u8 0)], .agg [.lit (.int .u8 0), .lit (.int .u8 0)], .agg [.lit (.int .u8 0), .lit (.int .u8 0)], .agg [.lit (.int .u8 0), .lit (.int .u8 0)], .agg [.lit (.int .u8 0), .lit (.int .u8 0)], .agg [.lit (.int .u8 0), .lit (.int .u8 0)], .agg [.lit (.int .u8 0), .lit (.int .u8 0)], .agg [.lit (.int .u8 0), .lit (.int .u8 0)], .agg [.lit (.int .u8 0), .lit (.int .u8 0)], .agg [.lit (.int .u8 0), .lit (.int .u8 0)]]
/-- One of Go's own tables, pinned by name: the form's constant. -/
def laid_unicode_CaseRanges : DataW Unit := Go.Pinned.caseRanges
/-- One of Go's own tables, pinned by name: the form's constant. -/
def laid_unicode_utf8_first : DataW Unit := Go.Pinned.utf8First

/-- 'muslinlaw02.QpDecodes': WHATEVER THE INPUT: true; the input reads as it did. -/
def qpDecodesSpec : ChangeSpec := { name := "qpDecodes", fn := fun _ => fun
  | [d] => { results := [.lit (.bool true)], args := [d] }
  | _ => none }
def qpDecodesRow : OpenClaim := { program := "ytjmeoplajfmieaadoor", sum := "83d7f55c4960d516b1a1f78ac585f2d4a99fe7472b66214e5c709fc671abe195", func := "muslin/muslinlaw02.QpDecodes", spec := "qpDecodes", inPlace := ["internal/bytealg.IndexByteString", "internal/bytealg.IndexString", "internal/abi.NoEscape", "internal/bytealg.MakeNoZero"], unfollowed := true, recurses := true, named := ["unicode/utf8.first", "unicode/utf8.acceptRanges", "unicode.CaseRanges", "internal/bytealg.MaxLen"], apart := false, laid := [("unicode/utf8.acceptRanges", laid_unicode_utf8_acceptRanges), ("unicode.CaseRanges", laid_unicode_CaseRanges), ("unicode/utf8.first", laid_unicode_utf8_first)] }
def QpDecodesSaid : Prop := qpDecodesRow.holds Tryd.pinned (OpenSpec.ofChange qpDecodesSpec)

/-- ITS FALSE NEIGHBOUR: 'it returns false'. Refute it at one input. -/
def qpDecodesWrong : ChangeSpec := { name := "qpDecodes", fn := fun _ => fun
  | [d] => { results := [.lit (.bool false)], args := [d] }
  | _ => none }
def QpDecodesWrongFalsely : Prop := qpDecodesRow.holds Tryd.pinned (OpenSpec.ofChange qpDecodesWrong)

/-- 'muslinlaw02.QpEncodes': WHATEVER THE INPUT: true; the input reads as it did. -/
def qpEncodesSpec : ChangeSpec := { name := "qpEncodes", fn := fun _ => fun
  | [d] => { results := [.lit (.bool true)], args := [d] }
  | _ => none }
def qpEncodesRow : OpenClaim := { program := "ytjmeoplajfmieaadoor", sum := "83d7f55c4960d516b1a1f78ac585f2d4a99fe7472b66214e5c709fc671abe195", func := "muslin/muslinlaw02.QpEncodes", spec := "qpEncodes", inPlace := ["internal/bytealg.IndexByteString", "internal/bytealg.IndexString", "internal/abi.NoEscape", "internal/bytealg.MakeNoZero"], unfollowed := true, recurses := true, named := ["unicode/utf8.first", "unicode/utf8.acceptRanges", "unicode.CaseRanges", "internal/bytealg.MaxLen"], apart := false, laid := [("unicode/utf8.acceptRanges", laid_unicode_utf8_acceptRanges), ("unicode.CaseRanges", laid_unicode_CaseRanges), ("unicode/utf8.first", laid_unicode_utf8_first)] }
def QpEncodesSaid : Prop := qpEncodesRow.holds Tryd.pinned (OpenSpec.ofChange qpEncodesSpec)

/-- ITS FALSE NEIGHBOUR: 'it returns false'. Refute it at one input. -/
def qpEncodesWrong : ChangeSpec := { name := "qpEncodes", fn := fun _ => fun
  | [d] => { results := [.lit (.bool false)], args := [d] }
  | _ => none }
def QpEncodesWrongFalsely : Prop := qpEncodesRow.holds Tryd.pinned (OpenSpec.ofChange qpEncodesWrong)

/-- 'muslinlaw02.QpBack': WHATEVER THE INPUT: true; the input reads as it did. -/
def qpBackSpec : ChangeSpec := { name := "qpBack", fn := fun _ => fun
  | [d] => { results := [.lit (.bool true)], args := [d] }
  | _ => none }
def qpBackRow : OpenClaim := { program := "ytjmeoplajfmieaadoor", sum := "83d7f55c4960d516b1a1f78ac585f2d4a99fe7472b66214e5c709fc671abe195", func := "muslin/muslinlaw02.QpBack", spec := "qpBack", inPlace := ["internal/bytealg.IndexByteString", "internal/bytealg.IndexString", "internal/abi.NoEscape", "internal/bytealg.MakeNoZero"], unfollowed := true, recurses := true, named := ["unicode/utf8.first", "unicode/utf8.acceptRanges", "unicode.CaseRanges", "internal/bytealg.MaxLen"], apart := false, laid := [("unicode/utf8.acceptRanges", laid_unicode_utf8_acceptRanges), ("unicode.CaseRanges", laid_unicode_CaseRanges), ("unicode/utf8.first", laid_unicode_utf8_first)] }
def QpBackSaid : Prop := qpBackRow.holds Tryd.pinned (OpenSpec.ofChange qpBackSpec)

/-- ITS FALSE NEIGHBOUR: 'it returns false'. Refute it at one input. -/
def qpBackWrong : ChangeSpec := { name := "qpBack", fn := fun _ => fun
  | [d] => { results := [.lit (.bool false)], args := [d] }
  | _ => none }
def QpBackWrongFalsely : Prop := qpBackRow.holds Tryd.pinned (OpenSpec.ofChange qpBackWrong)

/-- 'muslinlaw02.QpLines': WHATEVER THE INPUT: true; the input reads as it did. -/
def qpLinesSpec : ChangeSpec := { name := "qpLines", fn := fun _ => fun
  | [d] => { results := [.lit (.bool true)], args := [d] }
  | _ => none }
def qpLinesRow : OpenClaim := { program := "ytjmeoplajfmieaadoor", sum := "83d7f55c4960d516b1a1f78ac585f2d4a99fe7472b66214e5c709fc671abe195", func := "muslin/muslinlaw02.QpLines", spec := "qpLines", inPlace := ["internal/bytealg.IndexByteString", "internal/bytealg.IndexString", "internal/abi.NoEscape", "internal/bytealg.MakeNoZero"], unfollowed := true, recurses := true, named := ["unicode/utf8.first", "unicode/utf8.acceptRanges", "unicode.CaseRanges", "internal/bytealg.MaxLen"], apart := false, laid := [("unicode/utf8.acceptRanges", laid_unicode_utf8_acceptRanges), ("unicode.CaseRanges", laid_unicode_CaseRanges), ("unicode/utf8.first", laid_unicode_utf8_first)] }
def QpLinesSaid : Prop := qpLinesRow.holds Tryd.pinned (OpenSpec.ofChange qpLinesSpec)

/-- ITS FALSE NEIGHBOUR: 'it returns false'. Refute it at one input. -/
def qpLinesWrong : ChangeSpec := { name := "qpLines", fn := fun _ => fun
  | [d] => { results := [.lit (.bool false)], args := [d] }
  | _ => none }
def QpLinesWrongFalsely : Prop := qpLinesRow.holds Tryd.pinned (OpenSpec.ofChange qpLinesWrong)

/-- 'muslinlaw02.QpPlain': WHATEVER THE INPUT: true; the input reads as it did. -/
def qpPlainSpec : ChangeSpec := { name := "qpPlain", fn := fun _ => fun
  | [d] => { results := [.lit (.bool true)], args := [d] }
  | _ => none }
def qpPlainRow : OpenClaim := { program := "ytjmeoplajfmieaadoor", sum := "83d7f55c4960d516b1a1f78ac585f2d4a99fe7472b66214e5c709fc671abe195", func := "muslin/muslinlaw02.QpPlain", spec := "qpPlain", inPlace := ["internal/bytealg.IndexByteString", "internal/bytealg.IndexString", "internal/abi.NoEscape", "internal/bytealg.MakeNoZero"], unfollowed := true, recurses := true, named := ["unicode/utf8.first", "unicode/utf8.acceptRanges", "unicode.CaseRanges", "internal/bytealg.MaxLen"], apart := false, laid := [("unicode/utf8.acceptRanges", laid_unicode_utf8_acceptRanges), ("unicode.CaseRanges", laid_unicode_CaseRanges), ("unicode/utf8.first", laid_unicode_utf8_first)] }
def QpPlainSaid : Prop := qpPlainRow.holds Tryd.pinned (OpenSpec.ofChange qpPlainSpec)

/-- ITS FALSE NEIGHBOUR: 'it returns false'. Refute it at one input. -/
def qpPlainWrong : ChangeSpec := { name := "qpPlain", fn := fun _ => fun
  | [d] => { results := [.lit (.bool false)], args := [d] }
  | _ => none }
def QpPlainWrongFalsely : Prop := qpPlainRow.holds Tryd.pinned (OpenSpec.ofChange qpPlainWrong)

/-- 'muslinlaw02.QpJoined': WHATEVER THE INPUT: true; the input reads as it did. -/
def qpJoinedSpec : ChangeSpec := { name := "qpJoined", fn := fun _ => fun
  | [d] => { results := [.lit (.bool true)], args := [d] }
  | _ => none }
def qpJoinedRow : OpenClaim := { program := "ytjmeoplajfmieaadoor", sum := "83d7f55c4960d516b1a1f78ac585f2d4a99fe7472b66214e5c709fc671abe195", func := "muslin/muslinlaw02.QpJoined", spec := "qpJoined", inPlace := ["internal/bytealg.IndexByteString", "internal/bytealg.IndexString", "internal/abi.NoEscape", "internal/bytealg.MakeNoZero"], unfollowed := true, recurses := true, named := ["unicode/utf8.first", "unicode/utf8.acceptRanges", "unicode.CaseRanges", "internal/bytealg.MaxLen"], apart := false, laid := [("unicode/utf8.acceptRanges", laid_unicode_utf8_acceptRanges), ("unicode.CaseRanges", laid_unicode_CaseRanges), ("unicode/utf8.first", laid_unicode_utf8_first)] }
def QpJoinedSaid : Prop := qpJoinedRow.holds Tryd.pinned (OpenSpec.ofChange qpJoinedSpec)

/-- ITS FALSE NEIGHBOUR: 'it returns false'. Refute it at one input. -/
def qpJoinedWrong : ChangeSpec := { name := "qpJoined", fn := fun _ => fun
  | [d] => { results := [.lit (.bool false)], args := [d] }
  | _ => none }
def QpJoinedWrongFalsely : Prop := qpJoinedRow.holds Tryd.pinned (OpenSpec.ofChange qpJoinedWrong)

/- THE SECOND FORM. 'bulk': how many values and letters a reading holds, each counted each time it is reached (what is shared counts as often as it is met; a slice's spare places count too). A statement '..UptoSaid' is the law's where the arguments, and the package variables that the reading takes, are together of bulk at most 1048576: NARROWER than '..Said'. Prove '..Said' where nothing that the law and all that it calls make is longer than what came in: it says more and counts as full. Else prove '..UptoSaid'. A law counts once. -/
mutual
def uptoBulk {H : Type} : DataW H → Nat
  | .lit (.string bytes) => bytes.length + 1
  | .lit _ => 1
  | .nil => 1
  | .ptr d => uptoBulk d + 1
  | .slice elems spare => uptoBulkAll elems + uptoBulkAll spare + 1
  | .agg parts => uptoBulkAll parts + 1
  | .iface _ d => uptoBulk d + 1
  | .map entries => uptoBulkEntries entries + 1
  | .held _ => 1
def uptoBulkAll {H : Type} : List (DataW H) → Nat
  | [] => 0
  | d :: r => uptoBulk d + uptoBulkAll r
def uptoBulkEntries {H : Type} : List (Lit × DataW H) → Nat
  | [] => 0
  | x :: r => uptoBulkEntry x + uptoBulkEntries r
def uptoBulkEntry {H : Type} : Lit × DataW H → Nat
  | (.string bytes, d) => bytes.length + uptoBulk d + 1
  | (_, d) => uptoBulk d + 1
 end
def uptoSmall : (H : Type) → List (DataW H) → Bool := fun _ ds => decide (uptoBulkAll ds ≤ 1048576)
def OpenSpec.upto (s : _root_.Go.ChangeSpec) : _root_.Go.OpenSpec := { _root_.Go.OpenSpec.ofChange s with cond := some uptoSmall }

/-- 'muslinlaw02.QpDecodes', WHERE WHAT IT READS IS OF BULK AT MOST 1048576: true; the input reads as it did. -/
def qpDecodesUptoRow : OpenClaim := { program := "ytjmeoplajfmieaadoor", sum := "83d7f55c4960d516b1a1f78ac585f2d4a99fe7472b66214e5c709fc671abe195", func := "muslin/muslinlaw02.QpDecodes", spec := "qpDecodes", inPlace := ["internal/bytealg.IndexByteString", "internal/bytealg.IndexString", "internal/abi.NoEscape", "internal/bytealg.MakeNoZero"], unfollowed := true, recurses := true, named := ["unicode/utf8.first", "unicode/utf8.acceptRanges", "unicode.CaseRanges", "internal/bytealg.MaxLen"], apart := false, laid := [("unicode/utf8.acceptRanges", laid_unicode_utf8_acceptRanges), ("unicode.CaseRanges", laid_unicode_CaseRanges), ("unicode/utf8.first", laid_unicode_utf8_first)], narrowed := true }
def QpDecodesUptoSaid : Prop := qpDecodesUptoRow.holds Tryd.pinned (OpenSpec.upto qpDecodesSpec)

/-- 'muslinlaw02.QpEncodes', WHERE WHAT IT READS IS OF BULK AT MOST 1048576: true; the input reads as it did. -/
def qpEncodesUptoRow : OpenClaim := { program := "ytjmeoplajfmieaadoor", sum := "83d7f55c4960d516b1a1f78ac585f2d4a99fe7472b66214e5c709fc671abe195", func := "muslin/muslinlaw02.QpEncodes", spec := "qpEncodes", inPlace := ["internal/bytealg.IndexByteString", "internal/bytealg.IndexString", "internal/abi.NoEscape", "internal/bytealg.MakeNoZero"], unfollowed := true, recurses := true, named := ["unicode/utf8.first", "unicode/utf8.acceptRanges", "unicode.CaseRanges", "internal/bytealg.MaxLen"], apart := false, laid := [("unicode/utf8.acceptRanges", laid_unicode_utf8_acceptRanges), ("unicode.CaseRanges", laid_unicode_CaseRanges), ("unicode/utf8.first", laid_unicode_utf8_first)], narrowed := true }
def QpEncodesUptoSaid : Prop := qpEncodesUptoRow.holds Tryd.pinned (OpenSpec.upto qpEncodesSpec)

/-- 'muslinlaw02.QpBack', WHERE WHAT IT READS IS OF BULK AT MOST 1048576: true; the input reads as it did. -/
def qpBackUptoRow : OpenClaim := { program := "ytjmeoplajfmieaadoor", sum := "83d7f55c4960d516b1a1f78ac585f2d4a99fe7472b66214e5c709fc671abe195", func := "muslin/muslinlaw02.QpBack", spec := "qpBack", inPlace := ["internal/bytealg.IndexByteString", "internal/bytealg.IndexString", "internal/abi.NoEscape", "internal/bytealg.MakeNoZero"], unfollowed := true, recurses := true, named := ["unicode/utf8.first", "unicode/utf8.acceptRanges", "unicode.CaseRanges", "internal/bytealg.MaxLen"], apart := false, laid := [("unicode/utf8.acceptRanges", laid_unicode_utf8_acceptRanges), ("unicode.CaseRanges", laid_unicode_CaseRanges), ("unicode/utf8.first", laid_unicode_utf8_first)], narrowed := true }
def QpBackUptoSaid : Prop := qpBackUptoRow.holds Tryd.pinned (OpenSpec.upto qpBackSpec)

/-- 'muslinlaw02.QpLines', WHERE WHAT IT READS IS OF BULK AT MOST 1048576: true; the input reads as it did. -/
def qpLinesUptoRow : OpenClaim := { program := "ytjmeoplajfmieaadoor", sum := "83d7f55c4960d516b1a1f78ac585f2d4a99fe7472b66214e5c709fc671abe195", func := "muslin/muslinlaw02.QpLines", spec := "qpLines", inPlace := ["internal/bytealg.IndexByteString", "internal/bytealg.IndexString", "internal/abi.NoEscape", "internal/bytealg.MakeNoZero"], unfollowed := true, recurses := true, named := ["unicode/utf8.first", "unicode/utf8.acceptRanges", "unicode.CaseRanges", "internal/bytealg.MaxLen"], apart := false, laid := [("unicode/utf8.acceptRanges", laid_unicode_utf8_acceptRanges), ("unicode.CaseRanges", laid_unicode_CaseRanges), ("unicode/utf8.first", laid_unicode_utf8_first)], narrowed := true }
def QpLinesUptoSaid : Prop := qpLinesUptoRow.holds Tryd.pinned (OpenSpec.upto qpLinesSpec)

/-- 'muslinlaw02.QpPlain', WHERE WHAT IT READS IS OF BULK AT MOST 1048576: true; the input reads as it did. -/
def qpPlainUptoRow : OpenClaim := { program := "ytjmeoplajfmieaadoor", sum := "83d7f55c4960d516b1a1f78ac585f2d4a99fe7472b66214e5c709fc671abe195", func := "muslin/muslinlaw02.QpPlain", spec := "qpPlain", inPlace := ["internal/bytealg.IndexByteString", "internal/bytealg.IndexString", "internal/abi.NoEscape", "internal/bytealg.MakeNoZero"], unfollowed := true, recurses := true, named := ["unicode/utf8.first", "unicode/utf8.acceptRanges", "unicode.CaseRanges", "internal/bytealg.MaxLen"], apart := false, laid := [("unicode/utf8.acceptRanges", laid_unicode_utf8_acceptRanges), ("unicode.CaseRanges", laid_unicode_CaseRanges), ("unicode/utf8.first", laid_unicode_utf8_first)], narrowed := true }
def QpPlainUptoSaid : Prop := qpPlainUptoRow.holds Tryd.pinned (OpenSpec.upto qpPlainSpec)

/-- 'muslinlaw02.QpJoined', WHERE WHAT IT READS IS OF BULK AT MOST 1048576: true; the input reads as it did. -/
def qpJoinedUptoRow : OpenClaim := { program := "ytjmeoplajfmieaadoor", sum := "83d7f55c4960d516b1a1f78ac585f2d4a99fe7472b66214e5c709fc671abe195", func := "muslin/muslinlaw02.QpJoined", spec := "qpJoined", inPlace := ["internal/bytealg.IndexByteString", "internal/bytealg.IndexString", "internal/abi.NoEscape", "internal/bytealg.MakeNoZero"], unfollowed := true, recurses := true, named := ["unicode/utf8.first", "unicode/utf8.acceptRanges", "unicode.CaseRanges", "internal/bytealg.MaxLen"], apart := false, laid := [("unicode/utf8.acceptRanges", laid_unicode_utf8_acceptRanges), ("unicode.CaseRanges", laid_unicode_CaseRanges), ("unicode/utf8.first", laid_unicode_utf8_first)], narrowed := true }
def QpJoinedUptoSaid : Prop := qpJoinedUptoRow.holds Tryd.pinned (OpenSpec.upto qpJoinedSpec)

end Rows
end Go.Proofs.YtjmeoplajfmieaaDoor
