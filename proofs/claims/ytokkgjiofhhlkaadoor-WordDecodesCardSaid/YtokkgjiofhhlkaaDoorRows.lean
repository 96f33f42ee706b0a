/-
  NARROWER THAN 'FOR EVERY INPUT', by the rows' own cells (each row's printed sentence says how): WordDecodes: laid · WordEncodes: laid · WordBack: laid · WordValid: laid · WordJoined: laid · WordShort: laid.
  DERIVED. THE GIVEN ROWS OF THIS SEAT. 6 by the template 'for every input the law returns true; each argument reads behind the call as it read before'; 0 by the template 'total and deterministic' (their statements: YtokkgjiofhhlkaaDoorTotals.lean).
  GIVEN WITH THE SEED: the statements are not yours to turn. If you find one false, say at which input.
  Laid BY PROGRAM, IN A SANDBOX (cutbox-rows.mjs): the forced cells as the released guide's own fill.sh prints them over the translation f57dea84851bb3a3… (all of the seat's roots in one cut). By AI agents, Wed Nov 11 2026. No macro, syntax, notation, axiom, sorry.
-/
import Derived.Test.YtokkgjiofhhlkaaDoorChecked
import GoSem.PinnedTables
import GoSem.Claim
import GoSem.ClaimJoined
import GoSem.ClaimMapViews
import Derived.JoinedTies
import Derived.KernelRfl
namespace Go.Proofs.YtokkgjiofhhlkaaDoor
/- THE CELL 'sum', in the pinned program and in every row, IS THE sha256 OF THE DUMP (.gsa) THAT YtokkgjiofhhlkaaDoorProg.lean LOADS. Nothing in Lean hashes anything: it is a label: what it is worth is what the hold of that sum in a sandbox is worth. -/
noncomputable def Tryd.pinned : Pinned := { name := "ytokkgjiofhhlkaadoor", sum := "f57dea84851bb3a3cd1326e259e9b8d2f75090f6795df6e93f171829277c6b5f", checked := Tryd.checked }
namespace Rows
def none {H : Type} : Left H := { results := [], args := [] }

/- WHAT THE LISTED PACKAGE-LEVEL VARIABLES READ AS WHEN THE CALL BEGINS. Each datum BY PROGRAM (the guide's laid-datum.mjs) off the statement by which the dump's own 'gosem.cut.vars' lays the variable. In a bare row this is a premise. The card (YtokkgjiofhhlkaaDoorCards.lean) ties it to the program's text. -/
def laid_unicode_utf8_acceptRanges {H : Type} : DataW H := .agg [.agg [.lit (.int .u8 128), .lit (.int .u8 191)], .agg [.lit (.int .u8 160), .lit (.int .u8 191)], .agg [.lit (.int .u8 128), .lit (.int .u8 159)], .agg [.lit (.int .u8 144), .lit (.int .u8 191)], .agg [.lit (.int .u8 128), .lit (.int .u8 143)], .agg [.lit (.int .u8 0), .lit (.int .u8 0)], .agg [.lit (.int .u8 0), .lit (.int .u8 0)], .agg [.lit (.int .u8 0), .lit (.int .u8 0)], .agg [.lit (.int .u8 0), .lit (.int .u8 0)], .agg [.lit (.int .u8 0), .lit (.int .u8 0)], .agg [.lit (.int .u8 0), .lit (.int .u8 0)], .agg [.lit (.int .u8 0), .lit (.int .u8 0)], .agg [.lit (.int .u8 0), .lit (.int .u8 0)], .agg [.lit (.int .u8 0), .lit (.int .u8 0)], .agg [.lit (.int .u8 0), .lit (.int .u8 0)], .agg [.lit (.int .u8 0), .lit (.int .u8 0)]]
def laid_muslin_chars_high {H : Type} : DataW H := .agg [.lit (.int .i32 8364), .lit (.int .i32 129), .lit (.int .i32 8218), .lit (.int .i32 402), .lit (.int .i32 8222), .lit (.int .i32 8230), .lit (.int .i32 8224), .lit (.int .i32 8225), .lit (.int .i32 710), .lit (.int .i32 8240), .lit (.int .i32 352), .lit (.int .i32 8249), .lit (.int .i32 338), .lit (.int .i32 141), .lit (.int .i32 381), .lit (.int .i32 143), .lit (.int .i32 144), .lit (.int .i32 8216), .lit (.int .i32 8217), .lit (.int .i32 8220), .lit (.int .i32 8221), .lit (.int .i32 8226), .lit (.int .i32 8211), .lit (.int .i32 8212), .lit (.int .i32 732), .lit (.int .i32 8482), .lit (.int .i32 353), .lit (.int .i32 8250), .lit (.int .i32 339), .lit (.int .i32 157), .lit (.int .i32 382), .lit (.int .i32 376)]
/-- One of Go's own tables, pinned by name: the form's constant. -/
def laid_unicode_utf8_first : DataW Unit := Go.Pinned.utf8First

/-- 'muslinlaw05.WordDecodes': WHATEVER THE INPUT: true; the input reads as it did. -/
def wordDecodesSpec : ChangeSpec := { name := "wordDecodes", fn := fun _ => fun
  | [d] => { results := [.lit (.bool true)], args := [d] }
  | _ => none }
def wordDecodesRow : OpenClaim := { program := "ytokkgjiofhhlkaadoor", sum := "f57dea84851bb3a3cd1326e259e9b8d2f75090f6795df6e93f171829277c6b5f", func := "muslin/muslinlaw05.WordDecodes", spec := "wordDecodes", inPlace := ["internal/bytealg.IndexByteString", "internal/bytealg.IndexString", "internal/abi.NoEscape", "internal/bytealg.MakeNoZero"], unfollowed := true, recurses := true, named := ["internal/bytealg.MaxLen", "unicode/utf8.first", "unicode/utf8.acceptRanges", "muslin/chars.high"], apart := false, laid := [("unicode/utf8.acceptRanges", laid_unicode_utf8_acceptRanges), ("muslin/chars.high", laid_muslin_chars_high), ("unicode/utf8.first", laid_unicode_utf8_first)] }
def WordDecodesSaid : Prop := wordDecodesRow.holds Tryd.pinned (OpenSpec.ofChange wordDecodesSpec)

/-- ITS FALSE NEIGHBOUR: 'it returns false'. Refute it at one input. -/
def wordDecodesWrong : ChangeSpec := { name := "wordDecodes", fn := fun _ => fun
  | [d] => { results := [.lit (.bool false)], args := [d] }
  | _ => none }
def WordDecodesWrongFalsely : Prop := wordDecodesRow.holds Tryd.pinned (OpenSpec.ofChange wordDecodesWrong)

/-- 'muslinlaw05.WordEncodes': WHATEVER THE INPUT: true; the input reads as it did. -/
def wordEncodesSpec : ChangeSpec := { name := "wordEncodes", fn := fun _ => fun
  | [d] => { results := [.lit (.bool true)], args := [d] }
  | _ => none }
def wordEncodesRow : OpenClaim := { program := "ytokkgjiofhhlkaadoor", sum := "f57dea84851bb3a3cd1326e259e9b8d2f75090f6795df6e93f171829277c6b5f", func := "muslin/muslinlaw05.WordEncodes", spec := "wordEncodes", inPlace := ["internal/bytealg.IndexByteString", "internal/bytealg.IndexString", "internal/abi.NoEscape", "internal/bytealg.MakeNoZero"], unfollowed := true, recurses := true, named := ["internal/bytealg.MaxLen", "unicode/utf8.first", "unicode/utf8.acceptRanges", "muslin/chars.high"], apart := false, laid := [("unicode/utf8.acceptRanges", laid_unicode_utf8_acceptRanges), ("muslin/chars.high", laid_muslin_chars_high), ("unicode/utf8.first", laid_unicode_utf8_first)] }
def WordEncodesSaid : Prop := wordEncodesRow.holds Tryd.pinned (OpenSpec.ofChange wordEncodesSpec)

/-- ITS FALSE NEIGHBOUR: 'it returns false'. Refute it at one input. -/
def wordEncodesWrong : ChangeSpec := { name := "wordEncodes", fn := fun _ => fun
  | [d] => { results := [.lit (.bool false)], args := [d] }
  | _ => none }
def WordEncodesWrongFalsely : Prop := wordEncodesRow.holds Tryd.pinned (OpenSpec.ofChange wordEncodesWrong)

/-- 'muslinlaw05.WordBack': WHATEVER THE INPUT: true; the input reads as it did. -/
def wordBackSpec : ChangeSpec := { name := "wordBack", fn := fun _ => fun
  | [d] => { results := [.lit (.bool true)], args := [d] }
  | _ => none }
def wordBackRow : OpenClaim := { program := "ytokkgjiofhhlkaadoor", sum := "f57dea84851bb3a3cd1326e259e9b8d2f75090f6795df6e93f171829277c6b5f", func := "muslin/muslinlaw05.WordBack", spec := "wordBack", inPlace := ["internal/bytealg.IndexByteString", "internal/bytealg.IndexString", "internal/abi.NoEscape", "internal/bytealg.MakeNoZero"], unfollowed := true, recurses := true, named := ["internal/bytealg.MaxLen", "unicode/utf8.first", "unicode/utf8.acceptRanges", "muslin/chars.high"], apart := false, laid := [("unicode/utf8.acceptRanges", laid_unicode_utf8_acceptRanges), ("muslin/chars.high", laid_muslin_chars_high), ("unicode/utf8.first", laid_unicode_utf8_first)] }
def WordBackSaid : Prop := wordBackRow.holds Tryd.pinned (OpenSpec.ofChange wordBackSpec)

/-- ITS FALSE NEIGHBOUR: 'it returns false'. Refute it at one input. -/
def wordBackWrong : ChangeSpec := { name := "wordBack", fn := fun _ => fun
  | [d] => { results := [.lit (.bool false)], args := [d] }
  | _ => none }
def WordBackWrongFalsely : Prop := wordBackRow.holds Tryd.pinned (OpenSpec.ofChange wordBackWrong)

/-- 'muslinlaw05.WordValid': WHATEVER THE INPUT: true; the input reads as it did. -/
def wordValidSpec : ChangeSpec := { name := "wordValid", fn := fun _ => fun
  | [d] => { results := [.lit (.bool true)], args := [d] }
  | _ => none }
def wordValidRow : OpenClaim := { program := "ytokkgjiofhhlkaadoor", sum := "f57dea84851bb3a3cd1326e259e9b8d2f75090f6795df6e93f171829277c6b5f", func := "muslin/muslinlaw05.WordValid", spec := "wordValid", inPlace := ["internal/bytealg.IndexByteString", "internal/bytealg.IndexString", "internal/abi.NoEscape", "internal/bytealg.MakeNoZero"], unfollowed := true, recurses := true, named := ["internal/bytealg.MaxLen", "unicode/utf8.first", "unicode/utf8.acceptRanges", "muslin/chars.high"], apart := false, laid := [("unicode/utf8.acceptRanges", laid_unicode_utf8_acceptRanges), ("muslin/chars.high", laid_muslin_chars_high), ("unicode/utf8.first", laid_unicode_utf8_first)] }
def WordValidSaid : Prop := wordValidRow.holds Tryd.pinned (OpenSpec.ofChange wordValidSpec)

/-- ITS FALSE NEIGHBOUR: 'it returns false'. Refute it at one input. -/
def wordValidWrong : ChangeSpec := { name := "wordValid", fn := fun _ => fun
  | [d] => { results := [.lit (.bool false)], args := [d] }
  | _ => none }
def WordValidWrongFalsely : Prop := wordValidRow.holds Tryd.pinned (OpenSpec.ofChange wordValidWrong)

/-- 'muslinlaw05.WordJoined': WHATEVER THE INPUT: true; the input reads as it did. -/
def wordJoinedSpec : ChangeSpec := { name := "wordJoined", fn := fun _ => fun
  | [d1, d2] => { results := [.lit (.bool true)], args := [d1, d2] }
  | _ => none }
def wordJoinedRow : OpenClaim := { program := "ytokkgjiofhhlkaadoor", sum := "f57dea84851bb3a3cd1326e259e9b8d2f75090f6795df6e93f171829277c6b5f", func := "muslin/muslinlaw05.WordJoined", spec := "wordJoined", inPlace := ["internal/bytealg.IndexByteString", "internal/bytealg.IndexString", "internal/abi.NoEscape", "internal/bytealg.MakeNoZero"], unfollowed := true, recurses := true, named := ["internal/bytealg.MaxLen", "unicode/utf8.first", "unicode/utf8.acceptRanges", "muslin/chars.high"], apart := false, laid := [("unicode/utf8.acceptRanges", laid_unicode_utf8_acceptRanges), ("muslin/chars.high", laid_muslin_chars_high), ("unicode/utf8.first", laid_unicode_utf8_first)] }
def WordJoinedSaid : Prop := wordJoinedRow.holds Tryd.pinned (OpenSpec.ofChange wordJoinedSpec)

/-- ITS FALSE NEIGHBOUR: 'it returns false'. Refute it at one input. -/
def wordJoinedWrong : ChangeSpec := { name := "wordJoined", fn := fun _ => fun
  | [d1, d2] => { results := [.lit (.bool false)], args := [d1, d2] }
  | _ => none }
def WordJoinedWrongFalsely : Prop := wordJoinedRow.holds Tryd.pinned (OpenSpec.ofChange wordJoinedWrong)

/-- 'muslinlaw05.WordShort': WHATEVER THE INPUT: true; the input reads as it did. -/
def wordShortSpec : ChangeSpec := { name := "wordShort", fn := fun _ => fun
  | [d] => { results := [.lit (.bool true)], args := [d] }
  | _ => none }
def wordShortRow : OpenClaim := { program := "ytokkgjiofhhlkaadoor", sum := "f57dea84851bb3a3cd1326e259e9b8d2f75090f6795df6e93f171829277c6b5f", func := "muslin/muslinlaw05.WordShort", spec := "wordShort", inPlace := ["internal/bytealg.IndexByteString", "internal/bytealg.IndexString", "internal/abi.NoEscape", "internal/bytealg.MakeNoZero"], unfollowed := true, recurses := true, named := ["internal/bytealg.MaxLen", "unicode/utf8.first", "unicode/utf8.acceptRanges", "muslin/chars.high"], apart := false, laid := [("unicode/utf8.acceptRanges", laid_unicode_utf8_acceptRanges), ("muslin/chars.high", laid_muslin_chars_high), ("unicode/utf8.first", laid_unicode_utf8_first)] }
def WordShortSaid : Prop := wordShortRow.holds Tryd.pinned (OpenSpec.ofChange wordShortSpec)

/-- ITS FALSE NEIGHBOUR: 'it returns false'. Refute it at one input. -/
def wordShortWrong : ChangeSpec := { name := "wordShort", fn := fun _ => fun
  | [d] => { results := [.lit (.bool false)], args := [d] }
  | _ => none }
def WordShortWrongFalsely : Prop := wordShortRow.holds Tryd.pinned (OpenSpec.ofChange wordShortWrong)

/- THE SECOND FORM. 'bulk': how many values and letters a reading holds, each counted each time it is reached (what is shared counts as often as it is met; a slice's spare places count too). A statement '..UptoSaid' is the law's where the arguments, and the package variables that the reading takes, are together of bulk at most 1048576: NARROWER than '..Said'. Prove '..Said' where nothing that the law and all that it calls make is longer than what came in: it says more and counts as full. Else prove '..UptoSaid'. A law counts once. -/
mutual
def uptoBulk {H : Type} : DataW H → Nat
  | .lit (.string bytes) => bytes.length + 1
  | .lit _ => 1
  | .nil => 1
  | .ptr d => uptoBulk d + 1
  | .slice elems spare => uptoBulkAll elems + uptoBulkAll spare + 1
  | .agg parts => uptoBulkAll parts + 1
  | .iface _ d => uptoBulk d + 1
  | .map entries => uptoBulkEntries entries + 1
  | .held _ => 1
def uptoBulkAll {H : Type} : List (DataW H) → Nat
  | [] => 0
  | d :: r => uptoBulk d + uptoBulkAll r
def uptoBulkEntries {H : Type} : List (Lit × DataW H) → Nat
  | [] => 0
  | x :: r => uptoBulkEntry x + uptoBulkEntries r
def uptoBulkEntry {H : Type} : Lit × DataW H → Nat
  | (.string bytes, d) => bytes.length + uptoBulk d + 1
  | (_, d) => uptoBulk d + 1
 end
def uptoSmall : (H : Type) → List (DataW H) → Bool := fun _ ds => decide (uptoBulkAll ds ≤ 1048576)
def OpenSpec.upto (s : _root_.Go.ChangeSpec) : _root_.Go.OpenSpec := { _root_.Go.OpenSpec.ofChange s with cond := some uptoSmall }

/-- 'muslinlaw05.WordDecodes', WHERE WHAT IT READS IS OF BULK AT MOST 1048576: true; the input reads as it did. -/
def wordDecodesUptoRow : OpenClaim := { program := "ytokkgjiofhhlkaadoor", sum := "f57dea84851bb3a3cd1326e259e9b8d2f75090f6795df6e93f171829277c6b5f", func := "muslin/muslinlaw05.WordDecodes", spec := "wordDecodes", inPlace := ["internal/bytealg.IndexByteString", "internal/bytealg.IndexString", "internal/abi.NoEscape", "internal/bytealg.MakeNoZero"], unfollowed := true, recurses := true, named := ["internal/bytealg.MaxLen", "unicode/utf8.first", "unicode/utf8.acceptRanges", "muslin/chars.high"], apart := false, laid := [("unicode/utf8.acceptRanges", laid_unicode_utf8_acceptRanges), ("muslin/chars.high", laid_muslin_chars_high), ("unicode/utf8.first", laid_unicode_utf8_first)], narrowed := true }
def WordDecodesUptoSaid : Prop := wordDecodesUptoRow.holds Tryd.pinned (OpenSpec.upto wordDecodesSpec)

/-- 'muslinlaw05.WordEncodes', WHERE WHAT IT READS IS OF BULK AT MOST 1048576: true; the input reads as it did. -/
def wordEncodesUptoRow : OpenClaim := { program := "ytokkgjiofhhlkaadoor", sum := "f57dea84851bb3a3cd1326e259e9b8d2f75090f6795df6e93f171829277c6b5f", func := "muslin/muslinlaw05.WordEncodes", spec := "wordEncodes", inPlace := ["internal/bytealg.IndexByteString", "internal/bytealg.IndexString", "internal/abi.NoEscape", "internal/bytealg.MakeNoZero"], unfollowed := true, recurses := true, named := ["internal/bytealg.MaxLen", "unicode/utf8.first", "unicode/utf8.acceptRanges", "muslin/chars.high"], apart := false, laid := [("unicode/utf8.acceptRanges", laid_unicode_utf8_acceptRanges), ("muslin/chars.high", laid_muslin_chars_high), ("unicode/utf8.first", laid_unicode_utf8_first)], narrowed := true }
def WordEncodesUptoSaid : Prop := wordEncodesUptoRow.holds Tryd.pinned (OpenSpec.upto wordEncodesSpec)

/-- 'muslinlaw05.WordBack', WHERE WHAT IT READS IS OF BULK AT MOST 1048576: true; the input reads as it did. -/
def wordBackUptoRow : OpenClaim := { program := "ytokkgjiofhhlkaadoor", sum := "f57dea84851bb3a3cd1326e259e9b8d2f75090f6795df6e93f171829277c6b5f", func := "muslin/muslinlaw05.WordBack", spec := "wordBack", inPlace := ["internal/bytealg.IndexByteString", "internal/bytealg.IndexString", "internal/abi.NoEscape", "internal/bytealg.MakeNoZero"], unfollowed := true, recurses := true, named := ["internal/bytealg.MaxLen", "unicode/utf8.first", "unicode/utf8.acceptRanges", "muslin/chars.high"], apart := false, laid := [("unicode/utf8.acceptRanges", laid_unicode_utf8_acceptRanges), ("muslin/chars.high", laid_muslin_chars_high), ("unicode/utf8.first", laid_unicode_utf8_first)], narrowed := true }
def WordBackUptoSaid : Prop := wordBackUptoRow.holds Tryd.pinned (OpenSpec.upto wordBackSpec)

/-- 'muslinlaw05.WordValid', WHERE WHAT IT READS IS OF BULK AT MOST 1048576: true; the input reads as it did. -/
def wordValidUptoRow : OpenClaim := { program := "ytokkgjiofhhlkaadoor", sum := "f57dea84851bb3a3cd1326e259e9b8d2f75090f6795df6e93f171829277c6b5f", func := "muslin/muslinlaw05.WordValid", spec := "wordValid", inPlace := ["internal/bytealg.IndexByteString", "internal/bytealg.IndexString", "internal/abi.NoEscape", "internal/bytealg.MakeNoZero"], unfollowed := true, recurses := true, named := ["internal/bytealg.MaxLen", "unicode/utf8.first", "unicode/utf8.acceptRanges", "muslin/chars.high"], apart := false, laid := [("unicode/utf8.acceptRanges", laid_unicode_utf8_acceptRanges), ("muslin/chars.high", laid_muslin_chars_high), ("unicode/utf8.first", laid_unicode_utf8_first)], narrowed := true }
def WordValidUptoSaid : Prop := wordValidUptoRow.holds Tryd.pinned (OpenSpec.upto wordValidSpec)

/-- 'muslinlaw05.WordJoined', WHERE WHAT IT READS IS OF BULK AT MOST 1048576: true; the input reads as it did. -/
def wordJoinedUptoRow : OpenClaim := { program := "ytokkgjiofhhlkaadoor", sum := "f57dea84851bb3a3cd1326e259e9b8d2f75090f6795df6e93f171829277c6b5f", func := "muslin/muslinlaw05.WordJoined", spec := "wordJoined", inPlace := ["internal/bytealg.IndexByteString", "internal/bytealg.IndexString", "internal/abi.NoEscape", "internal/bytealg.MakeNoZero"], unfollowed := true, recurses := true, named := ["internal/bytealg.MaxLen", "unicode/utf8.first", "unicode/utf8.acceptRanges", "muslin/chars.high"], apart := false, laid := [("unicode/utf8.acceptRanges", laid_unicode_utf8_acceptRanges), ("muslin/chars.high", laid_muslin_chars_high), ("unicode/utf8.first", laid_unicode_utf8_first)], narrowed := true }
def WordJoinedUptoSaid : Prop := wordJoinedUptoRow.holds Tryd.pinned (OpenSpec.upto wordJoinedSpec)

/-- 'muslinlaw05.WordShort', WHERE WHAT IT READS IS OF BULK AT MOST 1048576: true; the input reads as it did. -/
def wordShortUptoRow : OpenClaim := { program := "ytokkgjiofhhlkaadoor", sum := "f57dea84851bb3a3cd1326e259e9b8d2f75090f6795df6e93f171829277c6b5f", func := "muslin/muslinlaw05.WordShort", spec := "wordShort", inPlace := ["internal/bytealg.IndexByteString", "internal/bytealg.IndexString", "internal/abi.NoEscape", "internal/bytealg.MakeNoZero"], unfollowed := true, recurses := true, named := ["internal/bytealg.MaxLen", "unicode/utf8.first", "unicode/utf8.acceptRanges", "muslin/chars.high"], apart := false, laid := [("unicode/utf8.acceptRanges", laid_unicode_utf8_acceptRanges), ("muslin/chars.high", laid_muslin_chars_high), ("unicode/utf8.first", laid_unicode_utf8_first)], narrowed := true }
def WordShortUptoSaid : Prop := wordShortUptoRow.holds Tryd.pinned (OpenSpec.upto wordShortSpec)

end Rows
end Go.Proofs.YtokkgjiofhhlkaaDoor
