/-
  NARROWER THAN 'FOR EVERY INPUT', by the rows' own cells (each row's printed sentence says how): CharsDecodes: laid · CharsValid: laid · CharsWhole: laid · CharsTurned: laid · CharsPlain: laid · CharsNames: laid · CharsSizes: laid.
  DERIVED. THE GIVEN ROWS OF THIS SEAT. 7 by the template 'for every input the law returns true; each argument reads behind the call as it read before'; 0 by the template 'total and deterministic' (their statements: YtkhloimbaepmeaaDoorTotals.lean).
  GIVEN WITH THE SEED: the statements are not yours to turn. If you find one false, say at which input.
  Laid BY PROGRAM, IN A SANDBOX (cutbox-rows.mjs): the forced cells as the released guide's own fill.sh prints them over the translation 5d2a507d1c8cea96… (all of the seat's roots in one cut). By AI agents, Wed Nov 11 2026. No macro, syntax, notation, axiom, sorry.
-/
import Derived.Test.YtkhloimbaepmeaaDoorChecked
import GoSem.PinnedTables
import GoSem.Claim
import GoSem.ClaimJoined
import GoSem.ClaimMapViews
import Derived.JoinedTies
import Derived.KernelRfl
namespace Go.Proofs.YtkhloimbaepmeaaDoor
/- THE CELL 'sum', in the pinned program and in every row, IS THE sha256 OF THE DUMP (.gsa) THAT YtkhloimbaepmeaaDoorProg.lean LOADS. Nothing in Lean hashes anything: it is a label: what it is worth is what the hold of that sum in a sandbox is worth. -/
noncomputable def Tryd.pinned : Pinned := { name := "ytkhloimbaepmeaadoor", sum := "5d2a507d1c8cea96f45d57f999d4585dc5544997ba7f46b778332ce331a1df8d", checked := Tryd.checked }
namespace Rows
def none {H : Type} : Left H := { results := [], args := [] }

/- WHAT THE LISTED PACKAGE-LEVEL VARIABLES READ AS WHEN THE CALL BEGINS. Each datum BY PROGRAM (the guide's laid-datum.mjs) off the statement by which the dump's own 'gosem.cut.vars' lays the variable. In a bare row this is a premise. The card (YtkhloimbaepmeaaDoorCards.lean) ties it to the program's text. -/
def laid_unicode_utf8_acceptRanges {H : Type} : DataW H := .agg [.agg [.lit (.int .u8 128), .lit (.int .u8 191)], .agg [.lit (.int .u8 160), .lit (.int .u8 191)], .agg [.lit (.int .u8 128), .lit (.int .u8 159)], .agg [.lit (.int .u8 144), .lit (.int .u8 191)], .agg [.lit (.int .u8 128), .lit (.int .u8 143)], .agg [.lit (.int .u8 0), .lit (.int .u8 0)], .agg [.lit (.int .u8 0), .lit (.int .u8 0)], .agg [.lit (.int .u8 0), .lit (.int .u8 0)], .agg [.lit (.int .u8 0), .lit (.int .u8 0)], .agg [.lit (.int .u8 0), .lit (.int .u8 0)], .agg [.lit (.int .u8 0), .lit (.int .u8 0)], .agg [.lit (.int .u8 0), .lit (.int .u8 0)], .agg [.lit (.int .u8 0), .lit (.int .u8 0)], .agg [.lit (.int .u8 0), .lit (.int .u8 0)], .agg [.lit (.int .u8 0), .lit (.int .u8 0)], .agg [.lit (.int .u8 0), .lit (.int .u8 0)]]
def laid_muslin_chars_high {H : Type} : DataW H := .agg [.lit (.int .i32 8364), .lit (.int .i32 129), .lit (.int .i32 8218), .lit (.int .i32 402), .lit (.int .i32 8222), .lit (.int .i32 8230), .lit (.int .i32 8224), .lit (.int .i32 8225), .lit (.int .i32 710), .lit (.int .i32 8240), .lit (.int .i32 352), .lit (.int .i32 8249), .lit (.int .i32 338), .lit (.int .i32 141), .lit (.int .i32 381), .lit (.int .i32 143), .lit (.int .i32 144), .lit (.int .i32 8216), .lit (.int .i32 8217), .lit (.int .i32 8220), .lit (.int .i32 8221), .lit (.int .i32 8226), .lit (.int .i32 8211), .lit (.int .i32 8212), .lit (.int .i32 732), .lit (.int .i32 8482), .lit (.int .i32 353), .lit (.int .i32 8250), .lit (.int .i32 339), .lit (.int .i32 157), .lit (.int .i32 382), .lit (.int .i32 376)]
/-- One of Go's own tables, pinned by name: the form's constant. -/
def laid_unicode_utf8_first : DataW Unit := Go.Pinned.utf8First

/-- 'muslinlaw04.CharsDecodes': WHATEVER THE INPUT: true; the input reads as it did. -/
def charsDecodesSpec : ChangeSpec := { name := "charsDecodes", fn := fun _ => fun
  | [d1, d2] => { results := [.lit (.bool true)], args := [d1, d2] }
  | _ => none }
def charsDecodesRow : OpenClaim := { program := "ytkhloimbaepmeaadoor", sum := "5d2a507d1c8cea96f45d57f999d4585dc5544997ba7f46b778332ce331a1df8d", func := "muslin/muslinlaw04.CharsDecodes", spec := "charsDecodes", inPlace := ["internal/bytealg.IndexByteString", "internal/bytealg.IndexString", "internal/abi.NoEscape"], named := ["unicode/utf8.first", "unicode/utf8.acceptRanges", "muslin/chars.high", "internal/bytealg.MaxLen"], apart := false, laid := [("unicode/utf8.acceptRanges", laid_unicode_utf8_acceptRanges), ("muslin/chars.high", laid_muslin_chars_high), ("unicode/utf8.first", laid_unicode_utf8_first)] }
def CharsDecodesSaid : Prop := charsDecodesRow.holds Tryd.pinned (OpenSpec.ofChange charsDecodesSpec)

/-- ITS FALSE NEIGHBOUR: 'it returns false'. Refute it at one input. -/
def charsDecodesWrong : ChangeSpec := { name := "charsDecodes", fn := fun _ => fun
  | [d1, d2] => { results := [.lit (.bool false)], args := [d1, d2] }
  | _ => none }
def CharsDecodesWrongFalsely : Prop := charsDecodesRow.holds Tryd.pinned (OpenSpec.ofChange charsDecodesWrong)

/-- 'muslinlaw04.CharsValid': WHATEVER THE INPUT: true; the input reads as it did. -/
def charsValidSpec : ChangeSpec := { name := "charsValid", fn := fun _ => fun
  | [d] => { results := [.lit (.bool true)], args := [d] }
  | _ => none }
def charsValidRow : OpenClaim := { program := "ytkhloimbaepmeaadoor", sum := "5d2a507d1c8cea96f45d57f999d4585dc5544997ba7f46b778332ce331a1df8d", func := "muslin/muslinlaw04.CharsValid", spec := "charsValid", inPlace := ["internal/bytealg.IndexByteString", "internal/bytealg.IndexString", "internal/abi.NoEscape"], named := ["unicode/utf8.first", "unicode/utf8.acceptRanges", "muslin/chars.high", "internal/bytealg.MaxLen"], apart := false, laid := [("unicode/utf8.acceptRanges", laid_unicode_utf8_acceptRanges), ("muslin/chars.high", laid_muslin_chars_high), ("unicode/utf8.first", laid_unicode_utf8_first)] }
def CharsValidSaid : Prop := charsValidRow.holds Tryd.pinned (OpenSpec.ofChange charsValidSpec)

/-- ITS FALSE NEIGHBOUR: 'it returns false'. Refute it at one input. -/
def charsValidWrong : ChangeSpec := { name := "charsValid", fn := fun _ => fun
  | [d] => { results := [.lit (.bool false)], args := [d] }
  | _ => none }
def CharsValidWrongFalsely : Prop := charsValidRow.holds Tryd.pinned (OpenSpec.ofChange charsValidWrong)

/-- 'muslinlaw04.CharsWhole': WHATEVER THE INPUT: true; the input reads as it did. -/
def charsWholeSpec : ChangeSpec := { name := "charsWhole", fn := fun _ => fun
  | [d1, d2] => { results := [.lit (.bool true)], args := [d1, d2] }
  | _ => none }
def charsWholeRow : OpenClaim := { program := "ytkhloimbaepmeaadoor", sum := "5d2a507d1c8cea96f45d57f999d4585dc5544997ba7f46b778332ce331a1df8d", func := "muslin/muslinlaw04.CharsWhole", spec := "charsWhole", inPlace := ["internal/bytealg.IndexByteString", "internal/bytealg.IndexString", "internal/abi.NoEscape"], named := ["unicode/utf8.first", "unicode/utf8.acceptRanges", "muslin/chars.high", "internal/bytealg.MaxLen"], apart := false, laid := [("unicode/utf8.acceptRanges", laid_unicode_utf8_acceptRanges), ("muslin/chars.high", laid_muslin_chars_high), ("unicode/utf8.first", laid_unicode_utf8_first)] }
def CharsWholeSaid : Prop := charsWholeRow.holds Tryd.pinned (OpenSpec.ofChange charsWholeSpec)

/-- ITS FALSE NEIGHBOUR: 'it returns false'. Refute it at one input. -/
def charsWholeWrong : ChangeSpec := { name := "charsWhole", fn := fun _ => fun
  | [d1, d2] => { results := [.lit (.bool false)], args := [d1, d2] }
  | _ => none }
def CharsWholeWrongFalsely : Prop := charsWholeRow.holds Tryd.pinned (OpenSpec.ofChange charsWholeWrong)

/-- 'muslinlaw04.CharsTurned': WHATEVER THE INPUT: true; the input reads as it did. -/
def charsTurnedSpec : ChangeSpec := { name := "charsTurned", fn := fun _ => fun
  | [d] => { results := [.lit (.bool true)], args := [d] }
  | _ => none }
def charsTurnedRow : OpenClaim := { program := "ytkhloimbaepmeaadoor", sum := "5d2a507d1c8cea96f45d57f999d4585dc5544997ba7f46b778332ce331a1df8d", func := "muslin/muslinlaw04.CharsTurned", spec := "charsTurned", inPlace := ["internal/bytealg.IndexByteString", "internal/bytealg.IndexString", "internal/abi.NoEscape"], named := ["unicode/utf8.first", "unicode/utf8.acceptRanges", "muslin/chars.high", "internal/bytealg.MaxLen"], apart := false, laid := [("unicode/utf8.acceptRanges", laid_unicode_utf8_acceptRanges), ("muslin/chars.high", laid_muslin_chars_high), ("unicode/utf8.first", laid_unicode_utf8_first)] }
def CharsTurnedSaid : Prop := charsTurnedRow.holds Tryd.pinned (OpenSpec.ofChange charsTurnedSpec)

/-- ITS FALSE NEIGHBOUR: 'it returns false'. Refute it at one input. -/
def charsTurnedWrong : ChangeSpec := { name := "charsTurned", fn := fun _ => fun
  | [d] => { results := [.lit (.bool false)], args := [d] }
  | _ => none }
def CharsTurnedWrongFalsely : Prop := charsTurnedRow.holds Tryd.pinned (OpenSpec.ofChange charsTurnedWrong)

/-- 'muslinlaw04.CharsPlain': WHATEVER THE INPUT: true; the input reads as it did. -/
def charsPlainSpec : ChangeSpec := { name := "charsPlain", fn := fun _ => fun
  | [d1, d2] => { results := [.lit (.bool true)], args := [d1, d2] }
  | _ => none }
def charsPlainRow : OpenClaim := { program := "ytkhloimbaepmeaadoor", sum := "5d2a507d1c8cea96f45d57f999d4585dc5544997ba7f46b778332ce331a1df8d", func := "muslin/muslinlaw04.CharsPlain", spec := "charsPlain", inPlace := ["internal/bytealg.IndexByteString", "internal/bytealg.IndexString", "internal/abi.NoEscape"], named := ["unicode/utf8.first", "unicode/utf8.acceptRanges", "muslin/chars.high", "internal/bytealg.MaxLen"], apart := false, laid := [("unicode/utf8.acceptRanges", laid_unicode_utf8_acceptRanges), ("muslin/chars.high", laid_muslin_chars_high), ("unicode/utf8.first", laid_unicode_utf8_first)] }
def CharsPlainSaid : Prop := charsPlainRow.holds Tryd.pinned (OpenSpec.ofChange charsPlainSpec)

/-- ITS FALSE NEIGHBOUR: 'it returns false'. Refute it at one input. -/
def charsPlainWrong : ChangeSpec := { name := "charsPlain", fn := fun _ => fun
  | [d1, d2] => { results := [.lit (.bool false)], args := [d1, d2] }
  | _ => none }
def CharsPlainWrongFalsely : Prop := charsPlainRow.holds Tryd.pinned (OpenSpec.ofChange charsPlainWrong)

/-- 'muslinlaw04.CharsNames': WHATEVER THE INPUT: true; the input reads as it did. -/
def charsNamesSpec : ChangeSpec := { name := "charsNames", fn := fun _ => fun
  | [d] => { results := [.lit (.bool true)], args := [d] }
  | _ => none }
def charsNamesRow : OpenClaim := { program := "ytkhloimbaepmeaadoor", sum := "5d2a507d1c8cea96f45d57f999d4585dc5544997ba7f46b778332ce331a1df8d", func := "muslin/muslinlaw04.CharsNames", spec := "charsNames", inPlace := ["internal/bytealg.IndexByteString", "internal/bytealg.IndexString", "internal/abi.NoEscape"], named := ["unicode/utf8.first", "unicode/utf8.acceptRanges", "muslin/chars.high", "internal/bytealg.MaxLen"], apart := false, laid := [("unicode/utf8.acceptRanges", laid_unicode_utf8_acceptRanges), ("muslin/chars.high", laid_muslin_chars_high), ("unicode/utf8.first", laid_unicode_utf8_first)] }
def CharsNamesSaid : Prop := charsNamesRow.holds Tryd.pinned (OpenSpec.ofChange charsNamesSpec)

/-- ITS FALSE NEIGHBOUR: 'it returns false'. Refute it at one input. -/
def charsNamesWrong : ChangeSpec := { name := "charsNames", fn := fun _ => fun
  | [d] => { results := [.lit (.bool false)], args := [d] }
  | _ => none }
def CharsNamesWrongFalsely : Prop := charsNamesRow.holds Tryd.pinned (OpenSpec.ofChange charsNamesWrong)

/-- 'muslinlaw04.CharsSizes': WHATEVER THE INPUT: true; the input reads as it did. -/
def charsSizesSpec : ChangeSpec := { name := "charsSizes", fn := fun _ => fun
  | [d1, d2] => { results := [.lit (.bool true)], args := [d1, d2] }
  | _ => none }
def charsSizesRow : OpenClaim := { program := "ytkhloimbaepmeaadoor", sum := "5d2a507d1c8cea96f45d57f999d4585dc5544997ba7f46b778332ce331a1df8d", func := "muslin/muslinlaw04.CharsSizes", spec := "charsSizes", inPlace := ["internal/bytealg.IndexByteString", "internal/bytealg.IndexString", "internal/abi.NoEscape"], named := ["unicode/utf8.first", "unicode/utf8.acceptRanges", "muslin/chars.high", "internal/bytealg.MaxLen"], apart := false, laid := [("unicode/utf8.acceptRanges", laid_unicode_utf8_acceptRanges), ("muslin/chars.high", laid_muslin_chars_high), ("unicode/utf8.first", laid_unicode_utf8_first)] }
def CharsSizesSaid : Prop := charsSizesRow.holds Tryd.pinned (OpenSpec.ofChange charsSizesSpec)

/-- ITS FALSE NEIGHBOUR: 'it returns false'. Refute it at one input. -/
def charsSizesWrong : ChangeSpec := { name := "charsSizes", fn := fun _ => fun
  | [d1, d2] => { results := [.lit (.bool false)], args := [d1, d2] }
  | _ => none }
def CharsSizesWrongFalsely : Prop := charsSizesRow.holds Tryd.pinned (OpenSpec.ofChange charsSizesWrong)

/- THE SECOND FORM. 'bulk': how many values and letters a reading holds, each counted each time it is reached (what is shared counts as often as it is met; a slice's spare places count too). A statement '..UptoSaid' is the law's where the arguments, and the package variables that the reading takes, are together of bulk at most 1048576: NARROWER than '..Said'. Prove '..Said' where nothing that the law and all that it calls make is longer than what came in: it says more and counts as full. Else prove '..UptoSaid'. A law counts once. -/
mutual
def uptoBulk {H : Type} : DataW H → Nat
  | .lit (.string bytes) => bytes.length + 1
  | .lit _ => 1
  | .nil => 1
  | .ptr d => uptoBulk d + 1
  | .slice elems spare => uptoBulkAll elems + uptoBulkAll spare + 1
  | .agg parts => uptoBulkAll parts + 1
  | .iface _ d => uptoBulk d + 1
  | .map entries => uptoBulkEntries entries + 1
  | .held _ => 1
def uptoBulkAll {H : Type} : List (DataW H) → Nat
  | [] => 0
  | d :: r => uptoBulk d + uptoBulkAll r
def uptoBulkEntries {H : Type} : List (Lit × DataW H) → Nat
  | [] => 0
  | x :: r => uptoBulkEntry x + uptoBulkEntries r
def uptoBulkEntry {H : Type} : Lit × DataW H → Nat
  | (.string bytes, d) => bytes.length + uptoBulk d + 1
  | (_, d) => uptoBulk d + 1
 end
def uptoSmall : (H : Type) → List (DataW H) → Bool := fun _ ds => decide (uptoBulkAll ds ≤ 1048576)
def OpenSpec.upto (s : _root_.Go.ChangeSpec) : _root_.Go.OpenSpec := { _root_.Go.OpenSpec.ofChange s with cond := some uptoSmall }

/-- 'muslinlaw04.CharsDecodes', WHERE WHAT IT READS IS OF BULK AT MOST 1048576: true; the input reads as it did. -/
def charsDecodesUptoRow : OpenClaim := { program := "ytkhloimbaepmeaadoor", sum := "5d2a507d1c8cea96f45d57f999d4585dc5544997ba7f46b778332ce331a1df8d", func := "muslin/muslinlaw04.CharsDecodes", spec := "charsDecodes", inPlace := ["internal/bytealg.IndexByteString", "internal/bytealg.IndexString", "internal/abi.NoEscape"], named := ["unicode/utf8.first", "unicode/utf8.acceptRanges", "muslin/chars.high", "internal/bytealg.MaxLen"], apart := false, laid := [("unicode/utf8.acceptRanges", laid_unicode_utf8_acceptRanges), ("muslin/chars.high", laid_muslin_chars_high), ("unicode/utf8.first", laid_unicode_utf8_first)], narrowed := true }
def CharsDecodesUptoSaid : Prop := charsDecodesUptoRow.holds Tryd.pinned (OpenSpec.upto charsDecodesSpec)

/-- 'muslinlaw04.CharsValid', WHERE WHAT IT READS IS OF BULK AT MOST 1048576: true; the input reads as it did. -/
def charsValidUptoRow : OpenClaim := { program := "ytkhloimbaepmeaadoor", sum := "5d2a507d1c8cea96f45d57f999d4585dc5544997ba7f46b778332ce331a1df8d", func := "muslin/muslinlaw04.CharsValid", spec := "charsValid", inPlace := ["internal/bytealg.IndexByteString", "internal/bytealg.IndexString", "internal/abi.NoEscape"], named := ["unicode/utf8.first", "unicode/utf8.acceptRanges", "muslin/chars.high", "internal/bytealg.MaxLen"], apart := false, laid := [("unicode/utf8.acceptRanges", laid_unicode_utf8_acceptRanges), ("muslin/chars.high", laid_muslin_chars_high), ("unicode/utf8.first", laid_unicode_utf8_first)], narrowed := true }
def CharsValidUptoSaid : Prop := charsValidUptoRow.holds Tryd.pinned (OpenSpec.upto charsValidSpec)

/-- 'muslinlaw04.CharsWhole', WHERE WHAT IT READS IS OF BULK AT MOST 1048576: true; the input reads as it did. -/
def charsWholeUptoRow : OpenClaim := { program := "ytkhloimbaepmeaadoor", sum := "5d2a507d1c8cea96f45d57f999d4585dc5544997ba7f46b778332ce331a1df8d", func := "muslin/muslinlaw04.CharsWhole", spec := "charsWhole", inPlace := ["internal/bytealg.IndexByteString", "internal/bytealg.IndexString", "internal/abi.NoEscape"], named := ["unicode/utf8.first", "unicode/utf8.acceptRanges", "muslin/chars.high", "internal/bytealg.MaxLen"], apart := false, laid := [("unicode/utf8.acceptRanges", laid_unicode_utf8_acceptRanges), ("muslin/chars.high", laid_muslin_chars_high), ("unicode/utf8.first", laid_unicode_utf8_first)], narrowed := true }
def CharsWholeUptoSaid : Prop := charsWholeUptoRow.holds Tryd.pinned (OpenSpec.upto charsWholeSpec)

/-- 'muslinlaw04.CharsTurned', WHERE WHAT IT READS IS OF BULK AT MOST 1048576: true; the input reads as it did. -/
def charsTurnedUptoRow : OpenClaim := { program := "ytkhloimbaepmeaadoor", sum := "5d2a507d1c8cea96f45d57f999d4585dc5544997ba7f46b778332ce331a1df8d", func := "muslin/muslinlaw04.CharsTurned", spec := "charsTurned", inPlace := ["internal/bytealg.IndexByteString", "internal/bytealg.IndexString", "internal/abi.NoEscape"], named := ["unicode/utf8.first", "unicode/utf8.acceptRanges", "muslin/chars.high", "internal/bytealg.MaxLen"], apart := false, laid := [("unicode/utf8.acceptRanges", laid_unicode_utf8_acceptRanges), ("muslin/chars.high", laid_muslin_chars_high), ("unicode/utf8.first", laid_unicode_utf8_first)], narrowed := true }
def CharsTurnedUptoSaid : Prop := charsTurnedUptoRow.holds Tryd.pinned (OpenSpec.upto charsTurnedSpec)

/-- 'muslinlaw04.CharsPlain', WHERE WHAT IT READS IS OF BULK AT MOST 1048576: true; the input reads as it did. -/
def charsPlainUptoRow : OpenClaim := { program := "ytkhloimbaepmeaadoor", sum := "5d2a507d1c8cea96f45d57f999d4585dc5544997ba7f46b778332ce331a1df8d", func := "muslin/muslinlaw04.CharsPlain", spec := "charsPlain", inPlace := ["internal/bytealg.IndexByteString", "internal/bytealg.IndexString", "internal/abi.NoEscape"], named := ["unicode/utf8.first", "unicode/utf8.acceptRanges", "muslin/chars.high", "internal/bytealg.MaxLen"], apart := false, laid := [("unicode/utf8.acceptRanges", laid_unicode_utf8_acceptRanges), ("muslin/chars.high", laid_muslin_chars_high), ("unicode/utf8.first", laid_unicode_utf8_first)], narrowed := true }
def CharsPlainUptoSaid : Prop := charsPlainUptoRow.holds Tryd.pinned (OpenSpec.upto charsPlainSpec)

/-- 'muslinlaw04.CharsNames', WHERE WHAT IT READS IS OF BULK AT MOST 1048576: true; the input reads as it did. -/
def charsNamesUptoRow : OpenClaim := { program := "ytkhloimbaepmeaadoor", sum := "5d2a507d1c8cea96f45d57f999d4585dc5544997ba7f46b778332ce331a1df8d", func := "muslin/muslinlaw04.CharsNames", spec := "charsNames", inPlace := ["internal/bytealg.IndexByteString", "internal/bytealg.IndexString", "internal/abi.NoEscape"], named := ["unicode/utf8.first", "unicode/utf8.acceptRanges", "muslin/chars.high", "internal/bytealg.MaxLen"], apart := false, laid := [("unicode/utf8.acceptRanges", laid_unicode_utf8_acceptRanges), ("muslin/chars.high", laid_muslin_chars_high), ("unicode/utf8.first", laid_unicode_utf8_first)], narrowed := true }
def CharsNamesUptoSaid : Prop := charsNamesUptoRow.holds Tryd.pinned (OpenSpec.upto charsNamesSpec)

/-- 'muslinlaw04.CharsSizes', WHERE WHAT IT READS IS OF BULK AT MOST 1048576: true; the input reads as it did. -/
def charsSizesUptoRow : OpenClaim := { program := "ytkhloimbaepmeaadoor", sum := "5d2a507d1c8cea96f45d57f999d4585dc5544997ba7f46b778332ce331a1df8d", func := "muslin/muslinlaw04.CharsSizes", spec := "charsSizes", inPlace := ["internal/bytealg.IndexByteString", "internal/bytealg.IndexString", "internal/abi.NoEscape"], named := ["unicode/utf8.first", "unicode/utf8.acceptRanges", "muslin/chars.high", "internal/bytealg.MaxLen"], apart := false, laid := [("unicode/utf8.acceptRanges", laid_unicode_utf8_acceptRanges), ("muslin/chars.high", laid_muslin_chars_high), ("unicode/utf8.first", laid_unicode_utf8_first)], narrowed := true }
def CharsSizesUptoSaid : Prop := charsSizesUptoRow.holds Tryd.pinned (OpenSpec.upto charsSizesSpec)

end Rows
end Go.Proofs.YtkhloimbaepmeaaDoor
