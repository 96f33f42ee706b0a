/- The listed tables: a world in which they lie, and what the rows' condition gives. -/
import Derived.Test.YtkhloimbaepmeaaDoorRows
import Derived.Test.YtkhloimbaepmeaaDoorGlob04
import Derived.LaidMore
import Derived.ProofKit
import Derived.Lib.LaidTab
import Derived.Stop.LaidErr
namespace Go.Proofs.YtkhloimbaepmeaaDoor
open Go.RowKit Go.ChangeShapes Go.WideShapes Go.ChangeAt

noncomputable def laidWorld (os : Os) : World :=
  { World.doorLaid Tryd.prog 24 os with heap := (World.doorLaid Tryd.prog 24 os).heap.modify 1 fun
      | .cells _ t frozen => .cells (Go.Pinned.utf8FirstZ.map fun (z : Nat) => Value.int .u8 (z : Int)).toArray t frozen
      | o => o }
theorem glob_of {W : World} {a : DataW Unit} {rest : List (String × DataW Unit)} (h : laidMet Tryd.prog (("unicode/utf8.acceptRanges", a) :: ("muslin/chars.high", Lib.tabData .i32 highTab) :: rest) W) : Glob W :=
  ⟨Lib.tabIs_of_head (show Tryd.prog.globalNamed "muslin/chars.high" = some 0 from by kernel_rfl) (show (Tryd.prog.globals[0]?).map (·.type) = some 46 from by kernel_rfl) Tryd.underlying46 Tryd.underlying21 (by kernel_rfl) (by kernel_rfl) h.tail⟩
theorem glob_charsDecodes {W : World} (h : laidMetH Tryd.prog Rows.charsDecodesRow.laid W) : Glob W := glob_of h
theorem glob_charsValid {W : World} (h : laidMetH Tryd.prog Rows.charsValidRow.laid W) : Glob W := glob_of h
theorem glob_charsWhole {W : World} (h : laidMetH Tryd.prog Rows.charsWholeRow.laid W) : Glob W := glob_of h
theorem glob_charsTurned {W : World} (h : laidMetH Tryd.prog Rows.charsTurnedRow.laid W) : Glob W := glob_of h
theorem glob_charsPlain {W : World} (h : laidMetH Tryd.prog Rows.charsPlainRow.laid W) : Glob W := glob_of h
theorem glob_charsNames {W : World} (h : laidMetH Tryd.prog Rows.charsNamesRow.laid W) : Glob W := glob_of h
theorem glob_charsSizes {W : World} (h : laidMetH Tryd.prog Rows.charsSizesRow.laid W) : Glob W := glob_of h
end Go.Proofs.YtkhloimbaepmeaaDoor
