/- The package-level tables that this seat's functions read, as one condition on the world. -/
import Derived.Test.YtkhloimbaepmeaaDoorChars
namespace Go.Proofs.YtkhloimbaepmeaaDoor
open Go.RowKit
structure Glob (w : World) : Prop where
  high : TabHigh w
theorem Glob.below {w w1 : World} (h : Glob w) (hb : Below w.heap.size w w1) : Glob w1 := ⟨h.high.below hb⟩
theorem chars_singles.calls (s r : ByteArray) (w : World) (hGl : Glob w) (h : chars_singles.f s = some r) :
    Calls Tryd.prog 19 #[.string s] w fun e w' => e = .returned (.string r) ∧ Below w.heap.size w w' := chars_singles.calls' s r w hGl.high h
end Go.Proofs.YtkhloimbaepmeaaDoor
