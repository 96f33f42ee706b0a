/- Printed by a program of this session: functions that the law reaches, and that the calls come to them. -/
import Derived.Test.YtkhloimbaepmeaaDoorProg
import Derived.Below
import Derived.Deep.Draws
import Derived.Deep.AppendLies
import Derived.Maps.AppendAt
import Derived.OwnWalk
import Derived.Laws.BytesArg
import Derived.Laws.MakeOwn
import Derived.Laws.OwnMore
import Derived.Deep.OwnRows
import Derived.Tactics
import Derived.Lib.ConvBytes
import Derived.Laws.Slices
import Derived.WalkKit
import Derived.KernelRfl
import Derived.RowKit3
import Derived.Deep.LoopGhost
import Derived.Deep.QuietTactic
import Derived.BigQuiet
import Derived.WideLaws
import Derived.Deep.DeepCutAuto
import Derived.Deep.CutBlock
import Derived.Deep.RegionHeld3
import Derived.Laws.Rows
import Derived.Lib.AppendStr
import Derived.ArgAppend
import Derived.Laws.IdiomCopy
import Derived.OrdersHeld
import Derived.Laws.BitsLemmas
import Derived.RowKit
import Derived.Test.YtkhloimbaepmeaaDoorGlob04
import Derived.Test.YtkhloimbaepmeaaDoorStep
import Derived.Test.YtkhloimbaepmeaaDoorWWords
import Derived.Test.YtkhloimbaepmeaaDoorWLast
import Derived.Test.YtkhloimbaepmeaaDoorWTab
import Derived.Test.YtkhloimbaepmeaaDoorWFour
import Derived.Test.YtkhloimbaepmeaaDoorWQPut
import Derived.Test.YtkhloimbaepmeaaDoorWApart
import Derived.Test.YtkhloimbaepmeaaDoorWArr
import Derived.Test.YtkhloimbaepmeaaDoorWZeros
import Derived.Test.YtkhloimbaepmeaaDoorWFoot
import Derived.Test.YtkhloimbaepmeaaDoorWKept
import Derived.Test.YtkhloimbaepmeaaDoorWShare
import Derived.Test.YtkhloimbaepmeaaDoorWN
import Derived.Test.YtkhloimbaepmeaaDoorWFootNe
import Derived.Test.YtkhloimbaepmeaaDoorWAt
import Derived.Test.YtkhloimbaepmeaaDoorWEqStruct
import Derived.Test.YtkhloimbaepmeaaDoorWRepsOne
import Derived.Test.YtkhloimbaepmeaaDoorWInv
import Derived.Test.YtkhloimbaepmeaaDoorWInvWords
import Derived.Test.YtkhloimbaepmeaaDoorWGuard
import Derived.Test.YtkhloimbaepmeaaDoorWNEv
import Derived.Test.YtkhloimbaepmeaaDoorWMore
namespace Go.Proofs.YtkhloimbaepmeaaDoor.P
open Go.RowKit Go.Proofs.YtkhloimbaepmeaaDoorW.PrintWords Go.Proofs.YtkhloimbaepmeaaDoorW.PrintLast Go.Proofs.YtkhloimbaepmeaaDoorW.PrintMore
attribute [local go_sem] max2_int min2_int max_two min_two max_three min_three max_four min_four   -- for this text's walks alone
set_option linter.unusedVariables false
set_option linter.unusedSimpArgs false



def errW : Option Int → Value
  | none => .nilIface
  | some c => .iface 0 (.int .i64 c)
theorem errW_none : errW none = .nilIface := rfl
theorem errW_some (c : Int) : errW (some c) = .iface 0 (.int .i64 c) := rfl

theorem info3 : (Tryd.prog.info? 3).map (fun i => (i.zero, i.size, i.bytes)) = some (some (.int .i64 0), 1, 8) := by kernel_rfl
theorem info5 : (Tryd.prog.info? 5).map (fun i => (i.zero, i.size, i.bytes)) = some (some (.int .u8 0), 1, 1) := by kernel_rfl
-- the values' own types

end Go.Proofs.YtkhloimbaepmeaaDoor.P
