/- Printed by a program of this session: functions that the law reaches, and that the calls come to them. -/
import Derived.Test.YtjmeoplajfmieaaDoorProg
import Derived.Below
import Derived.Deep.Draws
import Derived.Deep.AppendLies
import Derived.Maps.AppendAt
import Derived.OwnWalk
import Derived.Laws.BytesArg
import Derived.Laws.MakeOwn
import Derived.Laws.OwnMore
import Derived.Deep.OwnRows
import Derived.Tactics
import Derived.Lib.ConvBytes
import Derived.Laws.Slices
import Derived.WalkKit
import Derived.KernelRfl
import Derived.RowKit3
import Derived.Deep.LoopGhost
import Derived.Deep.QuietTactic
import Derived.BigQuiet
import Derived.WideLaws
import Derived.Deep.DeepCutAuto
import Derived.Deep.CutBlock
import Derived.Deep.RegionHeld3
import Derived.Laws.Rows
import Derived.Lib.AppendStr
import Derived.ArgAppend
import Derived.Laws.IdiomCopy
import Derived.OrdersHeld
import Derived.Laws.BitsLemmas
import Derived.RowKit
import Derived.Test.YtjmeoplajfmieaaDoorQpCode
import Derived.Test.YtjmeoplajfmieaaDoorQpRef
import Derived.Test.YtjmeoplajfmieaaDoorStep
import Derived.Test.YtjmeoplajfmieaaDoorWWords
import Derived.Test.YtjmeoplajfmieaaDoorWLast
import Derived.Test.YtjmeoplajfmieaaDoorWTab
import Derived.Test.YtjmeoplajfmieaaDoorWFour
import Derived.Test.YtjmeoplajfmieaaDoorWQPut
import Derived.Test.YtjmeoplajfmieaaDoorWApart
import Derived.Test.YtjmeoplajfmieaaDoorWArr
import Derived.Test.YtjmeoplajfmieaaDoorWZeros
import Derived.Test.YtjmeoplajfmieaaDoorWFoot
import Derived.Test.YtjmeoplajfmieaaDoorWKept
import Derived.Test.YtjmeoplajfmieaaDoorWShare
import Derived.Test.YtjmeoplajfmieaaDoorWN
import Derived.Test.YtjmeoplajfmieaaDoorWFootNe
import Derived.Test.YtjmeoplajfmieaaDoorWAt
import Derived.Test.YtjmeoplajfmieaaDoorWEqStruct
import Derived.Test.YtjmeoplajfmieaaDoorWRepsOne
import Derived.Test.YtjmeoplajfmieaaDoorWInv
import Derived.Test.YtjmeoplajfmieaaDoorWInvWords
import Derived.Test.YtjmeoplajfmieaaDoorWGuard
import Derived.Test.YtjmeoplajfmieaaDoorWNEv
import Derived.Test.YtjmeoplajfmieaaDoorWMore
namespace Go.Proofs.YtjmeoplajfmieaaDoor.P
open Go.RowKit Go.Proofs.YtjmeoplajfmieaaDoorW.PrintWords Go.Proofs.YtjmeoplajfmieaaDoorW.PrintLast Go.Proofs.YtjmeoplajfmieaaDoorW.PrintMore
attribute [local go_sem] max2_int min2_int max_two min_two max_three min_three max_four min_four   -- for this text's walks alone
set_option linter.unusedVariables false
set_option linter.unusedSimpArgs false



def errW : Option Int → Value
  | none => .nilIface
  | some c => .iface 0 (.int .i64 c)
theorem errW_none : errW none = .nilIface := rfl
theorem errW_some (c : Int) : errW (some c) = .iface 0 (.int .i64 c) := rfl

theorem info5 : (Tryd.prog.info? 5).map (fun i => (i.zero, i.size, i.bytes)) = some (some (.int .u8 0), 1, 1) := by kernel_rfl
-- the values' own types

end Go.Proofs.YtjmeoplajfmieaaDoor.P
