/- Printed by a program of this session: functions that the law reaches, and that the calls come to them. -/
import Derived.Test.YthilhcpdbjeepaaGreatDoorProg
import Derived.Below
import Derived.Deep.Draws
import Derived.Deep.AppendLies
import Derived.Maps.AppendAt
import Derived.OwnWalk
import Derived.Laws.BytesArg
import Derived.Laws.MakeOwn
import Derived.Laws.OwnMore
import Derived.Deep.OwnRows
import Derived.Tactics
import Derived.Lib.ConvBytes
import Derived.Laws.Slices
import Derived.WalkKit
import Derived.KernelRfl
import Derived.RowKit3
import Derived.Deep.LoopGhost
import Derived.Deep.QuietTactic
import Derived.BigQuiet
import Derived.WideLaws
import Derived.Deep.DeepCutAuto
import Derived.Deep.CutBlock
import Derived.Deep.RegionHeld3
import Derived.Laws.Rows
import Derived.Lib.AppendStr
import Derived.ArgAppend
import Derived.Laws.IdiomCopy
import Derived.OrdersHeld
import Derived.Laws.BitsLemmas
import Derived.RowKit
import Derived.Test.YthilhcpdbjeepaaGreatDoorLinkA
import Derived.Test.YthilhcpdbjeepaaGreatDoorLinkB
import Derived.Test.YthilhcpdbjeepaaGreatDoorLow
import Derived.Test.YthilhcpdbjeepaaGreatDoorStd
import Derived.Test.YthilhcpdbjeepaaGreatDoorStep
import Derived.Test.YthilhcpdbjeepaaGreatDoorWWords
import Derived.Test.YthilhcpdbjeepaaGreatDoorWLast
import Derived.Test.YthilhcpdbjeepaaGreatDoorWTab
import Derived.Test.YthilhcpdbjeepaaGreatDoorWFour
import Derived.Test.YthilhcpdbjeepaaGreatDoorWQPut
import Derived.Test.YthilhcpdbjeepaaGreatDoorWApart
import Derived.Test.YthilhcpdbjeepaaGreatDoorWArr
import Derived.Test.YthilhcpdbjeepaaGreatDoorWZeros
import Derived.Test.YthilhcpdbjeepaaGreatDoorWFoot
import Derived.Test.YthilhcpdbjeepaaGreatDoorWKept
import Derived.Test.YthilhcpdbjeepaaGreatDoorWShare
import Derived.Test.YthilhcpdbjeepaaGreatDoorWN
import Derived.Test.YthilhcpdbjeepaaGreatDoorWFootNe
import Derived.Test.YthilhcpdbjeepaaGreatDoorWAt
import Derived.Test.YthilhcpdbjeepaaGreatDoorWEqStruct
import Derived.Test.YthilhcpdbjeepaaGreatDoorWRepsOne
import Derived.Test.YthilhcpdbjeepaaGreatDoorWInv
import Derived.Test.YthilhcpdbjeepaaGreatDoorWInvWords
import Derived.Test.YthilhcpdbjeepaaGreatDoorWGuard
import Derived.Test.YthilhcpdbjeepaaGreatDoorWNEv
import Derived.Test.YthilhcpdbjeepaaGreatDoorWMore
namespace Go.Proofs.YthilhcpdbjeepaaGreatDoor.P
open Go.RowKit Go.Proofs.YthilhcpdbjeepaaGreatDoorW.PrintWords Go.Proofs.YthilhcpdbjeepaaGreatDoorW.PrintLast Go.Proofs.YthilhcpdbjeepaaGreatDoorW.PrintMore
attribute [local go_sem] max2_int min2_int max_two min_two max_three min_three max_four min_four   -- for this text's walks alone
set_option linter.unusedVariables false
set_option linter.unusedSimpArgs false



def errW : Option Int → Value
  | none => .nilIface
  | some c => .iface 0 (.int .i64 c)
theorem errW_none : errW none = .nilIface := rfl
theorem errW_some (c : Int) : errW (some c) = .iface 0 (.int .i64 c) := rfl

theorem info5 : (Tryz.prog.info? 5).map (fun i => (i.zero, i.size, i.bytes)) = some (some (.int .u8 0), 1, 1) := by kernel_rfl
-- the values' own types

end Go.Proofs.YthilhcpdbjeepaaGreatDoor.P
