/- Printed by a program of this session: functions that the law reaches, and that the calls come to them. -/
import Derived.Test.YtjmeoplajfmieaaDoorQ0
import Derived.Test.YtjmeoplajfmieaaDoorQ1
namespace Go.Proofs.YtjmeoplajfmieaaDoor.Q
open Go.RowKit Go.Proofs.YtjmeoplajfmieaaDoorW.PrintWords Go.Proofs.YtjmeoplajfmieaaDoorW.PrintLast Go.Proofs.YtjmeoplajfmieaaDoorW.PrintMore
attribute [local go_sem] max2_int min2_int max_two min_two max_three min_three max_four min_four   -- for this text's walks alone
set_option linter.unusedVariables false
set_option linter.unusedSimpArgs false

end Go.Proofs.YtjmeoplajfmieaaDoor.Q
