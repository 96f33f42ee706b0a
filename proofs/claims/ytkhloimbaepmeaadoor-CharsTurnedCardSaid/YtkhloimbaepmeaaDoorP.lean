/- Printed by a program of this session: functions that the law reaches, and that the calls come to them. -/
import Derived.Test.YtkhloimbaepmeaaDoorP0
import Derived.Test.YtkhloimbaepmeaaDoorP1
import Derived.Test.YtkhloimbaepmeaaDoorP2
import Derived.Test.YtkhloimbaepmeaaDoorP3
import Derived.Test.YtkhloimbaepmeaaDoorP4
import Derived.Test.YtkhloimbaepmeaaDoorP5
import Derived.Test.YtkhloimbaepmeaaDoorP6
import Derived.Test.YtkhloimbaepmeaaDoorP7
namespace Go.Proofs.YtkhloimbaepmeaaDoor.P
open Go.RowKit Go.Proofs.YtkhloimbaepmeaaDoorW.PrintWords Go.Proofs.YtkhloimbaepmeaaDoorW.PrintLast Go.Proofs.YtkhloimbaepmeaaDoorW.PrintMore
attribute [local go_sem] max2_int min2_int max_two min_two max_three min_three max_four min_four   -- for this text's walks alone
set_option linter.unusedVariables false
set_option linter.unusedSimpArgs false

end Go.Proofs.YtkhloimbaepmeaaDoor.P
