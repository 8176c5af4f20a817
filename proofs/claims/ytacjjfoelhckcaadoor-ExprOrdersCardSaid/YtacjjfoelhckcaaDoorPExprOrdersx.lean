/- Contracts of functions, printed by the session's own changed copy of the print generator (see its notes); the plain functions tell what the calls answer. -/
import Derived.Test.YtacjjfoelhckcaaDoorPExprOrdersx0
import Derived.Test.YtacjjfoelhckcaaDoorPExprOrdersx1
import Derived.Test.YtacjjfoelhckcaaDoorPExprOrdersx2
import Derived.Test.YtacjjfoelhckcaaDoorPExprOrdersx3
import Derived.Test.YtacjjfoelhckcaaDoorPExprOrdersx4
import Derived.Test.YtacjjfoelhckcaaDoorPExprOrdersx5
import Derived.Test.YtacjjfoelhckcaaDoorPExprOrdersx6
import Derived.Test.YtacjjfoelhckcaaDoorPExprOrdersx7
import Derived.Test.YtacjjfoelhckcaaDoorPExprOrdersx8
import Derived.Test.YtacjjfoelhckcaaDoorPExprOrdersx9
namespace Go.Proofs.YtacjjfoelhckcaaDoor.PExprOrders
open Go.RowKit Go.Proofs.YtacjjfoelhckcaaDoorW.PrintWords Go.Proofs.YtacjjfoelhckcaaDoorW.PrintLast Go.Proofs.YtacjjfoelhckcaaDoorW.PrintMore
attribute [local go_sem] max2_int min2_int max_two min_two max_three min_three max_four min_four   -- for this text's walks alone
set_option linter.unusedVariables false
set_option linter.unusedSimpArgs false

end Go.Proofs.YtacjjfoelhckcaaDoor.PExprOrders
