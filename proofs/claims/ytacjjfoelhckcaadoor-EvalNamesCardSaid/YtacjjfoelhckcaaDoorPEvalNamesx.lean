/- Contracts of functions, printed by the session's own changed copy of the print generator (see its notes); the plain functions tell what the calls answer. -/
import Derived.Test.YtacjjfoelhckcaaDoorPEvalNamesx0
import Derived.Test.YtacjjfoelhckcaaDoorPEvalNamesx1
import Derived.Test.YtacjjfoelhckcaaDoorPEvalNamesx2
import Derived.Test.YtacjjfoelhckcaaDoorPEvalNamesx3
import Derived.Test.YtacjjfoelhckcaaDoorPEvalNamesx4
import Derived.Test.YtacjjfoelhckcaaDoorPEvalNamesx5
import Derived.Test.YtacjjfoelhckcaaDoorPEvalNamesx6
namespace Go.Proofs.YtacjjfoelhckcaaDoor.PEvalNames
open Go.RowKit Go.Proofs.YtacjjfoelhckcaaDoorW.PrintWords Go.Proofs.YtacjjfoelhckcaaDoorW.PrintLast Go.Proofs.YtacjjfoelhckcaaDoorW.PrintMore
attribute [local go_sem] max2_int min2_int max_two min_two max_three min_three max_four min_four   -- for this text's walks alone
set_option linter.unusedVariables false
set_option linter.unusedSimpArgs false

end Go.Proofs.YtacjjfoelhckcaaDoor.PEvalNames
