/- Contracts of functions, printed by the session's own changed copy of the print generator (see its notes); the plain functions tell what the calls answer. -/
import Derived.Test.YtacjjfoelhckcaaDoorPEvalPlaysx0
import Derived.Test.YtacjjfoelhckcaaDoorPEvalPlaysx1
import Derived.Test.YtacjjfoelhckcaaDoorPEvalPlaysx2
import Derived.Test.YtacjjfoelhckcaaDoorPEvalPlaysx3
import Derived.Test.YtacjjfoelhckcaaDoorPEvalPlaysx4
import Derived.Test.YtacjjfoelhckcaaDoorPEvalPlaysx5
import Derived.Test.YtacjjfoelhckcaaDoorPEvalPlaysx6
import Derived.Test.YtacjjfoelhckcaaDoorPEvalPlaysx7
import Derived.Test.YtacjjfoelhckcaaDoorPEvalPlaysx8
namespace Go.Proofs.YtacjjfoelhckcaaDoor.PEvalPlays
open Go.RowKit Go.Proofs.YtacjjfoelhckcaaDoorW.PrintWords Go.Proofs.YtacjjfoelhckcaaDoorW.PrintLast Go.Proofs.YtacjjfoelhckcaaDoorW.PrintMore
attribute [local go_sem] max2_int min2_int max_two min_two max_three min_three max_four min_four   -- for this text's walks alone
set_option linter.unusedVariables false
set_option linter.unusedSimpArgs false

end Go.Proofs.YtacjjfoelhckcaaDoor.PEvalPlays
