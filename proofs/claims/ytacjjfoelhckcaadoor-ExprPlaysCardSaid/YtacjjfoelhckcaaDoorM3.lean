/- Plain laws of whole numbers of 64 bits: masks, complements, shifts one step at a time, long division. -/
import Derived.Test.YtacjjfoelhckcaaDoorM2
import Derived.Test.YtacjjfoelhckcaaDoorWMore
import Derived.Laws.BitsLemmas
namespace Go.Proofs.YtacjjfoelhckcaaDoor
open Go.RowKit Go.Proofs.YtacjjfoelhckcaaDoorW.PrintWords Go.Proofs.YtacjjfoelhckcaaDoorW.PrintMore

/-! ### shifts, one step at a time -/
/-! ### long division -/
end Go.Proofs.YtacjjfoelhckcaaDoor
