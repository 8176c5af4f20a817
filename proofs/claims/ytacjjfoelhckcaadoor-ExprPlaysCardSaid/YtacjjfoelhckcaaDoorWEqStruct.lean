/- Words of the printed contracts, those that this claim uses. -/
import Derived.Test.YtacjjfoelhckcaaDoorWWords
import Derived.Laws.StructEq
namespace Go.Proofs.YtacjjfoelhckcaaDoorW.PrintWords
open Go.RowKit
section
variable {P : Program} {d : Nat} {xs ys : Array Value} {f : Field} {fs : List Field} {a b : Value} {r s : Bool} {w : World}
end
end Go.Proofs.YtacjjfoelhckcaaDoorW.PrintWords
