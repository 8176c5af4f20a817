/- Words of the printed contracts, those that this claim uses. -/
import Derived.Test.YtacjjfoelhckcaaDoorWTab
namespace Go.Proofs.YtacjjfoelhckcaaDoorW.PrintLast
section
variable {P : Program} {ops : Array Oper} {Q : Exit → Act → World → Prop} {md : Region.Mode} {S : World → Prop} {ds : List Nat} {T : Bool × List (List Nat × List Nat)}
end
end Go.Proofs.YtacjjfoelhckcaaDoorW.PrintLast
