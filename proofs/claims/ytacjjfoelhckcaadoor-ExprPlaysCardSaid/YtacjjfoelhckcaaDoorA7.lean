/- The names' contracts in the printed contracts' form. -/
import Derived.Test.YtacjjfoelhckcaaDoorA6
namespace Go.Proofs.YtacjjfoelhckcaaDoor
open Go.RowKit Go.Proofs.YtacjjfoelhckcaaDoorW.PrintWords

def runes_Name.f (a0 : ByteArray) : Option Bool := some (nameB a0)
theorem runes_Name.calls (a0 : ByteArray) (r : Bool) (w : World) (hG : GL w) (h : runes_Name.f a0 = some r) :
    Calls Tryd.prog 83 #[.string a0] w fun e w' => e = .returned (.bool r) ∧ Below w.heap.size w w' := by
  obtain rfl := Option.some.inj h
  exact name_calls a0 w hG
def sorrelref01_Name.f (a0 : ByteArray) : Option Bool := if a0.size ≤ 9223372036854775800 then some (refNameB a0) else none
theorem sorrelref01_Name.calls (a0 : ByteArray) (r : Bool) (w : World) (h : sorrelref01_Name.f a0 = some r) :
    Calls Tryd.prog 33 #[.string a0] w fun e w' => e = .returned (.bool r) ∧ Below w.heap.size w w' := by
  unfold sorrelref01_Name.f at h
  split at h
  · obtain rfl := Option.some.inj h
    exact refName_calls a0 ‹_› w
  · cases h
end Go.Proofs.YtacjjfoelhckcaaDoor
