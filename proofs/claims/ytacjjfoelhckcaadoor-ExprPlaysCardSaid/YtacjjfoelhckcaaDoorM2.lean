/- Plain words for what the printed functions come to from some number of rounds on. -/
import Derived.Test.YtacjjfoelhckcaaDoorM1
namespace Go.Proofs.YtacjjfoelhckcaaDoor
open Go.RowKit Go.Proofs.YtacjjfoelhckcaaDoorW.PrintWords

theorem Ev.one {α : Type} {g : Nat → Option α} {r r' : α} (h : Ev g r) (h' : Ev g r') : r = r' := by
  obtain ⟨K, h⟩ := h
  obtain ⟨K', h'⟩ := h'
  exact Option.some.inj ((h (max K K') (by omega)).symm.trans (h' (max K K') (by omega)))
theorem Ev.pure {α : Type} {g : Nat → Option α} {r : α} (h : ∀ k, g k = some r) : Ev g r := ⟨0, fun k _ => h k⟩
theorem Ev.last {α : Type} {g : Nat → Option α} {r : α} (h : ∀ k, g (k + 1) = some r) : Ev g r := Ev.step (f := fun _ => some r) h (Ev.now r)
def arE (a : Int) : Int × Int := if arityZ a < 0 then (0, 2) else (arityZ a, 0)
def formB (op n : Int) (name : ByteArray) (c : Nat) : Bool :=
  if arityZ op < 0 ∨ arityZ op ≠ c ∨ (op ≠ 1 ∧ n ≠ 0) then false else if op = 2 then nameB name else (name.toList == [])
theorem form_eq (op n : Int) (name : ByteArray) (kids : List Int) (h : name.size ≤ 140737488351232) : sorrelref02_Form.f op n name kids = some (formB op n name kids.length) := by
  unfold sorrelref02_Form.f formB sorrelref01_Name.f
  have h1 := name_eq name (by omega)
  repeat' split
  all_goals first | rfl | (rw [h1]) | omega
theorem arityZ_bounds (a : Int) : -1 ≤ arityZ a ∧ arityZ a ≤ 3 := by
  unfold arityZ
  repeat' split
  all_goals omega
theorem getD_lt {α : Type} (l : List α) (i : Nat) (d : α) (h : i < l.length) : l.getD i d = l[i] := by
  rw [List.getD_eq_getElem?_getD, List.getElem?_eq_getElem h]; rfl
end Go.Proofs.YtacjjfoelhckcaaDoor
