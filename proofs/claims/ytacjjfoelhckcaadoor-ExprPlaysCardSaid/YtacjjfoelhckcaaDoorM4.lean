/- Plain laws: comparing by signs; rows of numbers by their first difference. -/
import Derived.Test.YtacjjfoelhckcaaDoorM3
namespace Go.Proofs.YtacjjfoelhckcaaDoor

def cmpI (a b : Int) : Int := if a < b then -1 else if b < a then 1 else 0
def orI (a b : Int) : Int := if a = 0 then b else a
def cmpL : List Int → List Int → Int
  | [], [] => 0
  | [], _ :: _ => -1
  | _ :: _, [] => 1
  | a :: x, b :: y => orI (cmpI a b) (cmpL x y)
theorem cmpI_swap (a b : Int) : cmpI b a = -cmpI a b := by unfold cmpI; split <;> split <;> first | omega | (split <;> omega)
theorem cmpI_zero (a b : Int) : cmpI a b = 0 ↔ a = b := by unfold cmpI; split <;> first | omega | (split <;> omega)
theorem orI_swap {a b a' b' : Int} (h : a' = -a) (h' : b' = -b) : orI a' b' = -orI a b := by unfold orI; split <;> split <;> omega
theorem orI_zero (a b : Int) : orI a b = 0 ↔ a = 0 ∧ b = 0 := by unfold orI; split <;> omega
def Tr (a b c : Int) : Prop := (a ≤ 0 → b ≤ 0 → c ≤ 0) ∧ (a < 0 → b ≤ 0 → c < 0) ∧ (a ≤ 0 → b < 0 → c < 0) ∧ (a = 0 → b = 0 → c = 0)
theorem Tr.or {a b c a' b' c' : Int} (h : Tr a b c) (h' : Tr a' b' c') : Tr (orI a a') (orI b b') (orI c c') := by
  unfold Tr at *
  unfold orI
  split <;> split <;> split <;> omega
theorem cmpI_tr (a b c : Int) : Tr (cmpI a b) (cmpI b c) (cmpI a c) := by
  unfold Tr cmpI
  repeat' split
  all_goals omega
theorem cmpL_swap : ∀ x y : List Int, cmpL y x = -cmpL x y
  | [], [] => rfl
  | [], _ :: _ => rfl
  | _ :: _, [] => rfl
  | a :: x, b :: y => by rw [cmpL, cmpL]; exact orI_swap (cmpI_swap a b) (cmpL_swap x y)
theorem cmpL_zero : ∀ x y : List Int, cmpL x y = 0 ↔ x = y
  | [], [] => by simp [cmpL]
  | [], _ :: _ => by simp [cmpL]
  | _ :: _, [] => by simp [cmpL]
  | a :: x, b :: y => by rw [cmpL, orI_zero, cmpI_zero, cmpL_zero x y, List.cons.injEq]
theorem cmpL_tr : ∀ x y z : List Int, Tr (cmpL x y) (cmpL y z) (cmpL x z)
  | [], [], [] => by unfold Tr; simp [cmpL]
  | [], [], _ :: _ => by unfold Tr; simp [cmpL]
  | [], _ :: _, [] => by unfold Tr; simp [cmpL]
  | [], _ :: _, _ :: _ => by unfold Tr; simp [cmpL]
  | _ :: _, [], [] => by unfold Tr; simp [cmpL]
  | _ :: _, [], _ :: _ => by unfold Tr; simp [cmpL]
  | _ :: _, _ :: _, [] => by unfold Tr; simp [cmpL]
  | a :: x, b :: y, c :: z => by rw [cmpL, cmpL, cmpL]; exact (cmpI_tr a b c).or (cmpL_tr x y z)
end Go.Proofs.YtacjjfoelhckcaaDoor
