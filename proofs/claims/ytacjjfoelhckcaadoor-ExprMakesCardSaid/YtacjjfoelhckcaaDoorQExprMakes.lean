/- The plain law of ExprMakes. -/
import Derived.Test.YtacjjfoelhckcaaDoorC4ExprMakes
namespace Go.Proofs.YtacjjfoelhckcaaDoor.exprMakes
set_option linter.unusedVariables false
open Go.RowKit Go.Proofs.YtacjjfoelhckcaaDoorW.PrintWords PExprMakes

theorem awake_ev : Ev (fun k => sorrellaw02_awake.f k) true := by
  unfold sorrellaw02_awake.f
  refine Ev.bind (make_ev 1 7 ⟨#[]⟩ [] (by simp) (by simp) (by decide)) ?_
  have e : makeR 1 7 ⟨#[]⟩ [] 1 [] [] = ([⟨1, 7, ⟨#[]⟩, []⟩], 0) := by
    rw [makeR, if_pos (show allOk [] = true from rfl), if_pos (by decide +kernel : formB 1 7 ⟨#[]⟩ (([] : List Int).length + ([] : List (List S45)).length) = true), if_neg (by decide)]
    rfl
  rw [e]
  exact Ev.pure fun k => by simp [rd_T45]
theorem law_ev (op n : Int) (name : ByteArray) (ps : List (List S45)) (hb : ps.length ≤ 5864062014634) (hk : ∀ p ∈ ps, okT p) (hnm : name.size ≤ 140737488351232) : Ev (fun k => sorrellaw02_ExprMakes.f k op n name ps) true := by
  have main : Ev (fun k => sorrellaw02_ExprMakes.j0 k false op n name ps) true := by
    refine Ev.step (f := fun k => (sorrelref02_Copies.f k ps).bind fun t221 => ((expr_Make.f k op n name t221).bind fun bt224 => ((sorrelref02_Make.f k op n name ps).bind fun bt228 => (if bt224.2 = bt228.2 then ((sorrelref02_Same.f k bt224.1 bt228.1).bind fun t232 => (some t232)) else (some false))))) (fun k => ?_) ?_
    · rw [sorrellaw02_ExprMakes.j0, if_neg (by simp)]
    · refine Ev.bind (copies_ev ps hb hk) (Ev.bind (make_ev op n name ps hb hk hnm) (Ev.bind (refMake_ev op n name ps hb hk hnm) ?_))
      exact Ev.congr (fun k => if_pos rfl) (Ev.bind (makeR_same op n name ps hb hk) (Ev.now _))
  unfold sorrellaw02_ExprMakes.f
  refine Ev.bind awake_ev (Ev.congr (fun k => if_pos rfl) (Ev.bind (arity_ev op) (Ev.bind (refArity_ev op) ?_)))
  refine Ev.congr (f := fun k => sorrellaw02_ExprMakes.j0 k false op n name ps) (fun k => ?_) main
  unfold arE
  by_cases h : arityZ op < 0
  · simp [h]
    omega
  · simp [h]
theorem pure (op n : Int) (name : ByteArray) (parts : List (List S45)) (h0 : okI op) (h1 : okI n) (h2 : okS name) (h3 : okR 24 (okR 56 fun x : S45 => okN (x.f0, x.f1, x.f2, x.f3)) parts) : ∃ k, sorrellaw02_ExprMakes.f k op n name parts = some true :=
  (law_ev op n name parts (by have := h3.1; omega) (fun p hp => ⟨by have := (h3.2 p hp).1; omega, (h3.2 p hp).2⟩) h2).rounds
end Go.Proofs.YtacjjfoelhckcaaDoor.exprMakes
