/- The plain law of EvalPlays. -/
import Derived.Test.YtacjjfoelhckcaaDoorC8EvalPlays
namespace Go.Proofs.YtacjjfoelhckcaaDoor.evalPlays
set_option linter.unusedVariables false
open Go.RowKit Go.Proofs.YtacjjfoelhckcaaDoorW.PrintWords PEvalPlays

theorem copied_ev (env : List S70) (he : env.length ≤ 5864062014634) : Ev (fun _ => sorrellaw08_copied.f env) env := by
  refine Ev.pure fun k => ?_
  unfold sorrellaw08_copied.f
  rw [Option.bind_some, if_pos (by simp; omega)]
  rfl
theorem awake_ev : Ev (fun k => sorrellaw08_awake.f k) true := by
  unfold sorrellaw08_awake.f
  have hk : ∀ x ∈ [(⟨1, 7, ⟨#[]⟩, []⟩ : S45)], okN (x.f0, x.f1, x.f2, x.f3) := by
    intro x hx
    obtain rfl := List.mem_singleton.1 hx
    exact ⟨(by decide : (Lit.int .i64 1).wf = true), (by decide : (Lit.int .i64 7).wf = true), (by decide : (⟨#[]⟩ : ByteArray).size ≤ 140737488351232), (by decide : ([] : List Int).length * 8 ≤ 140737488351232), by simp⟩
  refine Ev.bind (eval_ev [] _ (by simp) hk) ?_
  have hf : formB 1 7 ⟨#[]⟩ 0 = true := by decide +kernel
  have hc : checkE [(⟨1, 7, ⟨#[]⟩, []⟩ : S45)] = 0 := by
    have hfit : fitsN [] (⟨1, 7, ⟨#[]⟩, []⟩ : S45) = true := by simp [fitsN, formN, hf]
    rw [checkE, if_neg (by simp), checkFrom, if_pos hfit]
    rfl
  have e : evalS [] [(⟨1, 7, ⟨#[]⟩, []⟩ : S45)] = (7, 0) := by
    rw [evalS, if_pos hc]
    rfl
  rw [e]
  exact Ev.pure fun k => rfl
theorem law_ev (l : List S45) (env : List S70) (hlen : l.length ≤ 2513169434843) (he : env.length ≤ 5864062014634) (hk : ∀ x ∈ l, okN (x.f0, x.f1, x.f2, x.f3)) (hen : ∀ b ∈ env, inI b.f1) : Ev (fun k => sorrellaw08_EvalPlays.f k l env) true := by
  unfold sorrellaw08_EvalPlays.f
  have hcp := copy_ev l hlen hk
  refine Ev.bind awake_ev (Ev.congr (fun k => if_pos rfl) ?_)
  refine Ev.bind hcp (Ev.bind (copied_ev env he) (Ev.bind (eval_ev env l he hk) (Ev.bind (refEval_ev env l hlen he hk hen) (Ev.bind hcp (Ev.bind (copied_ev env he) (Ev.bind (trap_ev env l he hk) (Ev.bind (refTrap_ev env l hlen he hk hen) ?_)))))))
  refine Ev.pure fun k => ?_
  rw [if_pos rfl, if_pos rfl, if_pos rfl, beq_self_eq_true]
theorem pure (l : List S45) (h : okR 56 (fun x : S45 => okN (x.f0, x.f1, x.f2, x.f3)) l) (env : List S70) (h2 : okR 24 (fun x : S70 => okS x.f0 ∧ okI x.f1) env) : ∃ k, sorrellaw08_EvalPlays.f k l env = some true :=
  (law_ev l env (by have := h.1; omega) (by have := h2.1; omega) h.2 (fun b hb => okI.bounds (h2.2 b hb).2)).rounds
end Go.Proofs.YtacjjfoelhckcaaDoor.evalPlays
