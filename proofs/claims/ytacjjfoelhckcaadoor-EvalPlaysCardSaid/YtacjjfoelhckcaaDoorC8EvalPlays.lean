/- Plain laws, part 8: Eval and Trap, whole. -/
import Derived.Test.YtacjjfoelhckcaaDoorC7EvalPlays
namespace Go.Proofs.YtacjjfoelhckcaaDoor.PEvalPlays
open Go.RowKit Go.Proofs.YtacjjfoelhckcaaDoorW.PrintWords Go.Proofs.YtacjjfoelhckcaaDoorW.PrintMore
set_option linter.unusedVariables false

section
variable (env : List S70)
def trapS (l : List S45) : Int × Int := if checkE l = 0 then (if (valsOf env l).length < l.length then (((valsOf env l).length : Int), 0) else (0, 11)) else (0, 1)
def evalS (l : List S45) : Int × Int := if checkE l = 0 then (if (valsOf env l).length < l.length then (0, 12) else (rd (valsOf env l) ((l.length : Int) - 1), 0)) else (0, 1)
theorem trap_ev (l : List S45) (he : env.length ≤ 5864062014634) (hk : ∀ x ∈ l, okN (x.f0, x.f1, x.f2, x.f3)) : Ev (fun k => eval_Trap.f k l env) (trapS env l) := by
  unfold eval_Trap.f trapS
  refine Ev.bind (check_ev l hk) ?_
  by_cases hc : checkE l = 0
  · rw [if_pos hc]
    refine Ev.congr (fun k => if_pos hc) ?_
    obtain ⟨h1, h2, _⟩ := checkE_from hc
    refine Ev.bind (values_ev env l h2 he hk (checkE_kids hc)) ?_
    clear hc
    refine Ev.pure fun k => ?_
    by_cases hv : (valsOf env l).length < l.length
    · rw [if_pos hv, if_pos (by omega)]
    · rw [if_neg hv, if_neg (by omega)]
  · rw [if_neg hc]
    refine Ev.congr (fun k => if_neg hc) ?_
    have e : checkE l = 1 := (checkE_cases l).resolve_left hc
    rw [e]
    exact Ev.now _
theorem eval_ev (l : List S45) (he : env.length ≤ 5864062014634) (hk : ∀ x ∈ l, okN (x.f0, x.f1, x.f2, x.f3)) : Ev (fun k => eval_Eval.f k l env) (evalS env l) := by
  unfold eval_Eval.f evalS
  refine Ev.bind (check_ev l hk) ?_
  by_cases hc : checkE l = 0
  · rw [if_pos hc]
    refine Ev.congr (fun k => if_pos hc) ?_
    obtain ⟨h1, h2, _⟩ := checkE_from hc
    have hval := values_ev env l h2 he hk (checkE_kids hc)
    have hspec := valsOf_spec env l (checkE_kids hc)
    refine Ev.bind (trap_ev env l he hk) ?_
    have ht : trapS env l = if (valsOf env l).length < l.length then (((valsOf env l).length : Int), 0) else (0, 11) := if_pos hc
    rw [ht]
    clear hc ht
    by_cases hv : (valsOf env l).length < l.length
    · rw [if_pos hv, if_pos hv]
      exact Ev.congr (fun k => if_neg (by simp)) (Ev.now _)
    · rw [if_neg hv, if_neg hv]
      refine Ev.congr (fun k => if_pos rfl) ?_
      refine Ev.bind hval ?_
      have e : wrap64 ((l.length : Int) - 1) = (l.length : Int) - 1 := w64 _ (by omega)
      rw [e]
      clear e
      refine Ev.pure fun k => ?_
      rw [if_pos (by omega), if_pos (by omega)]
  · rw [if_neg hc]
    refine Ev.congr (fun k => if_neg hc) ?_
    have e : checkE l = 1 := (checkE_cases l).resolve_left hc
    rw [e]
    exact Ev.now _
/-! ### the reference -/
theorem refTrap_ev (l : List S45) (hlen : l.length ≤ 2513169434843) (he : env.length ≤ 5864062014634) (hk : ∀ x ∈ l, okN (x.f0, x.f1, x.f2, x.f3)) (hen : ∀ b ∈ env, inI b.f1) : Ev (fun k => sorrelref08_Trap.f k l env) (trapS env l) := by
  unfold sorrelref08_Trap.f trapS
  refine Ev.bind (refCheck_ev l hk hlen) ?_
  by_cases hc : checkE l = 0
  · rw [if_pos hc]
    refine Ev.congr (fun k => if_pos hc) ?_
    obtain ⟨h1, h2, _⟩ := checkE_from hc
    have hb := checkE_kids hc
    clear hc
    obtain ⟨s1, _, _⟩ := valsOf_spec env l hb
    have loop : ∀ (n i : Nat), (valsOf env l).length - i ≤ n → i ≤ (valsOf env l).length → Ev (fun k => sorrelref08_Trap.l0 k l env (i : Int)) (if (valsOf env l).length < l.length then (((valsOf env l).length : Int), 0) else (0, 11)) := by
      have fin : Ev (fun k => sorrelref08_Trap.l0 k l env ((valsOf env l).length : Int)) (if (valsOf env l).length < l.length then (((valsOf env l).length : Int), 0) else (0, 11)) := by
        by_cases hv : (valsOf env l).length < l.length
        · rw [if_pos hv]
          obtain ⟨v, hvt⟩ := vt_trouble env l h2 he hk hb hen hv
          refine Ev.step (f := fun k => (sorrelref08_Value.f k l ((valsOf env l).length : Int) env).bind fun bt247 => (if bt247.2 = true then (sorrelref08_Trap.l0 k l env (wrap64 (((valsOf env l).length : Int) + 1))) else (some (((valsOf env l).length : Int), 0)))) (fun k => by rw [sorrelref08_Trap.l0, if_pos (by omega)]) (Ev.bind hvt ?_)
          exact Ev.congr (fun k => if_neg (by simp)) (Ev.now _)
        · rw [if_neg hv]
          exact Ev.last fun k => by rw [sorrelref08_Trap.l0, if_neg (by omega)]
      intro n
      induction n with
      | zero =>
        intro i h3 h4
        obtain rfl : i = (valsOf env l).length := by omega
        exact fin
      | succ n ih =>
        intro i h3 h4
        by_cases hi : i < (valsOf env l).length
        · obtain ⟨hvt, _⟩ := vt_vals env l h2 he hk hb hen (i + 1) i (by omega) (by omega) hi
          refine Ev.step (f := fun k => (sorrelref08_Value.f k l (i : Int) env).bind fun bt247 => (if bt247.2 = true then (sorrelref08_Trap.l0 k l env (wrap64 ((i : Int) + 1))) else (some ((i : Int), 0)))) (fun k => by rw [sorrelref08_Trap.l0, if_pos (by omega)]) (Ev.bind hvt ?_)
          refine Ev.congr (fun k => if_pos rfl) ?_
          rw [w64 _ (by omega)]
          exact ih (i + 1) (by omega) (by omega)
        · obtain rfl : i = (valsOf env l).length := by omega
          exact fin
    exact loop _ 0 (Nat.le_refl _) (by omega)
  · rw [if_neg hc]
    exact Ev.congr (fun k => if_neg hc) (Ev.now _)
theorem refEval_ev (l : List S45) (hlen : l.length ≤ 2513169434843) (he : env.length ≤ 5864062014634) (hk : ∀ x ∈ l, okN (x.f0, x.f1, x.f2, x.f3)) (hen : ∀ b ∈ env, inI b.f1) : Ev (fun k => sorrelref08_Eval.f k l env) (evalS env l) := by
  unfold sorrelref08_Eval.f evalS
  refine Ev.bind (refCheck_ev l hk hlen) ?_
  by_cases hc : checkE l = 0
  · rw [if_pos hc]
    refine Ev.congr (fun k => if_pos hc) ?_
    obtain ⟨h1, h2, _⟩ := checkE_from hc
    have hb := checkE_kids hc
    have hform := checkE_form hc
    have hwalk := checkE_walk hc hk
    clear hc
    obtain ⟨s1, _, _⟩ := valsOf_spec env l hb
    have ew : wrap64 ((l.length : Int) - 1) = ((l.length - 1 : Nat) : Int) := by rw [w64 _ (by omega)]; omega
    rw [ew]
    clear ew
    by_cases hv : (valsOf env l).length < l.length
    · rw [if_pos hv]
      obtain ⟨v, b, hvt, hvb⟩ := vt_ends env l h2 he hk hb hen hform l.length (l.length - 1) (by omega) (by omega)
      refine Ev.bind hvt ?_
      cases b with
      | false => exact Ev.congr (fun k => if_neg (by simp)) (Ev.now _)
      | true =>
        exfalso
        obtain ⟨w, hw, hw2⟩ := walk_cover l h2 hk (fun i => ∃ u, VT env l i u true) (fun i hi hu kid hkid => by
          obtain ⟨u, hu⟩ := hu
          obtain ⟨v', b', hv', hv2'⟩ := vt_ends env l h2 he hk hb hen hform (i + 1) i (by omega) hi
          have e := Ev.one hu hv'
          cases e
          exact (hv2' rfl).2 kid hkid) l.length ((l.length - 1 : Nat) : Int) (by omega) (by omega) ⟨v, hvt⟩
        have e1 : ((l.length - 1 : Nat) : Int) = (l.length : Int) - 1 := by omega
        rw [e1] at hw hw2
        have := Ev.one hw hwalk
        subst this
        rcases hw2 with hw2 | ⟨_, _, hw2⟩
        · cases hw2
        · obtain ⟨u, hu⟩ := hw2 ((valsOf env l).length : Int) (by omega) (by omega)
          obtain ⟨z, hz⟩ := vt_trouble env l h2 he hk hb hen hv
          have := Ev.one hu hz
          cases this
    · rw [if_neg hv]
      obtain ⟨hvt, _⟩ := vt_vals env l h2 he hk hb hen l.length (l.length - 1) (by omega) (by omega) (by omega)
      refine Ev.bind hvt ?_
      refine Ev.congr (fun k => if_pos rfl) ?_
      have e : rd (valsOf env l) ((l.length : Int) - 1) = (valsOf env l)[l.length - 1] := by
        rw [show (l.length : Int) - 1 = ((l.length - 1 : Nat) : Int) by omega]
        exact getD_lt _ _ 0 (by omega)
      rw [e]
      exact Ev.now _
  · rw [if_neg hc]
    exact Ev.congr (fun k => if_neg hc) (Ev.now _)
end
end Go.Proofs.YtacjjfoelhckcaaDoor.PEvalPlays
