/- The row of the law ExprPlays: the argument opened, the walk, the card. -/
import Derived.Test.YtacjjfoelhckcaaDoorQExprPlays
import Derived.OpenShut
import Derived.ShutString
import Derived.ChangeOld
namespace Go.Proofs.YtacjjfoelhckcaaDoor.exprPlays
open Go.ChangeShapes Go.WideShapes Go.ChangeAt Go.RowKit Go.Proofs.YtacjjfoelhckcaaDoorW.PrintWords PExprPlays
set_option linter.unusedVariables false
set_option maxRecDepth 100000
theorem opensN : Opens Tryd.prog (Kd.slice 45 k45) 30 (okR 56 fun x : S45 => okN (x.f0, x.f1, x.f2, x.f3)) := opens_slice 56 Tryd.underlying30 cells45 bytes45 (opens_iso (fun x : S45 => (x.f0, x.f1, x.f2, x.f3)) (fun p => ⟨p.1, p.2.1, p.2.2.1, p.2.2.2⟩) (fun _ => rfl) opens45)
theorem contract (H : Type) (enc : TypeId × Value → H) (W : World) (base : Nat) (args : Array Value) (ds gs : List (DataW H)) (before : List MemPlace)
    (hval : ∀ (j : Nat) t v, Tryd.f19.params[j]? = some t → args[j]? = some v → Value.okWide Tryd.prog W .any base t v)
    (hW : DataW.Whole enc Tryd.prog Tryd.f19.params.toList Rows.exprPlaysSpec.vars false W args.toList ds gs before) (hL : laidMetH Tryd.prog Rows.exprPlaysRow.laid W)
    (hsz : (DataW.weightsEach Tryd.prog (Tryd.f19.params.toList ++ Rows.exprPlaysSpec.plain.varTypes Tryd.prog) (ds ++ gs)).all (· ≤ reachBytes) = true) :
    Calls Tryd.prog 19 args W fun e W' => ∃ v, e = .returned v ∧ Rows.exprPlaysSpec.post enc Tryd.prog Tryd.f19 false true false false W args v W' := by
  have hG : GL W := GL_of_laid hL
  have hW' := hW
  obtain ⟨p, q, hA0, hV, rfl, hfz, hnd⟩ := hW
  have hA : DataW.TrodAll enc Tryd.prog W 0 (fun _ => true) true Tryd.f19.params.toList args.toList ds p := hA0
  have hAll := hA
  rw [Tryd.params19] at hA hval hsz
  obtain ⟨v0, vs0, d0, ds0, p0, q0, hargs, rfl, rfl, h0, r0⟩ := trodAll_cons hA
  obtain ⟨v1, vs1, d1, ds1, p1, q1, rfl, rfl, rfl, h1, r1⟩ := trodAll_cons r0
  obtain ⟨v2, vs2, d2, ds2, p2, q2, rfl, rfl, rfl, h2, r2⟩ := trodAll_cons r1
  obtain ⟨rfl, rfl, rfl⟩ := trodAll_nil r2
  obtain rfl : args = #[v0, v1, v2] := by cases args; simp_all
  obtain ⟨rfl, rfl⟩ := trodVars_none hV
  replace hsz : (DataW.weightsEach Tryd.prog [30, 3, 30] [d0, d1, d2]).all (· ≤ reachBytes) = true := hsz
  simp only [DataW.weightsEach, List.all_append, Bool.and_eq_true, List.append_nil] at hsz
  obtain ⟨s0, s1, s2⟩ := hsz
  obtain ⟨A0, c0, l0, rfl, le0, C0, ok0⟩ := opensN.param_slice Tryd.underlying30 (hval 0 30 v0 rfl rfl) h0 s0
  obtain ⟨a1, rfl, ok1⟩ := opens3.param_int Tryd.underlying3 (hval 1 3 v1 rfl rfl) h1 s1
  obtain ⟨A2, c2, l2, rfl, le2, C2, ok2⟩ := opensN.param_slice Tryd.underlying30 (hval 2 30 v2 rfl rfl) h2 s2
  obtain ⟨k, hk⟩ := pure l0 ok0 a1 ok1 l2 ok2
  refine (sorrellaw02_ExprPlays.calls k A0 c0 l0 a1 A2 c2 l2 true W C0 le0 C2 le2 hG hk).mono fun e W' ⟨he, bel⟩ => ?_
  subst he
  exact ⟨_, rfl, _, _, _, [], _, [], hW', trodAll_mk1 (shut_bool Tryd.underlying4 _), trodAll_below laidOut bel (ts := Tryd.f19.params.toList) (by rw [Tryd.params19]; intro t ht; simp at ht; rcases ht with rfl | rfl | rfl <;> exact ⟨by kernel_rfl, of_decide_eq_true (by kernel_rfl)⟩) hAll, rfl, bel.frame _, fun h => by cases h⟩
theorem laid_met (os : Os) : laidMet Tryd.prog Rows.exprPlaysRow.laid ((laidWorld os).forCall (fun _ _ => 0) ⟨#[], #[.slice none 0 0, .int .i64 0, .slice none 0 0], []⟩).memory :=
  laidMet_of_run' 8 (by kernel_rfl) (by kernel_rfl)
theorem reads (os : Os) {H : Type} (enc : TypeId × Value → H) : ∃ places, DataW.whole enc Tryd.prog ((laidWorld os).forCall (fun _ _ => 0) ⟨#[], #[.slice none 0 0, .int .i64 0, .slice none 0 0], []⟩).memory Tryd.f19.params.toList Rows.exprPlaysSpec.vars false #[Value.slice none 0 0, .int .i64 0, .slice none 0 0].toList 8 = some ([.nil, .lit (.int .i64 0), .nil], [], places) :=
  ⟨[], by kernel_rfl⟩
theorem lifted (os : Os) (started : os.Started) (H : Type) (enc : TypeId × Value → H) (F : Stop.Interp) :
    ReturnsInHanded {} Tryd.checked os 19 .any ((OpenSpec.ofChange Rows.exprPlaysSpec).preRow enc Tryd.prog Tryd.f19 Rows.exprPlaysRow.domain false Rows.exprPlaysRow.laid) (((OpenSpec.ofChange Rows.exprPlaysSpec).at F).post enc Tryd.prog Tryd.f19 false true false false) := by
  obtain ⟨places, hx⟩ := reads os enc
  refine returnsInHanded_of_row (C := Tryd.checked) (s := OpenSpec.ofChange Rows.exprPlaysSpec) own started (by kernel_rfl) Tryd.func19
    (witness_row_at (enc := enc) (C := Tryd.checked) false (laidWorld os) #[.slice none 0 0, .int .i64 0, .slice none 0 0] rfl (by kernel_rfl) (by kernel_rfl) (by kernel_rfl)
      (OpenSpec.preRow_of_cond 8 hx (by kernel_rfl) (fun k hk => by cases hk) (by kernel_rfl) (laid_met os))) ?_
  intro W base args ds gs before hval hW _ _ hsz hL _ _
  exact contract H enc W base args ds gs before hval hW hL hsz
set_option maxHeartbeats 8000000 in
theorem facts : joinedFacts Tryd.pinned.checked.prog 19 Tryd.f19 (OpenSpec.ofChange Rows.exprPlaysSpec).bare Rows.exprPlaysRow = true := by
  unfold joinedFacts
  simp only [Bool.and_eq_true]
  repeat' apply And.intro
  all_goals (as_aux_lemma => kernel_rfl)
theorem said : Rows.ExprPlaysSaid :=
  OpenClaim.holds_of_cond 19 Tryd.f19 rfl rfl rfl rfl rfl rfl rfl ⟨rfl, rfl, rfl, rfl, rfl⟩ rfl rfl rfl rfl rfl (by as_aux_lemma => kernel_rfl) Tryd.func19 facts
    (of_decide_eq_true (by as_aux_lemma => kernel_rfl)) (by unfold Func.isWrapper; first | (rw [if_pos (by decide +kernel)]; kernel_rfl) | (rw [if_neg (by decide +kernel)]; exact ⟨rfl, rfl⟩))
    (fun os started H enc _ F => by rw [OpenClaim.pre_eq_preRow]; exact lifted os started H enc F)
theorem plain (f : FuncId) (fn : Func) (hf : Tryd.pinned.checked.prog.funcNamed "sorrel/sorrellaw02.ExprPlays" = some f) (hfn : Tryd.pinned.checked.prog.funcs[f]? = some fn) :
    true = Tryd.pinned.checked.prog.looks [] ∧ ∀ (j : Nat) t, fn.params[j]? = some t → Tryd.pinned.checked.prog.wantsStandIn t = false := by
  obtain rfl : f = 19 := Option.some.inj ((show Tryd.prog.funcNamed "sorrel/sorrellaw02.ExprPlays" = some 19 by kernel_rfl).symm.trans hf) |>.symm
  obtain rfl : fn = Tryd.f19 := (Option.some.inj (Tryd.func19.symm.trans hfn)).symm
  refine ⟨by kernel_rfl, fun j t ht => ?_⟩
  rw [Tryd.params19] at ht
  have hm := Array.mem_of_getElem? ht
  simp at hm
  rcases hm with rfl | rfl | rfl
  · exact (show Tryd.prog.wantsStandIn 30 = false by kernel_rfl)
  · exact (show Tryd.prog.wantsStandIn 3 = false by kernel_rfl)
  · exact (show Tryd.prog.wantsStandIn 30 = false by kernel_rfl)
/-- The card. -/
theorem card : Rows.ExprPlaysCardSaid :=
  Claim7.holds_tied_plain_at .later [] _ _ _ _ said (fun _ h => by cases h) (by as_aux_lemma => kernel_rfl) (fun _ h => by cases h) exprPlays_row_tie rfl ⟨rfl, rfl⟩ (by as_aux_lemma => kernel_rfl) rfl plain (by as_aux_lemma => kernel_rfl)
end Go.Proofs.YtacjjfoelhckcaaDoor.exprPlays
namespace Go.Proofs.YtacjjfoelhckcaaDoor
theorem exprPlays_card : Rows.ExprPlaysCardSaid := exprPlays.card
end Go.Proofs.YtacjjfoelhckcaaDoor
