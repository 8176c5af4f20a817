/- The row of the law ExprMakes: the argument opened, the walk, the card. -/
import Derived.Test.YtacjjfoelhckcaaDoorO2
import Derived.Test.YtacjjfoelhckcaaDoorQExprMakes
import Derived.OpenShut
import Derived.ShutString
import Derived.ChangeOld
namespace Go.Proofs.YtacjjfoelhckcaaDoor.exprMakes
open Go.ChangeShapes Go.WideShapes Go.ChangeAt Go.RowKit Go.Proofs.YtacjjfoelhckcaaDoorW.PrintWords PExprMakes
set_option linter.unusedVariables false
set_option maxRecDepth 100000
theorem opensN : Opens Tryd.prog (Kd.slice 45 k45) 30 (okR 56 fun x : S45 => okN (x.f0, x.f1, x.f2, x.f3)) := opens_slice 56 Tryd.underlying30 cells45 bytes45 (opens_iso (fun x : S45 => (x.f0, x.f1, x.f2, x.f3)) (fun p => ⟨p.1, p.2.1, p.2.2.1, p.2.2.2⟩) (fun _ => rfl) opens45)
theorem opensT : Opens Tryd.prog (Kd.slice 30 (Kd.slice 45 k45)) 22 (okR 24 (okR 56 fun x : S45 => okN (x.f0, x.f1, x.f2, x.f3))) := opens_slice 24 Tryd.underlying22 cells30 bytes30 opensN
theorem opens24 : Opens Tryd.prog (Kd.pair (Kd.int .i64) (Kd.pair (Kd.int .i64) (Kd.pair Kd.string (Kd.slice 30 (Kd.slice 45 k45))))) 24 (fun x => okI x.1 ∧ okI x.2.1 ∧ okS x.2.2.1 ∧ okR 24 (okR 56 fun x : S45 => okN (x.f0, x.f1, x.f2, x.f3)) x.2.2.2) :=
  opens_struct4 Tryd.underlying24 rfl cells24 cells3 cells2 cells9 cells22 opens3 opens2 opens9 opensT
theorem contract (H : Type) (enc : TypeId × Value → H) (W : World) (base : Nat) (args : Array Value) (ds gs : List (DataW H)) (before : List MemPlace)
    (hval : ∀ (j : Nat) t v, Tryd.f3.params[j]? = some t → args[j]? = some v → Value.okWide Tryd.prog W .any base t v)
    (hW : DataW.Whole enc Tryd.prog Tryd.f3.params.toList Rows.exprMakesSpec.vars false W args.toList ds gs before) (hL : laidMetH Tryd.prog Rows.exprMakesRow.laid W)
    (hsz : (DataW.weightsEach Tryd.prog (Tryd.f3.params.toList ++ Rows.exprMakesSpec.plain.varTypes Tryd.prog) (ds ++ gs)).all (· ≤ reachBytes) = true) :
    Calls Tryd.prog 3 args W fun e W' => ∃ v, e = .returned v ∧ Rows.exprMakesSpec.post enc Tryd.prog Tryd.f3 false true false false W args v W' := by
  have hG : GL W := GL_of_laid hL
  have hW' := hW
  obtain ⟨p, q, hA0, hV, rfl, hfz, hnd⟩ := hW
  have hA : DataW.TrodAll enc Tryd.prog W 0 (fun _ => true) true Tryd.f3.params.toList args.toList ds p := hA0
  have hAll := hA
  rw [Tryd.params3] at hA hval hsz
  obtain ⟨v0, vs0, d0, ds0, p0, q0, hargs, rfl, rfl, h0, r0⟩ := trodAll_cons hA
  obtain ⟨rfl, rfl, rfl⟩ := trodAll_nil r0
  obtain rfl : args = #[v0] := by cases args; simp_all
  obtain ⟨rfl, rfl⟩ := trodVars_none hV
  replace hsz : (DataW.weightsEach Tryd.prog [24] [d0]).all (· ≤ reachBytes) = true := hsz
  simp only [DataW.weightsEach, List.append_nil] at hsz
  have s0 := hsz
  obtain ⟨cs0, ⟨a0_0, a0_1, a0_2, a0_3⟩, rfl, ⟨_, _, hc0, k0_0, _, _, rfl, k0_1, _, _, rfl, k0_2, k0_3⟩, ok0_0, ok0_1, ok0_2, ok0_3⟩ := opens24.param_struct Tryd.underlying24 (hval 0 24 v0 rfl rfl) h0 s0
  obtain ⟨A0, c0, rfl, le0, C0⟩ := k0_3
  replace k0_0 : _ = [Value.int .i64 a0_0] := k0_0
  replace k0_1 : _ = [Value.int .i64 a0_1] := k0_1
  replace k0_2 : _ = [Value.string a0_2] := k0_2
  subst k0_0 k0_1 k0_2
  obtain rfl : cs0 = #[.int .i64 a0_0, .int .i64 a0_1, .string a0_2, .slice A0 a0_3.length c0] := by cases cs0; simp_all
  obtain ⟨k, hk⟩ := pure a0_0 a0_1 a0_2 a0_3 ok0_0 ok0_1 ok0_2 ok0_3
  refine (sorrellaw02_ExprMakes.calls k a0_0 a0_1 a0_2 A0 c0 a0_3 true W C0 le0 hG hk).mono fun e W' ⟨he, bel⟩ => ?_
  subst he
  exact ⟨_, rfl, _, _, _, [], _, [], hW', trodAll_mk1 (shut_bool Tryd.underlying4 _), trodAll_below laidOut bel (ts := Tryd.f3.params.toList) (by rw [Tryd.params3]; intro t ht; simp at ht; subst ht; exact ⟨by kernel_rfl, of_decide_eq_true (by kernel_rfl)⟩) hAll, rfl, bel.frame _, fun h => by cases h⟩
theorem laid_met (os : Os) : laidMet Tryd.prog Rows.exprMakesRow.laid ((laidWorld os).forCall (fun _ _ => 0) ⟨#[], #[.agg #[.int .i64 0, .int .i64 0, .string ByteArray.empty, .slice none 0 0]], []⟩).memory :=
  laidMet_of_run' 8 (by kernel_rfl) (by kernel_rfl)
theorem reads (os : Os) {H : Type} (enc : TypeId × Value → H) : ∃ places, DataW.whole enc Tryd.prog ((laidWorld os).forCall (fun _ _ => 0) ⟨#[], #[.agg #[.int .i64 0, .int .i64 0, .string ByteArray.empty, .slice none 0 0]], []⟩).memory Tryd.f3.params.toList Rows.exprMakesSpec.vars false #[(.agg #[.int .i64 0, .int .i64 0, .string ByteArray.empty, .slice none 0 0] : Value)].toList 8 = some ([.agg [.lit (.int .i64 0), .lit (.int .i64 0), .lit (.string []), .nil]], [], places) :=
  ⟨[], by kernel_rfl⟩
theorem lifted (os : Os) (started : os.Started) (H : Type) (enc : TypeId × Value → H) (F : Stop.Interp) :
    ReturnsInHanded {} Tryd.checked os 3 .any ((OpenSpec.ofChange Rows.exprMakesSpec).preRow enc Tryd.prog Tryd.f3 Rows.exprMakesRow.domain false Rows.exprMakesRow.laid) (((OpenSpec.ofChange Rows.exprMakesSpec).at F).post enc Tryd.prog Tryd.f3 false true false false) := by
  obtain ⟨places, hx⟩ := reads os enc
  refine returnsInHanded_of_row (C := Tryd.checked) (s := OpenSpec.ofChange Rows.exprMakesSpec) own started (by kernel_rfl) Tryd.func3
    (witness_row_at (enc := enc) (C := Tryd.checked) false (laidWorld os) #[.agg #[.int .i64 0, .int .i64 0, .string ByteArray.empty, .slice none 0 0]] rfl (by kernel_rfl) (by kernel_rfl) (by kernel_rfl)
      (OpenSpec.preRow_of_cond 8 hx (by kernel_rfl) (fun k hk => by cases hk) (by kernel_rfl) (laid_met os))) ?_
  intro W base args ds gs before hval hW _ _ hsz hL _ _
  exact contract H enc W base args ds gs before hval hW hL hsz
set_option maxHeartbeats 8000000 in
theorem facts : joinedFacts Tryd.pinned.checked.prog 3 Tryd.f3 (OpenSpec.ofChange Rows.exprMakesSpec).bare Rows.exprMakesRow = true := by
  unfold joinedFacts
  simp only [Bool.and_eq_true]
  repeat' apply And.intro
  all_goals (as_aux_lemma => kernel_rfl)
theorem said : Rows.ExprMakesSaid :=
  OpenClaim.holds_of_cond 3 Tryd.f3 rfl rfl rfl rfl rfl rfl rfl ⟨rfl, rfl, rfl, rfl, rfl⟩ rfl rfl rfl rfl rfl (by as_aux_lemma => kernel_rfl) Tryd.func3 facts
    (of_decide_eq_true (by as_aux_lemma => kernel_rfl)) (by unfold Func.isWrapper; first | (rw [if_pos (by decide +kernel)]; kernel_rfl) | (rw [if_neg (by decide +kernel)]; exact ⟨rfl, rfl⟩))
    (fun os started H enc _ F => by rw [OpenClaim.pre_eq_preRow]; exact lifted os started H enc F)
theorem plain (f : FuncId) (fn : Func) (hf : Tryd.pinned.checked.prog.funcNamed "sorrel/sorrellaw02.ExprMakes" = some f) (hfn : Tryd.pinned.checked.prog.funcs[f]? = some fn) :
    true = Tryd.pinned.checked.prog.looks [] ∧ ∀ (j : Nat) t, fn.params[j]? = some t → Tryd.pinned.checked.prog.wantsStandIn t = false := by
  obtain rfl : f = 3 := Option.some.inj ((show Tryd.prog.funcNamed "sorrel/sorrellaw02.ExprMakes" = some 3 by kernel_rfl).symm.trans hf) |>.symm
  obtain rfl : fn = Tryd.f3 := (Option.some.inj (Tryd.func3.symm.trans hfn)).symm
  refine ⟨by kernel_rfl, fun j t ht => ?_⟩
  rw [Tryd.params3] at ht
  have hm := Array.mem_of_getElem? ht
  simp at hm
  subst hm
  exact (show Tryd.prog.wantsStandIn 24 = false by kernel_rfl)
/-- The card. -/
theorem card : Rows.ExprMakesCardSaid :=
  Claim7.holds_tied_plain_at .later [] _ _ _ _ said (fun _ h => by cases h) (by as_aux_lemma => kernel_rfl) (fun _ h => by cases h) exprMakes_row_tie rfl ⟨rfl, rfl⟩ (by as_aux_lemma => kernel_rfl) rfl plain (by as_aux_lemma => kernel_rfl)
end Go.Proofs.YtacjjfoelhckcaaDoor.exprMakes
namespace Go.Proofs.YtacjjfoelhckcaaDoor
theorem exprMakes_card : Rows.ExprMakesCardSaid := exprMakes.card
end Go.Proofs.YtacjjfoelhckcaaDoor
