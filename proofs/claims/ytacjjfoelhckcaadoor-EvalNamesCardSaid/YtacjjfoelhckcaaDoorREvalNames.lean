/- The row of the law EvalNames: the argument opened, the walk, the card. -/
import Derived.Test.YtacjjfoelhckcaaDoorO3
import Derived.Test.YtacjjfoelhckcaaDoorQEvalNames
import Derived.OpenShut
import Derived.ShutString
import Derived.ChangeOld
namespace Go.Proofs.YtacjjfoelhckcaaDoor.evalNames
open Go.ChangeShapes Go.WideShapes Go.ChangeAt Go.RowKit Go.Proofs.YtacjjfoelhckcaaDoorW.PrintWords PEvalNames
set_option linter.unusedVariables false
set_option maxRecDepth 100000
theorem opensN : Opens Tryd.prog (Kd.slice 45 k45) 30 (okR 56 fun x : S45 => okN (x.f0, x.f1, x.f2, x.f3)) := opens_slice 56 Tryd.underlying30 cells45 bytes45 (opens_iso (fun x : S45 => (x.f0, x.f1, x.f2, x.f3)) (fun p => ⟨p.1, p.2.1, p.2.2.1, p.2.2.2⟩) (fun _ => rfl) opens45)
theorem opensB : Opens Tryd.prog (Kd.slice 70 k70) 61 (okR 24 fun x : S70 => okS x.f0 ∧ okI x.f1) := opens_slice 24 Tryd.underlying61 cells70 bytes70 (opens_iso (fun x : S70 => (x.f0, x.f1)) (fun p => ⟨p.1, p.2⟩) (fun _ => rfl) opens70)
theorem contract (H : Type) (enc : TypeId × Value → H) (W : World) (base : Nat) (args : Array Value) (ds gs : List (DataW H)) (before : List MemPlace)
    (hval : ∀ (j : Nat) t v, Tryd.f20.params[j]? = some t → args[j]? = some v → Value.okWide Tryd.prog W .any base t v)
    (hW : DataW.Whole enc Tryd.prog Tryd.f20.params.toList Rows.evalNamesSpec.vars false W args.toList ds gs before) (hL : laidMetH Tryd.prog Rows.evalNamesRow.laid W)
    (hsz : (DataW.weightsEach Tryd.prog (Tryd.f20.params.toList ++ Rows.evalNamesSpec.plain.varTypes Tryd.prog) (ds ++ gs)).all (· ≤ reachBytes) = true) :
    Calls Tryd.prog 20 args W fun e W' => ∃ v, e = .returned v ∧ Rows.evalNamesSpec.post enc Tryd.prog Tryd.f20 false true false false W args v W' := by
  have hG : GL W := GL_of_laid hL
  have hW' := hW
  obtain ⟨p, q, hA0, hV, rfl, hfz, hnd⟩ := hW
  have hA : DataW.TrodAll enc Tryd.prog W 0 (fun _ => true) true Tryd.f20.params.toList args.toList ds p := hA0
  have hAll := hA
  rw [Tryd.params20] at hA hval hsz
  obtain ⟨v0, vs0, d0, ds0, p0, q0, hargs, rfl, rfl, h0, r0⟩ := trodAll_cons hA
  obtain ⟨v1, vs1, d1, ds1, p1, q1, rfl, rfl, rfl, h1, r1⟩ := trodAll_cons r0
  obtain ⟨v2, vs2, d2, ds2, p2, q2, rfl, rfl, rfl, h2, r2⟩ := trodAll_cons r1
  obtain ⟨v3, vs3, d3, ds3, p3, q3, rfl, rfl, rfl, h3, r3⟩ := trodAll_cons r2
  obtain ⟨rfl, rfl, rfl⟩ := trodAll_nil r3
  obtain rfl : args = #[v0, v1, v2, v3] := by cases args; simp_all
  obtain ⟨rfl, rfl⟩ := trodVars_none hV
  replace hsz : (DataW.weightsEach Tryd.prog [30, 61, 9, 2] [d0, d1, d2, d3]).all (· ≤ reachBytes) = true := hsz
  simp only [DataW.weightsEach, List.all_append, Bool.and_eq_true, List.append_nil] at hsz
  obtain ⟨s0, s1, s2, s3⟩ := hsz
  obtain ⟨A0, c0, l0, rfl, le0, C0, ok0⟩ := opensN.param_slice Tryd.underlying30 (hval 0 30 v0 rfl rfl) h0 s0
  obtain ⟨A1, c1, l1, rfl, le1, C1, ok1⟩ := opensB.param_slice Tryd.underlying61 (hval 1 61 v1 rfl rfl) h1 s1
  obtain ⟨a2, rfl, ok2⟩ := opens9.param_string Tryd.underlying9 (hval 2 9 v2 rfl rfl) h2 s2
  obtain ⟨a3, rfl, ok3⟩ := opens2.param_int Tryd.underlying2 (hval 3 2 v3 rfl rfl) h3 s3
  obtain ⟨k, hk⟩ := pure l0 ok0 l1 ok1 a2 ok2 a3 ok3
  refine (sorrellaw08_EvalNames.calls k A0 c0 l0 A1 c1 l1 a2 a3 true W C0 le0 C1 le1 hG hk).mono fun e W' ⟨he, bel⟩ => ?_
  subst he
  exact ⟨_, rfl, _, _, _, [], _, [], hW', trodAll_mk1 (shut_bool Tryd.underlying4 _), trodAll_below laidOut bel (ts := Tryd.f20.params.toList) (by rw [Tryd.params20]; intro t ht; simp at ht; rcases ht with rfl | rfl | rfl | rfl <;> exact ⟨by kernel_rfl, of_decide_eq_true (by kernel_rfl)⟩) hAll, rfl, bel.frame _, fun h => by cases h⟩
theorem laid_met (os : Os) : laidMet Tryd.prog Rows.evalNamesRow.laid ((laidWorld os).forCall (fun _ _ => 0) ⟨#[], #[.slice none 0 0, .slice none 0 0, .string ByteArray.empty, .int .i64 0], []⟩).memory :=
  laidMet_of_run' 8 (by kernel_rfl) (by kernel_rfl)
theorem reads (os : Os) {H : Type} (enc : TypeId × Value → H) : ∃ places, DataW.whole enc Tryd.prog ((laidWorld os).forCall (fun _ _ => 0) ⟨#[], #[.slice none 0 0, .slice none 0 0, .string ByteArray.empty, .int .i64 0], []⟩).memory Tryd.f20.params.toList Rows.evalNamesSpec.vars false #[Value.slice none 0 0, .slice none 0 0, .string ByteArray.empty, .int .i64 0].toList 8 = some ([.nil, .nil, .lit (.string []), .lit (.int .i64 0)], [], places) :=
  ⟨[], by kernel_rfl⟩
theorem lifted (os : Os) (started : os.Started) (H : Type) (enc : TypeId × Value → H) (F : Stop.Interp) :
    ReturnsInHanded {} Tryd.checked os 20 .any ((OpenSpec.ofChange Rows.evalNamesSpec).preRow enc Tryd.prog Tryd.f20 Rows.evalNamesRow.domain false Rows.evalNamesRow.laid) (((OpenSpec.ofChange Rows.evalNamesSpec).at F).post enc Tryd.prog Tryd.f20 false true false false) := by
  obtain ⟨places, hx⟩ := reads os enc
  refine returnsInHanded_of_row (C := Tryd.checked) (s := OpenSpec.ofChange Rows.evalNamesSpec) own started (by kernel_rfl) Tryd.func20
    (witness_row_at (enc := enc) (C := Tryd.checked) false (laidWorld os) #[.slice none 0 0, .slice none 0 0, .string ByteArray.empty, .int .i64 0] rfl (by kernel_rfl) (by kernel_rfl) (by kernel_rfl)
      (OpenSpec.preRow_of_cond 8 hx (by kernel_rfl) (fun k hk => by cases hk) (by kernel_rfl) (laid_met os))) ?_
  intro W base args ds gs before hval hW _ _ hsz hL _ _
  exact contract H enc W base args ds gs before hval hW hL hsz
set_option maxHeartbeats 8000000 in
theorem facts : joinedFacts Tryd.pinned.checked.prog 20 Tryd.f20 (OpenSpec.ofChange Rows.evalNamesSpec).bare Rows.evalNamesRow = true := by
  unfold joinedFacts
  simp only [Bool.and_eq_true]
  repeat' apply And.intro
  all_goals (as_aux_lemma => kernel_rfl)
theorem said : Rows.EvalNamesSaid :=
  OpenClaim.holds_of_cond 20 Tryd.f20 rfl rfl rfl rfl rfl rfl rfl ⟨rfl, rfl, rfl, rfl, rfl⟩ rfl rfl rfl rfl rfl (by as_aux_lemma => kernel_rfl) Tryd.func20 facts
    (of_decide_eq_true (by as_aux_lemma => kernel_rfl)) (by unfold Func.isWrapper; first | (rw [if_pos (by decide +kernel)]; kernel_rfl) | (rw [if_neg (by decide +kernel)]; exact ⟨rfl, rfl⟩))
    (fun os started H enc _ F => by rw [OpenClaim.pre_eq_preRow]; exact lifted os started H enc F)
theorem plain (f : FuncId) (fn : Func) (hf : Tryd.pinned.checked.prog.funcNamed "sorrel/sorrellaw08.EvalNames" = some f) (hfn : Tryd.pinned.checked.prog.funcs[f]? = some fn) :
    true = Tryd.pinned.checked.prog.looks [] ∧ ∀ (j : Nat) t, fn.params[j]? = some t → Tryd.pinned.checked.prog.wantsStandIn t = false := by
  obtain rfl : f = 20 := Option.some.inj ((show Tryd.prog.funcNamed "sorrel/sorrellaw08.EvalNames" = some 20 by kernel_rfl).symm.trans hf) |>.symm
  obtain rfl : fn = Tryd.f20 := (Option.some.inj (Tryd.func20.symm.trans hfn)).symm
  refine ⟨by kernel_rfl, fun j t ht => ?_⟩
  rw [Tryd.params20] at ht
  have hm := Array.mem_of_getElem? ht
  simp at hm
  rcases hm with rfl | rfl | rfl | rfl
  · exact (show Tryd.prog.wantsStandIn 30 = false by kernel_rfl)
  · exact (show Tryd.prog.wantsStandIn 61 = false by kernel_rfl)
  · exact (show Tryd.prog.wantsStandIn 9 = false by kernel_rfl)
  · exact (show Tryd.prog.wantsStandIn 2 = false by kernel_rfl)
/-- The card. -/
theorem card : Rows.EvalNamesCardSaid :=
  Claim7.holds_tied_plain_at .later [] _ _ _ _ said (fun _ h => by cases h) (by as_aux_lemma => kernel_rfl) (fun _ h => by cases h) evalNames_row_tie rfl ⟨rfl, rfl⟩ (by as_aux_lemma => kernel_rfl) rfl plain (by as_aux_lemma => kernel_rfl)
end Go.Proofs.YtacjjfoelhckcaaDoor.evalNames
namespace Go.Proofs.YtacjjfoelhckcaaDoor
theorem evalNames_card : Rows.EvalNamesCardSaid := evalNames.card
end Go.Proofs.YtacjjfoelhckcaaDoor
