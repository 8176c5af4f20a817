/- Contracts of functions, printed by the session's own changed copy of the print generator (see its notes); the plain functions tell what the calls answer. -/
import Derived.Test.YtacjjfoelhckcaaDoorPExprPlaysx0
import Derived.Test.YtacjjfoelhckcaaDoorPExprPlaysx2
import Derived.Test.YtacjjfoelhckcaaDoorPExprPlaysx3
import Derived.Test.YtacjjfoelhckcaaDoorPExprPlaysx4
import Derived.Test.YtacjjfoelhckcaaDoorPExprPlaysx5
import Derived.Test.YtacjjfoelhckcaaDoorPExprPlaysx6
import Derived.Test.YtacjjfoelhckcaaDoorPExprPlaysx7
import Derived.Test.YtacjjfoelhckcaaDoorPExprPlaysx8
import Derived.Test.YtacjjfoelhckcaaDoorPExprPlaysx9
import Derived.Test.YtacjjfoelhckcaaDoorPExprPlaysx10
namespace Go.Proofs.YtacjjfoelhckcaaDoor.PExprPlays
open Go.RowKit Go.Proofs.YtacjjfoelhckcaaDoorW.PrintWords Go.Proofs.YtacjjfoelhckcaaDoorW.PrintLast Go.Proofs.YtacjjfoelhckcaaDoorW.PrintMore
attribute [local go_sem] max2_int min2_int max_two min_two max_three min_three max_four min_four   -- for this text's walks alone
set_option linter.unusedVariables false
set_option linter.unusedSimpArgs false
/-! ### sorrellaw02_ExprPlays: function 19 -/
mutual
def sorrellaw02_ExprPlays.j0 : Nat → List (S45) → Int → List (S45) → Bool → Option (Bool)
  | 0, _, _, _, _ => none
  | k + 1, x0, x1, x2, x26 => if x26 = true then (some false) else ((sorrelref02_Copy.f k x0).bind fun t327 => ((expr_Part.f k t327 x1).bind fun bt330 => ((sorrelref02_Part.f k x0 x1).bind fun bt334 => (if bt330.2 = bt334.2 then ((sorrelref02_Same.f k bt330.1 bt334.1).bind fun t338 => (sorrellaw02_ExprPlays.j1 k x0 x1 x2 (!t338))) else (sorrellaw02_ExprPlays.j1 k x0 x1 x2 true)))))
def sorrellaw02_ExprPlays.j1 : Nat → List (S45) → Int → List (S45) → Bool → Option (Bool)
  | 0, _, _, _, _ => none
  | k + 1, x0, x1, x2, x48 => if x48 = true then (some false) else ((sorrelref02_Copy.f k x0).bind fun t339 => ((sorrelref02_Copy.f k x2).bind fun t342 => ((expr_Put.f k t339 x1 t342).bind fun bt345 => ((sorrelref02_Put.f k x0 x1 x2).bind fun bt349 => (if bt345.2 = bt349.2 then ((sorrelref02_Same.f k bt345.1 bt349.1).bind fun t353 => (sorrellaw02_ExprPlays.j2 k x0 (!t353))) else (sorrellaw02_ExprPlays.j2 k x0 true))))))
def sorrellaw02_ExprPlays.j2 : Nat → List (S45) → Bool → Option (Bool)
  | 0, _, _ => none
  | k + 1, x0, x73 => if x73 = true then (some false) else ((sorrelref02_Copy.f k x0).bind fun t354 => ((expr_Depth.f k t354).bind fun bt357 => ((sorrelref02_Depth.f k x0).bind fun bt359 => ((sorrelref02_Copy.f k x0).bind fun t361 => ((expr_Vars.f k t361).bind fun bt364 => ((sorrelref02_Vars.f k x0).bind fun bt368 => (if bt357.1 = bt359.1 then (if bt357.2 = bt359.2 then (if bt364.2 = bt368.2 then ((sorrelref02_SameTexts.f k bt364.1 bt368.1).bind fun t372 => (some t372)) else (some false)) else (some false)) else (some false))))))))
end
def sorrellaw02_ExprPlays.f (k : Nat) (l0 : List (S45)) (a1 : Int) (l2 : List (S45)) : Option (Bool) := (sorrellaw02_awake.f k).bind fun t321 => (if t321 = true then ((sorrelref02_Copy.f k l0).bind fun t322 => ((expr_Check.f k t322).bind fun t325 => ((sorrelref02_Check.f k l0).bind fun t326 => (sorrellaw02_ExprPlays.j0 k l0 a1 l2 (t325 != t326))))) else (sorrellaw02_ExprPlays.j0 k l0 a1 l2 true))
theorem sorrellaw02_ExprPlays.mono_l : ∀ k, (∀ y0 y1 y2 y3, LeO (sorrellaw02_ExprPlays.j0 k y0 y1 y2 y3) (sorrellaw02_ExprPlays.j0 (k + 1) y0 y1 y2 y3)) ∧ (∀ y0 y1 y2 y3, LeO (sorrellaw02_ExprPlays.j1 k y0 y1 y2 y3) (sorrellaw02_ExprPlays.j1 (k + 1) y0 y1 y2 y3)) ∧ (∀ y0 y1, LeO (sorrellaw02_ExprPlays.j2 k y0 y1) (sorrellaw02_ExprPlays.j2 (k + 1) y0 y1))
  | 0 => ⟨fun _ _ _ _ r h => by simp [sorrellaw02_ExprPlays.j0] at h, fun _ _ _ _ r h => by simp [sorrellaw02_ExprPlays.j1] at h, fun _ _ r h => by simp [sorrellaw02_ExprPlays.j2] at h⟩
  | k + 1 => by
    obtain ⟨ih0, ih1, ih2⟩ := sorrellaw02_ExprPlays.mono_l k
    refine ⟨?_, ?_, ?_⟩
    · intro y0 y1 y2 y3
      unfold sorrellaw02_ExprPlays.j0
      repeat' first
      | (with_reducible exact ih0 _ _ _ _)
      | (with_reducible exact ih1 _ _ _ _)
      | (with_reducible exact ih2 _ _)
      | (with_reducible exact expr_Check.mono _ _)
      | (with_reducible exact expr_Depth.mono _ _)
      | (with_reducible exact expr_Part.mono _ _ _)
      | (with_reducible exact expr_Put.mono _ _ _ _)
      | (with_reducible exact expr_Vars.mono _ _)
      | (with_reducible exact sorrellaw02_awake.mono _)
      | (with_reducible exact sorrelref02_Check.mono _ _)
      | (with_reducible exact sorrelref02_Copy.mono _ _)
      | (with_reducible exact sorrelref02_Depth.mono _ _)
      | (with_reducible exact sorrelref02_Part.mono _ _ _)
      | (with_reducible exact sorrelref02_Put.mono _ _ _ _)
      | (with_reducible exact sorrelref02_Same.mono _ _ _)
      | (with_reducible exact sorrelref02_SameTexts.mono _ _ _)
      | (with_reducible exact sorrelref02_Vars.mono _ _)
      | (with_reducible exact LeO.refl _)
      | (with_reducible exact LeO.none _)
      | (with_reducible refine LeO.ite ?_ ?_)
      | (with_reducible refine LeO.bind ?_ (fun _ => ?_))
      | exact ih0 _ _ _ _
      | exact ih1 _ _ _ _
      | exact ih2 _ _
      | exact expr_Check.mono _ _
      | exact expr_Depth.mono _ _
      | exact expr_Part.mono _ _ _
      | exact expr_Put.mono _ _ _ _
      | exact expr_Vars.mono _ _
      | exact sorrellaw02_awake.mono _
      | exact sorrelref02_Check.mono _ _
      | exact sorrelref02_Copy.mono _ _
      | exact sorrelref02_Depth.mono _ _
      | exact sorrelref02_Part.mono _ _ _
      | exact sorrelref02_Put.mono _ _ _ _
      | exact sorrelref02_Same.mono _ _ _
      | exact sorrelref02_SameTexts.mono _ _ _
      | exact sorrelref02_Vars.mono _ _
      | exact LeO.none _
      | refine LeO.ite ?_ ?_
      | refine LeO.bind ?_ (fun _ => ?_)
    · intro y0 y1 y2 y3
      unfold sorrellaw02_ExprPlays.j1
      repeat' first
      | (with_reducible exact ih0 _ _ _ _)
      | (with_reducible exact ih1 _ _ _ _)
      | (with_reducible exact ih2 _ _)
      | (with_reducible exact expr_Check.mono _ _)
      | (with_reducible exact expr_Depth.mono _ _)
      | (with_reducible exact expr_Part.mono _ _ _)
      | (with_reducible exact expr_Put.mono _ _ _ _)
      | (with_reducible exact expr_Vars.mono _ _)
      | (with_reducible exact sorrellaw02_awake.mono _)
      | (with_reducible exact sorrelref02_Check.mono _ _)
      | (with_reducible exact sorrelref02_Copy.mono _ _)
      | (with_reducible exact sorrelref02_Depth.mono _ _)
      | (with_reducible exact sorrelref02_Part.mono _ _ _)
      | (with_reducible exact sorrelref02_Put.mono _ _ _ _)
      | (with_reducible exact sorrelref02_Same.mono _ _ _)
      | (with_reducible exact sorrelref02_SameTexts.mono _ _ _)
      | (with_reducible exact sorrelref02_Vars.mono _ _)
      | (with_reducible exact LeO.refl _)
      | (with_reducible exact LeO.none _)
      | (with_reducible refine LeO.ite ?_ ?_)
      | (with_reducible refine LeO.bind ?_ (fun _ => ?_))
      | exact ih0 _ _ _ _
      | exact ih1 _ _ _ _
      | exact ih2 _ _
      | exact expr_Check.mono _ _
      | exact expr_Depth.mono _ _
      | exact expr_Part.mono _ _ _
      | exact expr_Put.mono _ _ _ _
      | exact expr_Vars.mono _ _
      | exact sorrellaw02_awake.mono _
      | exact sorrelref02_Check.mono _ _
      | exact sorrelref02_Copy.mono _ _
      | exact sorrelref02_Depth.mono _ _
      | exact sorrelref02_Part.mono _ _ _
      | exact sorrelref02_Put.mono _ _ _ _
      | exact sorrelref02_Same.mono _ _ _
      | exact sorrelref02_SameTexts.mono _ _ _
      | exact sorrelref02_Vars.mono _ _
      | exact LeO.none _
      | refine LeO.ite ?_ ?_
      | refine LeO.bind ?_ (fun _ => ?_)
    intro y0 y1
    unfold sorrellaw02_ExprPlays.j2
    repeat' first
    | (with_reducible exact ih0 _ _ _ _)
    | (with_reducible exact ih1 _ _ _ _)
    | (with_reducible exact ih2 _ _)
    | (with_reducible exact expr_Check.mono _ _)
    | (with_reducible exact expr_Depth.mono _ _)
    | (with_reducible exact expr_Part.mono _ _ _)
    | (with_reducible exact expr_Put.mono _ _ _ _)
    | (with_reducible exact expr_Vars.mono _ _)
    | (with_reducible exact sorrellaw02_awake.mono _)
    | (with_reducible exact sorrelref02_Check.mono _ _)
    | (with_reducible exact sorrelref02_Copy.mono _ _)
    | (with_reducible exact sorrelref02_Depth.mono _ _)
    | (with_reducible exact sorrelref02_Part.mono _ _ _)
    | (with_reducible exact sorrelref02_Put.mono _ _ _ _)
    | (with_reducible exact sorrelref02_Same.mono _ _ _)
    | (with_reducible exact sorrelref02_SameTexts.mono _ _ _)
    | (with_reducible exact sorrelref02_Vars.mono _ _)
    | (with_reducible exact LeO.refl _)
    | (with_reducible exact LeO.none _)
    | (with_reducible refine LeO.ite ?_ ?_)
    | (with_reducible refine LeO.bind ?_ (fun _ => ?_))
    | exact ih0 _ _ _ _
    | exact ih1 _ _ _ _
    | exact ih2 _ _
    | exact expr_Check.mono _ _
    | exact expr_Depth.mono _ _
    | exact expr_Part.mono _ _ _
    | exact expr_Put.mono _ _ _ _
    | exact expr_Vars.mono _ _
    | exact sorrellaw02_awake.mono _
    | exact sorrelref02_Check.mono _ _
    | exact sorrelref02_Copy.mono _ _
    | exact sorrelref02_Depth.mono _ _
    | exact sorrelref02_Part.mono _ _ _
    | exact sorrelref02_Put.mono _ _ _ _
    | exact sorrelref02_Same.mono _ _ _
    | exact sorrelref02_SameTexts.mono _ _ _
    | exact sorrelref02_Vars.mono _ _
    | exact LeO.none _
    | refine LeO.ite ?_ ?_
    | refine LeO.bind ?_ (fun _ => ?_)
theorem sorrellaw02_ExprPlays.mono : ∀ a0 a1 a2 k, LeO (sorrellaw02_ExprPlays.f k a0 a1 a2) (sorrellaw02_ExprPlays.f (k + 1) a0 a1 a2) := by
  intro a0 a1 a2 k
  obtain ⟨ih0, ih1, ih2⟩ := sorrellaw02_ExprPlays.mono_l k
  unfold sorrellaw02_ExprPlays.f
  repeat' first
      | (with_reducible exact ih0 _ _ _ _)
      | (with_reducible exact ih1 _ _ _ _)
      | (with_reducible exact ih2 _ _)
      | (with_reducible exact expr_Check.mono _ _)
      | (with_reducible exact expr_Depth.mono _ _)
      | (with_reducible exact expr_Part.mono _ _ _)
      | (with_reducible exact expr_Put.mono _ _ _ _)
      | (with_reducible exact expr_Vars.mono _ _)
      | (with_reducible exact sorrellaw02_awake.mono _)
      | (with_reducible exact sorrelref02_Check.mono _ _)
      | (with_reducible exact sorrelref02_Copy.mono _ _)
      | (with_reducible exact sorrelref02_Depth.mono _ _)
      | (with_reducible exact sorrelref02_Part.mono _ _ _)
      | (with_reducible exact sorrelref02_Put.mono _ _ _ _)
      | (with_reducible exact sorrelref02_Same.mono _ _ _)
      | (with_reducible exact sorrelref02_SameTexts.mono _ _ _)
      | (with_reducible exact sorrelref02_Vars.mono _ _)
      | (with_reducible exact LeO.refl _)
      | (with_reducible exact LeO.none _)
      | (with_reducible refine LeO.ite ?_ ?_)
      | (with_reducible refine LeO.bind ?_ (fun _ => ?_))
      | exact ih0 _ _ _ _
      | exact ih1 _ _ _ _
      | exact ih2 _ _
      | exact expr_Check.mono _ _
      | exact expr_Depth.mono _ _
      | exact expr_Part.mono _ _ _
      | exact expr_Put.mono _ _ _ _
      | exact expr_Vars.mono _ _
      | exact sorrellaw02_awake.mono _
      | exact sorrelref02_Check.mono _ _
      | exact sorrelref02_Copy.mono _ _
      | exact sorrelref02_Depth.mono _ _
      | exact sorrelref02_Part.mono _ _ _
      | exact sorrelref02_Put.mono _ _ _ _
      | exact sorrelref02_Same.mono _ _ _
      | exact sorrelref02_SameTexts.mono _ _ _
      | exact sorrelref02_Vars.mono _ _
      | exact LeO.none _
      | refine LeO.ite ?_ ?_
      | refine LeO.bind ?_ (fun _ => ?_)
set_option maxHeartbeats 8000000 in
set_option maxRecDepth 100000 in
theorem sorrellaw02_ExprPlays.calls (k : Nat) (A0 : Option Addr) (c0 : Nat) (l0 : List (S45)) (a1 : Int) (A2 : Option Addr) (c2 : Nat) (l2 : List (S45)) (r : Bool) (w : World) (hr0 : Kd.C k45 w A0 l0.length l0) (hc0 : l0.length ≤ c0) (hr2 : Kd.C k45 w A2 l2.length l2) (hc2 : l2.length ≤ c2) (hG : GL w) (h : sorrellaw02_ExprPlays.f k l0 a1 l2 = some r) :
    Calls Tryd.prog 19 #[.slice A0 l0.length c0, .int .i64 a1, .slice A2 l2.length c2] w fun e w' => e = .returned (.bool r) ∧ Below w.heap.size w w' := by
  have HG := am hG
  clear hG
  have HR0 := am hr0
  have HC0 := am hc0
  clear hr0 hc0
  have HR2 := am hr2
  have HC2 := am hc2
  clear hr2 hc2
  have HB := am (Below.refl w.heap.size w)
  have H : ((sorrellaw02_awake.f k).bind fun t321 => (if t321 = true then ((sorrelref02_Copy.f k l0).bind fun t322 => ((expr_Check.f k t322).bind fun t325 => ((sorrelref02_Check.f k l0).bind fun t326 => (sorrellaw02_ExprPlays.j0 k l0 a1 l2 (t325 != t326))))) else (sorrellaw02_ExprPlays.j0 k l0 a1 l2 true))) = some r := h
  clear h
  have HC4 := am H
  clear H
  go_enter Tryd.func19, Tryd.ntmps19
  go_upto_region 1 with (fail)
  go_cut [26] (fun v26 wc => ∃ (kq : Nat) (x26_3 : Bool), v26 = .bool x26_3 ∧ Aside0 (sorrellaw02_ExprPlays.j0 kq l0 a1 l2 x26_3 = some r) ∧ Aside0 (kq ≤ k) ∧ Aside0 (Below w.heap.size w wc))
  case first =>
    have H := HC4.out
    clear HC4
    replace H := Option.bind_eq_some_iff.mp H
    obtain ⟨t321, A50, H⟩ := H
    replace H : (if t321 = true then ((sorrelref02_Copy.f k l0).bind fun t322 => ((expr_Check.f k t322).bind fun t325 => ((sorrelref02_Check.f k l0).bind fun t326 => (sorrellaw02_ExprPlays.j0 k l0 a1 l2 (t325 != t326))))) else (sorrellaw02_ExprPlays.j0 k l0 a1 l2 true)) = some r := H
    have A5 := am A50
    clear A50
    by_cases c6 : t321 = true
    rotate_left
    · replace c6 := Bool.eq_false_iff.mpr c6
      subst c6
      have H1 : (sorrellaw02_ExprPlays.j0 k l0 a1 l2 true) = some r := by rw [if_neg (show ¬ (false = true) by decide)] at H; exact H
      clear H
      have H := H1
      clear H1
      have H' := am H
      clear H
      go_wp2_with (first | ((with_reducible refine gate_callee (f := 22) rfl ?_); refine goesL_ (some 17) rfl rfl Tryd.func22 (by kernel_rfl) rfl #[] rfl (by (try simp only [List.map_toArray, List.map_cons, List.map_nil]); first | done | rfl | (simp only [List.length_drop, List.length_take]; rfl)) ?_; (with_reducible refine (sorrellaw02_awake.calls k  false _ ?side1 A5.out).mono ?_); (case side1 => first | exact GL.below HG.out (by repeat (first | (with_reducible first | exact HB.out | apply below_alloc | apply pw_below_drewN | apply below_drew1) | exact HB.out)) | exact HG.out); rintro e w15 ⟨rfl, hb⟩; refine ⟨_, rfl, ?_⟩; have n0_ := am (below_step (by repeat (first | (with_reducible first | exact HB.out | apply below_alloc | apply pw_below_drewN | apply below_drew1) | exact HB.out)) hb); clear HB; have HB := n0_; clear n0_; (try clear hb); (try clear hb2); (try clear hk); (try clear hi)))
      go_meet
      case rel => exact ⟨_, (true), (by first | rfl | (simp; done) | (simp [*]; done)), H', ⟨by first | omega | exact Nat.le_refl _⟩, ⟨by repeat (first | (with_reducible first | exact HB.out | apply below_alloc | apply pw_below_drewN | apply below_drew1) | exact HB.out)⟩⟩
    subst c6
    have H1 : ((sorrelref02_Copy.f k l0).bind fun t322 => ((expr_Check.f k t322).bind fun t325 => ((sorrelref02_Check.f k l0).bind fun t326 => (sorrellaw02_ExprPlays.j0 k l0 a1 l2 (t325 != t326))))) = some r := by rw [if_pos rfl] at H; exact H
    clear H
    have H := H1
    clear H1
    replace H := Option.bind_eq_some_iff.mp H
    obtain ⟨t322, A70, H⟩ := H
    replace H : ((expr_Check.f k t322).bind fun t325 => ((sorrelref02_Check.f k l0).bind fun t326 => (sorrellaw02_ExprPlays.j0 k l0 a1 l2 (t325 != t326)))) = some r := H
    have A7 := am A70
    clear A70
    replace H := Option.bind_eq_some_iff.mp H
    obtain ⟨t325, A80, H⟩ := H
    replace H : ((sorrelref02_Check.f k l0).bind fun t326 => (sorrellaw02_ExprPlays.j0 k l0 a1 l2 (t325 != t326))) = some r := H
    have A8 := am A80
    clear A80
    replace H := Option.bind_eq_some_iff.mp H
    obtain ⟨t326, A90, H⟩ := H
    replace H : (sorrellaw02_ExprPlays.j0 k l0 a1 l2 (t325 != t326)) = some r := H
    have A9 := am A90
    clear A90
    have H' := am H
    clear H
    go_wp2_with (first | ((with_reducible refine gate_callee (f := 22) rfl ?_); refine goesL_ (some 17) rfl rfl Tryd.func22 (by kernel_rfl) rfl #[] rfl (by (try simp only [List.map_toArray, List.map_cons, List.map_nil]); first | done | rfl | (simp only [List.length_drop, List.length_take]; rfl)) ?_; (with_reducible refine (sorrellaw02_awake.calls k  true _ ?side1 A5.out).mono ?_); (case side1 => first | exact GL.below HG.out (by repeat (first | (with_reducible first | exact HB.out | apply below_alloc | apply pw_below_drewN | apply below_drew1) | exact HB.out)) | exact HG.out); rintro e w10 ⟨rfl, hb⟩; refine ⟨_, rfl, ?_⟩; have n0_ := am (below_step (by repeat (first | (with_reducible first | exact HB.out | apply below_alloc | apply pw_below_drewN | apply below_drew1) | exact HB.out)) hb); clear HB; have HB := n0_; clear n0_; (try clear hb); (try clear hb2); (try clear hk); (try clear hi)) | (go_at_call 30; (with_reducible refine (sorrelref02_Copy.calls k _ _ l0 t322 _ ?side1 ?side2 A7.out).mono ?_); (case side1 => repeat (first | exact (Kd.C_below HR0.out HB.out) | (with_reducible refine Kd.C_alloc ?_ _) | (with_reducible refine Kd.C_drewN ?_ _) | (with_reducible refine Kd.C_drew ?_))); (case side2 => exact HC0.out); rintro e w11 ⟨v323, rfl, ho0, hb⟩; have n0_ := am (Kd.S_lower ho0 (below_size (by repeat (first | (with_reducible first | exact HB.out | apply below_alloc | apply pw_below_drewN | apply below_drew1) | exact HB.out)))); have n1_ := am (below_step (by repeat (first | (with_reducible first | exact HB.out | apply below_alloc | apply pw_below_drewN | apply below_drew1) | exact HB.out)) hb); clear HB; have HO324 := n0_; have HB := n1_; clear n0_ n1_; (try clear hb); (try clear hb2); (try clear hk); (try clear hi); (try clear ho0); obtain ⟨Ao12, co12, eo12⟩ := Kd.S_slice HO324.out; subst eo12) | (go_at_call 51; (with_reducible refine (expr_Check.calls k _ _ t322 t325 _ ?side1 ?side2 ?side3 A8.out).mono ?_); (case side1 => repeat (first | exact (Kd.S_reads' HO324.out).2.2 | (with_reducible refine Kd.C_alloc ?_ _) | (with_reducible refine Kd.C_drewN ?_ _) | (with_reducible refine Kd.C_drew ?_))); (case side2 => exact (Kd.S_reads' HO324.out).2.1); (case side3 => first | exact GL.below HG.out (by repeat (first | (with_reducible first | exact HB.out | apply below_alloc | apply pw_below_drewN | apply below_drew1) | exact HB.out)) | exact HG.out); rintro e w13 ⟨rfl, hb⟩; have n0_ := am (Kd.S_below (by (with_reducible repeat (first | apply Kd.S_alloc | apply Kd.S_drewN | apply Kd.S_drew)); exact HO324.out) hb); have n1_ := am (below_step (by repeat (first | (with_reducible first | exact HB.out | apply below_alloc | apply pw_below_drewN | apply below_drew1) | exact HB.out)) hb); clear HO324; clear HB; have HO324 := n0_; have HB := n1_; clear n0_ n1_; (try clear hb); (try clear hb2); (try clear hk); (try clear hi)) | (go_at_call 32; (with_reducible refine (sorrelref02_Check.calls k _ _ l0 t326 _ ?side1 ?side2 A9.out).mono ?_); (case side1 => repeat (first | exact (Kd.C_below HR0.out HB.out) | (with_reducible refine Kd.C_alloc ?_ _) | (with_reducible refine Kd.C_drewN ?_ _) | (with_reducible refine Kd.C_drew ?_))); (case side2 => exact HC0.out); rintro e w14 ⟨rfl, hb⟩; have n0_ := am (Kd.S_below (by (with_reducible repeat (first | apply Kd.S_alloc | apply Kd.S_drewN | apply Kd.S_drew)); exact HO324.out) hb); have n1_ := am (below_step (by repeat (first | (with_reducible first | exact HB.out | apply below_alloc | apply pw_below_drewN | apply below_drew1) | exact HB.out)) hb); clear HO324; clear HB; have HO324 := n0_; have HB := n1_; clear n0_ n1_; (try clear hb); (try clear hb2); (try clear hk); (try clear hi)))
    go_meet
    case rel => exact ⟨_, ((t325 != t326)), (by first | rfl | (simp; done) | (simp [*]; done)), H', ⟨by first | omega | exact Nat.le_refl _⟩, ⟨by repeat (first | (with_reducible first | exact HB.out | apply below_alloc | apply pw_below_drewN | apply below_drew1) | exact HB.out)⟩⟩
  case rest =>
    clear HC4
    try clear c1
    try clear c2
    try clear p2
    try clear c6
    obtain ⟨kq, x26_3, rfl, HA, HJ3, HB⟩ := hcut
    cases kq with
    | zero => exact absurd HA.out (by simp [sorrellaw02_ExprPlays.j0])
    | succ kj3 =>
      have H := HA.out
      clear HA
      simp only [sorrellaw02_ExprPlays.j0] at H
      by_cases c16 : x26_3 = true
      · subst c16
        have H1 : (some false) = some r := by rw [if_pos rfl] at H; exact H
        clear H
        have H := H1
        clear H1
        obtain rfl := Option.some.inj H
        go_wp2
        go_ret
        exact ⟨by first | rfl | (simp [errW_none, errW_some] <;> rfl) | (simp [*, errW_none, errW_some] <;> rfl), by repeat (first | (with_reducible first | exact HB.out | apply below_alloc | apply pw_below_drewN | apply below_drew1) | exact HB.out)⟩
      replace c16 := Bool.eq_false_iff.mpr c16
      subst c16
      have H1 : ((sorrelref02_Copy.f kj3 l0).bind fun t327 => ((expr_Part.f kj3 t327 a1).bind fun bt330 => ((sorrelref02_Part.f kj3 l0 a1).bind fun bt334 => (if bt330.2 = bt334.2 then ((sorrelref02_Same.f kj3 bt330.1 bt334.1).bind fun t338 => (sorrellaw02_ExprPlays.j1 kj3 l0 a1 l2 (!t338))) else (sorrellaw02_ExprPlays.j1 kj3 l0 a1 l2 true))))) = some r := by rw [if_neg (show ¬ (false = true) by decide)] at H; exact H
      clear H
      have H := H1
      clear H1
      replace H := Option.bind_eq_some_iff.mp H
      obtain ⟨t327, A170, H⟩ := H
      replace H : ((expr_Part.f kj3 t327 a1).bind fun bt330 => ((sorrelref02_Part.f kj3 l0 a1).bind fun bt334 => (if bt330.2 = bt334.2 then ((sorrelref02_Same.f kj3 bt330.1 bt334.1).bind fun t338 => (sorrellaw02_ExprPlays.j1 kj3 l0 a1 l2 (!t338))) else (sorrellaw02_ExprPlays.j1 kj3 l0 a1 l2 true)))) = some r := H
      have A17 := am A170
      clear A170
      replace H := Option.bind_eq_some_iff.mp H
      obtain ⟨⟨t330, t331⟩, A180, H⟩ := H
      replace H : ((sorrelref02_Part.f kj3 l0 a1).bind fun bt334 => (if t331 = bt334.2 then ((sorrelref02_Same.f kj3 t330 bt334.1).bind fun t338 => (sorrellaw02_ExprPlays.j1 kj3 l0 a1 l2 (!t338))) else (sorrellaw02_ExprPlays.j1 kj3 l0 a1 l2 true))) = some r := H
      have A18 := am A180
      clear A180
      replace H := Option.bind_eq_some_iff.mp H
      obtain ⟨⟨t334, t335⟩, A190, H⟩ := H
      replace H : (if t331 = t335 then ((sorrelref02_Same.f kj3 t330 t334).bind fun t338 => (sorrellaw02_ExprPlays.j1 kj3 l0 a1 l2 (!t338))) else (sorrellaw02_ExprPlays.j1 kj3 l0 a1 l2 true)) = some r := H
      have A19 := am A190
      clear A190
      have HC20 := am H
      clear H
      go_upto_region 5 with (first | ((with_reducible refine gate_callee (f := 30) rfl ?_); refine goesL_ (some 29) rfl rfl Tryd.func30 (by kernel_rfl) rfl #[.slice A0 l0.length c0] rfl (by (try simp only [List.map_toArray, List.map_cons, List.map_nil]); first | done | rfl | (simp only [List.length_drop, List.length_take]; rfl)) ?_; (with_reducible refine (sorrelref02_Copy.calls kj3 _ _ l0 t327 _ ?side1 ?side2 A17.out).mono ?_); (case side1 => repeat (first | exact (Kd.C_below HR0.out HB.out) | (with_reducible refine Kd.C_alloc ?_ _) | (with_reducible refine Kd.C_drewN ?_ _) | (with_reducible refine Kd.C_drew ?_))); (case side2 => exact HC0.out); rintro e w21 ⟨v328, rfl, ho0, hb⟩; refine ⟨_, rfl, ?_⟩; have n0_ := am (Kd.S_lower ho0 (below_size (by repeat (first | (with_reducible first | exact HB.out | apply below_alloc | apply pw_below_drewN | apply below_drew1) | exact HB.out)))); have n1_ := am (below_step (by repeat (first | (with_reducible first | exact HB.out | apply below_alloc | apply pw_below_drewN | apply below_drew1) | exact HB.out)) hb); clear HB; have HO329 := n0_; have HB := n1_; clear n0_ n1_; (try clear hb); (try clear hb2); (try clear hk); (try clear hi); (try clear ho0); obtain ⟨Ao22, co22, eo22⟩ := Kd.S_slice HO329.out; subst eo22) | ((with_reducible refine gate_callee (f := 34) rfl ?_); refine goesL_ (some 31) rfl rfl Tryd.func34 (by kernel_rfl) rfl #[.slice Ao22 t327.length co22, .int .i64 a1] rfl (by (try simp only [List.map_toArray, List.map_cons, List.map_nil]); first | done | rfl | (simp only [List.length_drop, List.length_take]; rfl)) ?_; (with_reducible refine (expr_Part.calls kj3 _ _ t327 a1 t330 t331 _ ?side1 ?side2 ?side3 A18.out).mono ?_); (case side1 => repeat (first | exact (Kd.S_reads' HO329.out).2.2 | (with_reducible refine Kd.C_alloc ?_ _) | (with_reducible refine Kd.C_drewN ?_ _) | (with_reducible refine Kd.C_drew ?_))); (case side2 => exact (Kd.S_reads' HO329.out).2.1); (case side3 => first | exact GL.below HG.out (by repeat (first | (with_reducible first | exact HB.out | apply below_alloc | apply pw_below_drewN | apply below_drew1) | exact HB.out)) | exact HG.out); rintro e w23 ⟨v332, rfl, ho0, hb⟩; refine ⟨_, rfl, ?_⟩; have n0_ := am (Kd.S_elder' (by (with_reducible repeat (first | apply Kd.S_alloc | apply Kd.S_drewN | apply Kd.S_drew)); exact HO329.out) (Kd.S_base ho0) hb); have n1_ := am (Kd.S_lower (Kd.S_new' ho0 (Kd.S_lt (by (with_reducible repeat (first | apply Kd.S_alloc | apply Kd.S_drewN | apply Kd.S_drew)); exact HO329.out))) (below_size (by repeat (first | (with_reducible first | exact HB.out | apply below_alloc | apply pw_below_drewN | apply below_drew1) | exact HB.out)))); have n2_ := am (below_step (by repeat (first | (with_reducible first | exact HB.out | apply below_alloc | apply pw_below_drewN | apply below_drew1) | exact HB.out)) hb); clear HO329; clear HB; have HO329 := n0_; have HO333 := n1_; have HB := n2_; clear n0_ n1_ n2_; (try clear hb); (try clear hb2); (try clear hk); (try clear hi); (try clear ho0)) | ((with_reducible refine gate_callee (f := 71) rfl ?_); refine goesL_ (some 37) rfl rfl Tryd.func71 (by kernel_rfl) rfl #[.slice A0 l0.length c0, .int .i64 a1] rfl (by (try simp only [List.map_toArray, List.map_cons, List.map_nil]); first | done | rfl | (simp only [List.length_drop, List.length_take]; rfl)) ?_; (with_reducible refine (sorrelref02_Part.calls kj3 _ _ l0 a1 t334 t335 _ ?side1 ?side2 A19.out).mono ?_); (case side1 => repeat (first | exact (Kd.C_below HR0.out HB.out) | (with_reducible refine Kd.C_alloc ?_ _) | (with_reducible refine Kd.C_drewN ?_ _) | (with_reducible refine Kd.C_drew ?_))); (case side2 => exact HC0.out); rintro e w24 ⟨v336, rfl, ho0, hb⟩; refine ⟨_, rfl, ?_⟩; have n0_ := am (Kd.S_elder' (by (with_reducible repeat (first | apply Kd.S_alloc | apply Kd.S_drewN | apply Kd.S_drew)); exact HO329.out) (Kd.S_base ho0) hb); have n1_ := am (Kd.S_elder' (by (with_reducible repeat (first | apply Kd.S_alloc | apply Kd.S_drewN | apply Kd.S_drew)); exact HO333.out) (Kd.S_base ho0) hb); have n2_ := am (Kd.S_lower (Kd.S_new' (Kd.S_new' ho0 (Kd.S_lt (by (with_reducible repeat (first | apply Kd.S_alloc | apply Kd.S_drewN | apply Kd.S_drew)); exact HO329.out))) (Kd.S_lt (by (with_reducible repeat (first | apply Kd.S_alloc | apply Kd.S_drewN | apply Kd.S_drew)); exact HO333.out))) (below_size (by repeat (first | (with_reducible first | exact HB.out | apply below_alloc | apply pw_below_drewN | apply below_drew1) | exact HB.out)))); have n3_ := am (below_step (by repeat (first | (with_reducible first | exact HB.out | apply below_alloc | apply pw_below_drewN | apply below_drew1) | exact HB.out)) hb); clear HO329; clear HO333; clear HB; have HO329 := n0_; have HO333 := n1_; have HO337 := n2_; have HB := n3_; clear n0_ n1_ n2_ n3_; (try clear hb); (try clear hb2); (try clear hk); (try clear hi); (try clear ho0)))
      (try simp only [Act.put, List.setIfInBounds_toArray, List.set_cons_zero, List.set_cons_succ])
      go_cut [48] (fun v48 wc => ∃ (kq : Nat) (x48_19 : Bool), v48 = .bool x48_19 ∧ Aside0 (sorrellaw02_ExprPlays.j1 kq l0 a1 l2 x48_19 = some r) ∧ Aside0 (kq ≤ kj3) ∧ Aside0 (Below w.heap.size w wc))
      case first =>
        have H := HC20.out
        clear HC20
        by_cases c25 : t331 = t335
        rotate_left
        · rw [if_neg c25] at H
          have c25b0 : (t331 == t335) = false := beq_eq_false_iff_ne.mpr c25
          have c25b1 : (t331 != t335) = true := bne_iff_ne.mpr c25
          (first | rw [c25b0] | (simp only [i64_w, i32_w]; rw [c25b0]) | skip)
          have H' := am H
          clear H
          go_wp2
          go_meet
          case rel => exact ⟨_, (true), (by first | rfl | (simp; done) | (simp [*]; done)), H', ⟨by have := HJ3.out; first | omega | exact Nat.le_refl _⟩, ⟨by repeat (first | (with_reducible first | exact HB.out | apply below_alloc | apply pw_below_drewN | apply below_drew1) | exact HB.out)⟩⟩
        rw [if_pos c25] at H
        have c25b0 : (t331 == t335) = true := beq_iff_eq.mpr c25
        have c25b1 : (t331 != t335) = false := bne_eq_false_iff_eq.mpr c25
        clear c25
        (first | rw [c25b0] | (simp only [i64_w, i32_w]; rw [c25b0]) | skip)
        replace H := Option.bind_eq_some_iff.mp H
        obtain ⟨t338, A260, H⟩ := H
        replace H : (sorrellaw02_ExprPlays.j1 kj3 l0 a1 l2 (!t338)) = some r := H
        have A26 := am A260
        clear A260
        have H' := am H
        clear H
        obtain ⟨Ao27, co27, eo27⟩ := Kd.S_slice HO333.out
        subst eo27
        obtain ⟨Ao28, co28, eo28⟩ := Kd.S_slice HO337.out
        subst eo28
        go_wp2_with (first | (go_at_call 28; (with_reducible refine (sorrelref02_Same.calls kj3 _ _ t330 _ _ t334 t338 _ ?side1 ?side2 ?side3 ?side4 A26.out).mono ?_); (case side1 => repeat (first | exact (Kd.S_reads' HO333.out).2.2 | (with_reducible refine Kd.C_alloc ?_ _) | (with_reducible refine Kd.C_drewN ?_ _) | (with_reducible refine Kd.C_drew ?_))); (case side2 => exact (Kd.S_reads' HO333.out).2.1); (case side3 => repeat (first | exact (Kd.S_reads' HO337.out).2.2 | (with_reducible refine Kd.C_alloc ?_ _) | (with_reducible refine Kd.C_drewN ?_ _) | (with_reducible refine Kd.C_drew ?_))); (case side4 => exact (Kd.S_reads' HO337.out).2.1); rintro e w29 ⟨rfl, hb⟩; have n0_ := am (Kd.S_below (by (with_reducible repeat (first | apply Kd.S_alloc | apply Kd.S_drewN | apply Kd.S_drew)); exact HO329.out) hb); have n1_ := am (Kd.S_below (by (with_reducible repeat (first | apply Kd.S_alloc | apply Kd.S_drewN | apply Kd.S_drew)); exact HO333.out) hb); have n2_ := am (Kd.S_below (by (with_reducible repeat (first | apply Kd.S_alloc | apply Kd.S_drewN | apply Kd.S_drew)); exact HO337.out) hb); have n3_ := am (below_step (by repeat (first | (with_reducible first | exact HB.out | apply below_alloc | apply pw_below_drewN | apply below_drew1) | exact HB.out)) hb); clear HO329; clear HO333; clear HO337; clear HB; have HO329 := n0_; have HO333 := n1_; have HO337 := n2_; have HB := n3_; clear n0_ n1_ n2_ n3_; (try clear hb); (try clear hb2); (try clear hk); (try clear hi)))
        go_meet
        case rel => exact ⟨_, (!t338), (by first | rfl | (simp; done) | (simp [*]; done)), H', ⟨by have := HJ3.out; first | omega | exact Nat.le_refl _⟩, ⟨by repeat (first | (with_reducible first | exact HB.out | apply below_alloc | apply pw_below_drewN | apply below_drew1) | exact HB.out)⟩⟩
      case rest =>
        clear HC20
        try clear c1
        try clear c2
        try clear p2
        try clear c3
        try clear c6
        try clear c7
        try clear c16
        try clear c19
        try clear c22
        try clear c25
        try clear c25b0
        try clear c25b1
        try clear p2
        obtain ⟨kq, x48_19, rfl, HA, HJ19, HB⟩ := hcut
        cases kq with
        | zero => exact absurd HA.out (by simp [sorrellaw02_ExprPlays.j1])
        | succ kj19 =>
          have H := HA.out
          clear HA
          simp only [sorrellaw02_ExprPlays.j1] at H
          by_cases c30 : x48_19 = true
          · subst c30
            have H1 : (some false) = some r := by rw [if_pos rfl] at H; exact H
            clear H
            have H := H1
            clear H1
            obtain rfl := Option.some.inj H
            go_wp2
            go_ret
            exact ⟨by first | rfl | (simp [errW_none, errW_some] <;> rfl) | (simp [*, errW_none, errW_some] <;> rfl), by repeat (first | (with_reducible first | exact HB.out | apply below_alloc | apply pw_below_drewN | apply below_drew1) | exact HB.out)⟩
          replace c30 := Bool.eq_false_iff.mpr c30
          subst c30
          have H1 : ((sorrelref02_Copy.f kj19 l0).bind fun t339 => ((sorrelref02_Copy.f kj19 l2).bind fun t342 => ((expr_Put.f kj19 t339 a1 t342).bind fun bt345 => ((sorrelref02_Put.f kj19 l0 a1 l2).bind fun bt349 => (if bt345.2 = bt349.2 then ((sorrelref02_Same.f kj19 bt345.1 bt349.1).bind fun t353 => (sorrellaw02_ExprPlays.j2 kj19 l0 (!t353))) else (sorrellaw02_ExprPlays.j2 kj19 l0 true)))))) = some r := by rw [if_neg (show ¬ (false = true) by decide)] at H; exact H
          clear H
          have H := H1
          clear H1
          replace H := Option.bind_eq_some_iff.mp H
          obtain ⟨t339, A310, H⟩ := H
          replace H : ((sorrelref02_Copy.f kj19 l2).bind fun t342 => ((expr_Put.f kj19 t339 a1 t342).bind fun bt345 => ((sorrelref02_Put.f kj19 l0 a1 l2).bind fun bt349 => (if bt345.2 = bt349.2 then ((sorrelref02_Same.f kj19 bt345.1 bt349.1).bind fun t353 => (sorrellaw02_ExprPlays.j2 kj19 l0 (!t353))) else (sorrellaw02_ExprPlays.j2 kj19 l0 true))))) = some r := H
          have A31 := am A310
          clear A310
          replace H := Option.bind_eq_some_iff.mp H
          obtain ⟨t342, A320, H⟩ := H
          replace H : ((expr_Put.f kj19 t339 a1 t342).bind fun bt345 => ((sorrelref02_Put.f kj19 l0 a1 l2).bind fun bt349 => (if bt345.2 = bt349.2 then ((sorrelref02_Same.f kj19 bt345.1 bt349.1).bind fun t353 => (sorrellaw02_ExprPlays.j2 kj19 l0 (!t353))) else (sorrellaw02_ExprPlays.j2 kj19 l0 true)))) = some r := H
          have A32 := am A320
          clear A320
          replace H := Option.bind_eq_some_iff.mp H
          obtain ⟨⟨t345, t346⟩, A330, H⟩ := H
          replace H : ((sorrelref02_Put.f kj19 l0 a1 l2).bind fun bt349 => (if t346 = bt349.2 then ((sorrelref02_Same.f kj19 t345 bt349.1).bind fun t353 => (sorrellaw02_ExprPlays.j2 kj19 l0 (!t353))) else (sorrellaw02_ExprPlays.j2 kj19 l0 true))) = some r := H
          have A33 := am A330
          clear A330
          replace H := Option.bind_eq_some_iff.mp H
          obtain ⟨⟨t349, t350⟩, A340, H⟩ := H
          replace H : (if t346 = t350 then ((sorrelref02_Same.f kj19 t345 t349).bind fun t353 => (sorrellaw02_ExprPlays.j2 kj19 l0 (!t353))) else (sorrellaw02_ExprPlays.j2 kj19 l0 true)) = some r := H
          have A34 := am A340
          clear A340
          have HC35 := am H
          clear H
          go_upto_region 9 with (first | ((with_reducible refine gate_callee (f := 30) rfl ?_); refine goesL_ (some 51) rfl rfl Tryd.func30 (by kernel_rfl) rfl #[.slice A0 l0.length c0] rfl (by (try simp only [List.map_toArray, List.map_cons, List.map_nil]); first | done | rfl | (simp only [List.length_drop, List.length_take]; rfl)) ?_; (with_reducible refine (sorrelref02_Copy.calls kj19 _ _ l0 t339 _ ?side1 ?side2 A31.out).mono ?_); (case side1 => repeat (first | exact (Kd.C_below HR0.out HB.out) | (with_reducible refine Kd.C_alloc ?_ _) | (with_reducible refine Kd.C_drewN ?_ _) | (with_reducible refine Kd.C_drew ?_))); (case side2 => exact HC0.out); rintro e w36 ⟨v340, rfl, ho0, hb⟩; refine ⟨_, rfl, ?_⟩; have n0_ := am (Kd.S_lower ho0 (below_size (by repeat (first | (with_reducible first | exact HB.out | apply below_alloc | apply pw_below_drewN | apply below_drew1) | exact HB.out)))); have n1_ := am (below_step (by repeat (first | (with_reducible first | exact HB.out | apply below_alloc | apply pw_below_drewN | apply below_drew1) | exact HB.out)) hb); clear HB; have HO341 := n0_; have HB := n1_; clear n0_ n1_; (try clear hb); (try clear hb2); (try clear hk); (try clear hi); (try clear ho0)) | ((with_reducible refine gate_callee (f := 30) rfl ?_); refine goesL_ (some 54) rfl rfl Tryd.func30 (by kernel_rfl) rfl #[.slice A2 l2.length c2] rfl (by (try simp only [List.map_toArray, List.map_cons, List.map_nil]); first | done | rfl | (simp only [List.length_drop, List.length_take]; rfl)) ?_; (with_reducible refine (sorrelref02_Copy.calls kj19 _ _ l2 t342 _ ?side1 ?side2 A32.out).mono ?_); (case side1 => repeat (first | exact (Kd.C_below HR2.out HB.out) | (with_reducible refine Kd.C_alloc ?_ _) | (with_reducible refine Kd.C_drewN ?_ _) | (with_reducible refine Kd.C_drew ?_))); (case side2 => exact HC2.out); rintro e w37 ⟨v343, rfl, ho0, hb⟩; refine ⟨_, rfl, ?_⟩; have n0_ := am (Kd.S_elder' (by (with_reducible repeat (first | apply Kd.S_alloc | apply Kd.S_drewN | apply Kd.S_drew)); exact HO341.out) (Kd.S_base ho0) hb); have n1_ := am (Kd.S_lower (Kd.S_new' ho0 (Kd.S_lt (by (with_reducible repeat (first | apply Kd.S_alloc | apply Kd.S_drewN | apply Kd.S_drew)); exact HO341.out))) (below_size (by repeat (first | (with_reducible first | exact HB.out | apply below_alloc | apply pw_below_drewN | apply below_drew1) | exact HB.out)))); have n2_ := am (below_step (by repeat (first | (with_reducible first | exact HB.out | apply below_alloc | apply pw_below_drewN | apply below_drew1) | exact HB.out)) hb); clear HO341; clear HB; have HO341 := n0_; have HO344 := n1_; have HB := n2_; clear n0_ n1_ n2_; (try clear hb); (try clear hb2); (try clear hk); (try clear hi); (try clear ho0); obtain ⟨Ao38, co38, eo38⟩ := Kd.S_slice HO341.out; subst eo38; obtain ⟨Ao39, co39, eo39⟩ := Kd.S_slice HO344.out; subst eo39) | ((with_reducible refine gate_callee (f := 35) rfl ?_); refine goesL_ (some 55) rfl rfl Tryd.func35 (by kernel_rfl) rfl #[.slice Ao38 t339.length co38, .int .i64 a1, .slice Ao39 t342.length co39] rfl (by (try simp only [List.map_toArray, List.map_cons, List.map_nil]); first | done | rfl | (simp only [List.length_drop, List.length_take]; rfl)) ?_; (with_reducible refine (expr_Put.calls kj19 _ _ t339 a1 _ _ t342 t345 t346 _ ?side1 ?side2 ?side3 ?side4 ?side5 A33.out).mono ?_); (case side1 => repeat (first | exact (Kd.S_reads' HO341.out).2.2 | (with_reducible refine Kd.C_alloc ?_ _) | (with_reducible refine Kd.C_drewN ?_ _) | (with_reducible refine Kd.C_drew ?_))); (case side2 => exact (Kd.S_reads' HO341.out).2.1); (case side3 => repeat (first | exact (Kd.S_reads' HO344.out).2.2 | (with_reducible refine Kd.C_alloc ?_ _) | (with_reducible refine Kd.C_drewN ?_ _) | (with_reducible refine Kd.C_drew ?_))); (case side4 => exact (Kd.S_reads' HO344.out).2.1); (case side5 => first | exact GL.below HG.out (by repeat (first | (with_reducible first | exact HB.out | apply below_alloc | apply pw_below_drewN | apply below_drew1) | exact HB.out)) | exact HG.out); rintro e w40 ⟨v347, rfl, ho0, hb⟩; refine ⟨_, rfl, ?_⟩; have n0_ := am (Kd.S_elder' (by (with_reducible repeat (first | apply Kd.S_alloc | apply Kd.S_drewN | apply Kd.S_drew)); exact HO341.out) (Kd.S_base ho0) hb); have n1_ := am (Kd.S_elder' (by (with_reducible repeat (first | apply Kd.S_alloc | apply Kd.S_drewN | apply Kd.S_drew)); exact HO344.out) (Kd.S_base ho0) hb); have n2_ := am (Kd.S_lower (Kd.S_new' (Kd.S_new' ho0 (Kd.S_lt (by (with_reducible repeat (first | apply Kd.S_alloc | apply Kd.S_drewN | apply Kd.S_drew)); exact HO341.out))) (Kd.S_lt (by (with_reducible repeat (first | apply Kd.S_alloc | apply Kd.S_drewN | apply Kd.S_drew)); exact HO344.out))) (below_size (by repeat (first | (with_reducible first | exact HB.out | apply below_alloc | apply pw_below_drewN | apply below_drew1) | exact HB.out)))); have n3_ := am (below_step (by repeat (first | (with_reducible first | exact HB.out | apply below_alloc | apply pw_below_drewN | apply below_drew1) | exact HB.out)) hb); clear HO341; clear HO344; clear HB; have HO341 := n0_; have HO344 := n1_; have HO348 := n2_; have HB := n3_; clear n0_ n1_ n2_ n3_; (try clear hb); (try clear hb2); (try clear hk); (try clear hi); (try clear ho0)) | ((with_reducible refine gate_callee (f := 72) rfl ?_); refine goesL_ (some 62) rfl rfl Tryd.func72 (by kernel_rfl) rfl #[.slice A0 l0.length c0, .int .i64 a1, .slice A2 l2.length c2] rfl (by (try simp only [List.map_toArray, List.map_cons, List.map_nil]); first | done | rfl | (simp only [List.length_drop, List.length_take]; rfl)) ?_; (with_reducible refine (sorrelref02_Put.calls kj19 _ _ l0 a1 _ _ l2 t349 t350 _ ?side1 ?side2 ?side3 ?side4 A34.out).mono ?_); (case side1 => repeat (first | exact (Kd.C_below HR0.out HB.out) | (with_reducible refine Kd.C_alloc ?_ _) | (with_reducible refine Kd.C_drewN ?_ _) | (with_reducible refine Kd.C_drew ?_))); (case side2 => exact HC0.out); (case side3 => repeat (first | exact (Kd.C_below HR2.out HB.out) | (with_reducible refine Kd.C_alloc ?_ _) | (with_reducible refine Kd.C_drewN ?_ _) | (with_reducible refine Kd.C_drew ?_))); (case side4 => exact HC2.out); rintro e w41 ⟨v351, rfl, ho0, hb⟩; refine ⟨_, rfl, ?_⟩; have n0_ := am (Kd.S_elder' (by (with_reducible repeat (first | apply Kd.S_alloc | apply Kd.S_drewN | apply Kd.S_drew)); exact HO341.out) (Kd.S_base ho0) hb); have n1_ := am (Kd.S_elder' (by (with_reducible repeat (first | apply Kd.S_alloc | apply Kd.S_drewN | apply Kd.S_drew)); exact HO344.out) (Kd.S_base ho0) hb); have n2_ := am (Kd.S_elder' (by (with_reducible repeat (first | apply Kd.S_alloc | apply Kd.S_drewN | apply Kd.S_drew)); exact HO348.out) (Kd.S_base ho0) hb); have n3_ := am (Kd.S_lower (Kd.S_new' (Kd.S_new' (Kd.S_new' ho0 (Kd.S_lt (by (with_reducible repeat (first | apply Kd.S_alloc | apply Kd.S_drewN | apply Kd.S_drew)); exact HO341.out))) (Kd.S_lt (by (with_reducible repeat (first | apply Kd.S_alloc | apply Kd.S_drewN | apply Kd.S_drew)); exact HO344.out))) (Kd.S_lt (by (with_reducible repeat (first | apply Kd.S_alloc | apply Kd.S_drewN | apply Kd.S_drew)); exact HO348.out))) (below_size (by repeat (first | (with_reducible first | exact HB.out | apply below_alloc | apply pw_below_drewN | apply below_drew1) | exact HB.out)))); have n4_ := am (below_step (by repeat (first | (with_reducible first | exact HB.out | apply below_alloc | apply pw_below_drewN | apply below_drew1) | exact HB.out)) hb); clear HO341; clear HO344; clear HO348; clear HB; have HO341 := n0_; have HO344 := n1_; have HO348 := n2_; have HO352 := n3_; have HB := n4_; clear n0_ n1_ n2_ n3_ n4_; (try clear hb); (try clear hb2); (try clear hk); (try clear hi); (try clear ho0)))
          (try simp only [Act.put, List.setIfInBounds_toArray, List.set_cons_zero, List.set_cons_succ])
          go_cut [73] (fun v73 wc => ∃ (kq : Nat) (x73_34 : Bool), v73 = .bool x73_34 ∧ Aside0 (sorrellaw02_ExprPlays.j2 kq l0 x73_34 = some r) ∧ Aside0 (kq ≤ kj19) ∧ Aside0 (Below w.heap.size w wc))
          case first =>
            have H := HC35.out
            clear HC35
            by_cases c42 : t346 = t350
            rotate_left
            · rw [if_neg c42] at H
              have c42b0 : (t346 == t350) = false := beq_eq_false_iff_ne.mpr c42
              have c42b1 : (t346 != t350) = true := bne_iff_ne.mpr c42
              (first | rw [c42b0] | (simp only [i64_w, i32_w]; rw [c42b0]) | skip)
              have H' := am H
              clear H
              go_wp2
              go_meet
              case rel => exact ⟨_, (true), (by first | rfl | (simp; done) | (simp [*]; done)), H', ⟨by have := HJ3.out; have := HJ19.out; first | omega | exact Nat.le_refl _⟩, ⟨by repeat (first | (with_reducible first | exact HB.out | apply below_alloc | apply pw_below_drewN | apply below_drew1) | exact HB.out)⟩⟩
            rw [if_pos c42] at H
            have c42b0 : (t346 == t350) = true := beq_iff_eq.mpr c42
            have c42b1 : (t346 != t350) = false := bne_eq_false_iff_eq.mpr c42
            clear c42
            (first | rw [c42b0] | (simp only [i64_w, i32_w]; rw [c42b0]) | skip)
            replace H := Option.bind_eq_some_iff.mp H
            obtain ⟨t353, A430, H⟩ := H
            replace H : (sorrellaw02_ExprPlays.j2 kj19 l0 (!t353)) = some r := H
            have A43 := am A430
            clear A430
            have H' := am H
            clear H
            obtain ⟨Ao44, co44, eo44⟩ := Kd.S_slice HO348.out
            subst eo44
            obtain ⟨Ao45, co45, eo45⟩ := Kd.S_slice HO352.out
            subst eo45
            go_wp2_with (first | (go_at_call 28; (with_reducible refine (sorrelref02_Same.calls kj19 _ _ t345 _ _ t349 t353 _ ?side1 ?side2 ?side3 ?side4 A43.out).mono ?_); (case side1 => repeat (first | exact (Kd.S_reads' HO348.out).2.2 | (with_reducible refine Kd.C_alloc ?_ _) | (with_reducible refine Kd.C_drewN ?_ _) | (with_reducible refine Kd.C_drew ?_))); (case side2 => exact (Kd.S_reads' HO348.out).2.1); (case side3 => repeat (first | exact (Kd.S_reads' HO352.out).2.2 | (with_reducible refine Kd.C_alloc ?_ _) | (with_reducible refine Kd.C_drewN ?_ _) | (with_reducible refine Kd.C_drew ?_))); (case side4 => exact (Kd.S_reads' HO352.out).2.1); rintro e w46 ⟨rfl, hb⟩; have n0_ := am (Kd.S_below (by (with_reducible repeat (first | apply Kd.S_alloc | apply Kd.S_drewN | apply Kd.S_drew)); exact HO341.out) hb); have n1_ := am (Kd.S_below (by (with_reducible repeat (first | apply Kd.S_alloc | apply Kd.S_drewN | apply Kd.S_drew)); exact HO344.out) hb); have n2_ := am (Kd.S_below (by (with_reducible repeat (first | apply Kd.S_alloc | apply Kd.S_drewN | apply Kd.S_drew)); exact HO348.out) hb); have n3_ := am (Kd.S_below (by (with_reducible repeat (first | apply Kd.S_alloc | apply Kd.S_drewN | apply Kd.S_drew)); exact HO352.out) hb); have n4_ := am (below_step (by repeat (first | (with_reducible first | exact HB.out | apply below_alloc | apply pw_below_drewN | apply below_drew1) | exact HB.out)) hb); clear HO341; clear HO344; clear HO348; clear HO352; clear HB; have HO341 := n0_; have HO344 := n1_; have HO348 := n2_; have HO352 := n3_; have HB := n4_; clear n0_ n1_ n2_ n3_ n4_; (try clear hb); (try clear hb2); (try clear hk); (try clear hi)))
            go_meet
            case rel => exact ⟨_, (!t353), (by first | rfl | (simp; done) | (simp [*]; done)), H', ⟨by have := HJ3.out; have := HJ19.out; first | omega | exact Nat.le_refl _⟩, ⟨by repeat (first | (with_reducible first | exact HB.out | apply below_alloc | apply pw_below_drewN | apply below_drew1) | exact HB.out)⟩⟩
          case rest =>
            clear HC35
            try clear c1
            try clear c2
            try clear p2
            try clear c3
            try clear c4
            try clear c6
            try clear c7
            try clear c16
            try clear c19
            try clear c22
            try clear c25
            try clear c25b0
            try clear c25b1
            try clear c30
            try clear c34
            try clear c35
            try clear c42
            try clear c42b0
            try clear c42b1
            try clear p2
            obtain ⟨kq, x73_34, rfl, HA, HJ34, HB⟩ := hcut
            cases kq with
            | zero => exact absurd HA.out (by simp [sorrellaw02_ExprPlays.j2])
            | succ kj34 =>
              have H := HA.out
              clear HA
              simp only [sorrellaw02_ExprPlays.j2] at H
              by_cases c47 : x73_34 = true
              · subst c47
                have H1 : (some false) = some r := by rw [if_pos rfl] at H; exact H
                clear H
                have H := H1
                clear H1
                obtain rfl := Option.some.inj H
                go_wp2
                go_ret
                exact ⟨by first | rfl | (simp [errW_none, errW_some] <;> rfl) | (simp [*, errW_none, errW_some] <;> rfl), by repeat (first | (with_reducible first | exact HB.out | apply below_alloc | apply pw_below_drewN | apply below_drew1) | exact HB.out)⟩
              replace c47 := Bool.eq_false_iff.mpr c47
              subst c47
              have H1 : ((sorrelref02_Copy.f kj34 l0).bind fun t354 => ((expr_Depth.f kj34 t354).bind fun bt357 => ((sorrelref02_Depth.f kj34 l0).bind fun bt359 => ((sorrelref02_Copy.f kj34 l0).bind fun t361 => ((expr_Vars.f kj34 t361).bind fun bt364 => ((sorrelref02_Vars.f kj34 l0).bind fun bt368 => (if bt357.1 = bt359.1 then (if bt357.2 = bt359.2 then (if bt364.2 = bt368.2 then ((sorrelref02_SameTexts.f kj34 bt364.1 bt368.1).bind fun t372 => (some t372)) else (some false)) else (some false)) else (some false)))))))) = some r := by rw [if_neg (show ¬ (false = true) by decide)] at H; exact H
              clear H
              have H := H1
              clear H1
              replace H := Option.bind_eq_some_iff.mp H
              obtain ⟨t354, A480, H⟩ := H
              replace H : ((expr_Depth.f kj34 t354).bind fun bt357 => ((sorrelref02_Depth.f kj34 l0).bind fun bt359 => ((sorrelref02_Copy.f kj34 l0).bind fun t361 => ((expr_Vars.f kj34 t361).bind fun bt364 => ((sorrelref02_Vars.f kj34 l0).bind fun bt368 => (if bt357.1 = bt359.1 then (if bt357.2 = bt359.2 then (if bt364.2 = bt368.2 then ((sorrelref02_SameTexts.f kj34 bt364.1 bt368.1).bind fun t372 => (some t372)) else (some false)) else (some false)) else (some false))))))) = some r := H
              have A48 := am A480
              clear A480
              replace H := Option.bind_eq_some_iff.mp H
              obtain ⟨⟨t357, t358⟩, A490, H⟩ := H
              replace H : ((sorrelref02_Depth.f kj34 l0).bind fun bt359 => ((sorrelref02_Copy.f kj34 l0).bind fun t361 => ((expr_Vars.f kj34 t361).bind fun bt364 => ((sorrelref02_Vars.f kj34 l0).bind fun bt368 => (if t357 = bt359.1 then (if t358 = bt359.2 then (if bt364.2 = bt368.2 then ((sorrelref02_SameTexts.f kj34 bt364.1 bt368.1).bind fun t372 => (some t372)) else (some false)) else (some false)) else (some false)))))) = some r := H
              have A49 := am A490
              clear A490
              replace H := Option.bind_eq_some_iff.mp H
              obtain ⟨⟨t359, t360⟩, A500, H⟩ := H
              replace H : ((sorrelref02_Copy.f kj34 l0).bind fun t361 => ((expr_Vars.f kj34 t361).bind fun bt364 => ((sorrelref02_Vars.f kj34 l0).bind fun bt368 => (if t357 = t359 then (if t358 = t360 then (if bt364.2 = bt368.2 then ((sorrelref02_SameTexts.f kj34 bt364.1 bt368.1).bind fun t372 => (some t372)) else (some false)) else (some false)) else (some false))))) = some r := H
              have A50 := am A500
              clear A500
              replace H := Option.bind_eq_some_iff.mp H
              obtain ⟨t361, A510, H⟩ := H
              replace H : ((expr_Vars.f kj34 t361).bind fun bt364 => ((sorrelref02_Vars.f kj34 l0).bind fun bt368 => (if t357 = t359 then (if t358 = t360 then (if bt364.2 = bt368.2 then ((sorrelref02_SameTexts.f kj34 bt364.1 bt368.1).bind fun t372 => (some t372)) else (some false)) else (some false)) else (some false)))) = some r := H
              have A51 := am A510
              clear A510
              replace H := Option.bind_eq_some_iff.mp H
              obtain ⟨⟨t364, t365⟩, A520, H⟩ := H
              replace H : ((sorrelref02_Vars.f kj34 l0).bind fun bt368 => (if t357 = t359 then (if t358 = t360 then (if t365 = bt368.2 then ((sorrelref02_SameTexts.f kj34 t364 bt368.1).bind fun t372 => (some t372)) else (some false)) else (some false)) else (some false))) = some r := H
              have A52 := am A520
              clear A520
              replace H := Option.bind_eq_some_iff.mp H
              obtain ⟨⟨t368, t369⟩, A530, H⟩ := H
              replace H : (if t357 = t359 then (if t358 = t360 then (if t365 = t369 then ((sorrelref02_SameTexts.f kj34 t364 t368).bind fun t372 => (some t372)) else (some false)) else (some false)) else (some false)) = some r := H
              have A53 := am A530
              clear A530
              by_cases c54 : t357 = t359
              rotate_left
              · rw [if_neg c54] at H
                have c54b0 : (t357 == t359) = false := beq_eq_false_iff_ne.mpr c54
                have c54b1 : (t357 != t359) = true := bne_iff_ne.mpr c54
                obtain rfl := Option.some.inj H
                go_wp2_with (first | ((with_reducible refine gate_callee (f := 30) rfl ?_); refine goesL_ (some 76) rfl rfl Tryd.func30 (by kernel_rfl) rfl #[.slice A0 l0.length c0] rfl (by (try simp only [List.map_toArray, List.map_cons, List.map_nil]); first | done | rfl | (simp only [List.length_drop, List.length_take]; rfl)) ?_; (with_reducible refine (sorrelref02_Copy.calls kj34 _ _ l0 t354 _ ?side1 ?side2 A48.out).mono ?_); (case side1 => repeat (first | exact (Kd.C_below HR0.out HB.out) | (with_reducible refine Kd.C_alloc ?_ _) | (with_reducible refine Kd.C_drewN ?_ _) | (with_reducible refine Kd.C_drew ?_))); (case side2 => exact HC0.out); rintro e w84 ⟨v355, rfl, ho0, hb⟩; refine ⟨_, rfl, ?_⟩; have n0_ := am (Kd.S_lower ho0 (below_size (by repeat (first | (with_reducible first | exact HB.out | apply below_alloc | apply pw_below_drewN | apply below_drew1) | exact HB.out)))); have n1_ := am (below_step (by repeat (first | (with_reducible first | exact HB.out | apply below_alloc | apply pw_below_drewN | apply below_drew1) | exact HB.out)) hb); clear HB; have HO356 := n0_; have HB := n1_; clear n0_ n1_; (try clear hb); (try clear hb2); (try clear hk); (try clear hi); (try clear ho0); obtain ⟨Ao85, co85, eo85⟩ := Kd.S_slice HO356.out; subst eo85) | ((with_reducible refine gate_callee (f := 68) rfl ?_); refine goesL_ (some 77) rfl rfl Tryd.func68 (by kernel_rfl) rfl #[.slice Ao85 t354.length co85] rfl (by (try simp only [List.map_toArray, List.map_cons, List.map_nil]); first | done | rfl | (simp only [List.length_drop, List.length_take]; rfl)) ?_; (with_reducible refine (expr_Depth.calls kj34 _ _ t354 t357 t358 _ ?side1 ?side2 ?side3 A49.out).mono ?_); (case side1 => repeat (first | exact (Kd.S_reads' HO356.out).2.2 | (with_reducible refine Kd.C_alloc ?_ _) | (with_reducible refine Kd.C_drewN ?_ _) | (with_reducible refine Kd.C_drew ?_))); (case side2 => exact (Kd.S_reads' HO356.out).2.1); (case side3 => first | exact GL.below HG.out (by repeat (first | (with_reducible first | exact HB.out | apply below_alloc | apply pw_below_drewN | apply below_drew1) | exact HB.out)) | exact HG.out); rintro e w86 ⟨rfl, hb⟩; refine ⟨_, rfl, ?_⟩; have n0_ := am (Kd.S_below (by (with_reducible repeat (first | apply Kd.S_alloc | apply Kd.S_drewN | apply Kd.S_drew)); exact HO356.out) hb); have n1_ := am (below_step (by repeat (first | (with_reducible first | exact HB.out | apply below_alloc | apply pw_below_drewN | apply below_drew1) | exact HB.out)) hb); clear HO356; clear HB; have HO356 := n0_; have HB := n1_; clear n0_ n1_; (try clear hb); (try clear hb2); (try clear hk); (try clear hi)) | ((with_reducible refine gate_callee (f := 73) rfl ?_); refine goesL_ (some 82) rfl rfl Tryd.func73 (by kernel_rfl) rfl #[.slice A0 l0.length c0] rfl (by (try simp only [List.map_toArray, List.map_cons, List.map_nil]); first | done | rfl | (simp only [List.length_drop, List.length_take]; rfl)) ?_; (with_reducible refine (sorrelref02_Depth.calls kj34 _ _ l0 t359 t360 _ ?side1 ?side2 A50.out).mono ?_); (case side1 => repeat (first | exact (Kd.C_below HR0.out HB.out) | (with_reducible refine Kd.C_alloc ?_ _) | (with_reducible refine Kd.C_drewN ?_ _) | (with_reducible refine Kd.C_drew ?_))); (case side2 => exact HC0.out); rintro e w87 ⟨rfl, hb⟩; refine ⟨_, rfl, ?_⟩; have n0_ := am (Kd.S_below (by (with_reducible repeat (first | apply Kd.S_alloc | apply Kd.S_drewN | apply Kd.S_drew)); exact HO356.out) hb); have n1_ := am (below_step (by repeat (first | (with_reducible first | exact HB.out | apply below_alloc | apply pw_below_drewN | apply below_drew1) | exact HB.out)) hb); clear HO356; clear HB; have HO356 := n0_; have HB := n1_; clear n0_ n1_; (try clear hb); (try clear hb2); (try clear hk); (try clear hi)) | ((with_reducible refine gate_callee (f := 30) rfl ?_); refine goesL_ (some 87) rfl rfl Tryd.func30 (by kernel_rfl) rfl #[.slice A0 l0.length c0] rfl (by (try simp only [List.map_toArray, List.map_cons, List.map_nil]); first | done | rfl | (simp only [List.length_drop, List.length_take]; rfl)) ?_; (with_reducible refine (sorrelref02_Copy.calls kj34 _ _ l0 t361 _ ?side1 ?side2 A51.out).mono ?_); (case side1 => repeat (first | exact (Kd.C_below HR0.out HB.out) | (with_reducible refine Kd.C_alloc ?_ _) | (with_reducible refine Kd.C_drewN ?_ _) | (with_reducible refine Kd.C_drew ?_))); (case side2 => exact HC0.out); rintro e w88 ⟨v362, rfl, ho0, hb⟩; refine ⟨_, rfl, ?_⟩; have n0_ := am (Kd.S_elder' (by (with_reducible repeat (first | apply Kd.S_alloc | apply Kd.S_drewN | apply Kd.S_drew)); exact HO356.out) (Kd.S_base ho0) hb); have n1_ := am (Kd.S_lower (Kd.S_new' ho0 (Kd.S_lt (by (with_reducible repeat (first | apply Kd.S_alloc | apply Kd.S_drewN | apply Kd.S_drew)); exact HO356.out))) (below_size (by repeat (first | (with_reducible first | exact HB.out | apply below_alloc | apply pw_below_drewN | apply below_drew1) | exact HB.out)))); have n2_ := am (below_step (by repeat (first | (with_reducible first | exact HB.out | apply below_alloc | apply pw_below_drewN | apply below_drew1) | exact HB.out)) hb); clear HO356; clear HB; have HO356 := n0_; have HO363 := n1_; have HB := n2_; clear n0_ n1_ n2_; (try clear hb); (try clear hb2); (try clear hk); (try clear hi); (try clear ho0); obtain ⟨Ao89, co89, eo89⟩ := Kd.S_slice HO363.out; subst eo89) | ((with_reducible refine gate_callee (f := 69) rfl ?_); refine goesL_ (some 88) rfl rfl Tryd.func69 (by kernel_rfl) rfl #[.slice Ao89 t361.length co89] rfl (by (try simp only [List.map_toArray, List.map_cons, List.map_nil]); first | done | rfl | (simp only [List.length_drop, List.length_take]; rfl)) ?_; (with_reducible refine (expr_Vars.calls kj34 _ _ t361 t364 t365 _ ?side1 ?side2 ?side3 A52.out).mono ?_); (case side1 => repeat (first | exact (Kd.S_reads' HO363.out).2.2 | (with_reducible refine Kd.C_alloc ?_ _) | (with_reducible refine Kd.C_drewN ?_ _) | (with_reducible refine Kd.C_drew ?_))); (case side2 => exact (Kd.S_reads' HO363.out).2.1); (case side3 => first | exact GL.below HG.out (by repeat (first | (with_reducible first | exact HB.out | apply below_alloc | apply pw_below_drewN | apply below_drew1) | exact HB.out)) | exact HG.out); rintro e w90 ⟨v366, rfl, ho0, hb⟩; refine ⟨_, rfl, ?_⟩; have n0_ := am (Kd.S_below (by (with_reducible repeat (first | apply Kd.S_alloc | apply Kd.S_drewN | apply Kd.S_drew)); exact HO356.out) hb); have n1_ := am (Kd.S_below (by (with_reducible repeat (first | apply Kd.S_alloc | apply Kd.S_drewN | apply Kd.S_drew)); exact HO363.out) hb); have n2_ := am (Kd.R_lower ho0 (below_size (by repeat (first | (with_reducible first | exact HB.out | apply below_alloc | apply pw_below_drewN | apply below_drew1) | exact HB.out)))); have n3_ := am (below_step (by repeat (first | (with_reducible first | exact HB.out | apply below_alloc | apply pw_below_drewN | apply below_drew1) | exact HB.out)) hb); clear HO356; clear HO363; clear HB; have HO356 := n0_; have HO363 := n1_; have HO367 := n2_; have HB := n3_; clear n0_ n1_ n2_ n3_; (try clear hb); (try clear hb2); (try clear hk); (try clear hi); (try clear ho0)) | ((with_reducible refine gate_callee (f := 74) rfl ?_); refine goesL_ (some 93) rfl rfl Tryd.func74 (by kernel_rfl) rfl #[.slice A0 l0.length c0] rfl (by (try simp only [List.map_toArray, List.map_cons, List.map_nil]); first | done | rfl | (simp only [List.length_drop, List.length_take]; rfl)) ?_; (with_reducible refine (sorrelref02_Vars.calls kj34 _ _ l0 t368 t369 _ ?side1 ?side2 A53.out).mono ?_); (case side1 => repeat (first | exact (Kd.C_below HR0.out HB.out) | (with_reducible refine Kd.C_alloc ?_ _) | (with_reducible refine Kd.C_drewN ?_ _) | (with_reducible refine Kd.C_drew ?_))); (case side2 => exact HC0.out); rintro e w91 ⟨v370, rfl, ho0, hb⟩; refine ⟨_, rfl, ?_⟩; have n0_ := am (Kd.S_below (by (with_reducible repeat (first | apply Kd.S_alloc | apply Kd.S_drewN | apply Kd.S_drew)); exact HO356.out) hb); have n1_ := am (Kd.S_below (by (with_reducible repeat (first | apply Kd.S_alloc | apply Kd.S_drewN | apply Kd.S_drew)); exact HO363.out) hb); have n2_ := am (Kd.R_elder' (by (with_reducible repeat (first | apply Kd.R_alloc | apply Kd.R_drewN | apply Kd.R_drew)); exact HO367.out) (Kd.R_base ho0) hb); have n3_ := am (Kd.R_lower (Kd.R_new' ho0 (Kd.R_lt (by (with_reducible repeat (first | apply Kd.R_alloc | apply Kd.R_drewN | apply Kd.R_drew)); exact HO367.out))) (below_size (by repeat (first | (with_reducible first | exact HB.out | apply below_alloc | apply pw_below_drewN | apply below_drew1) | exact HB.out)))); have n4_ := am (below_step (by repeat (first | (with_reducible first | exact HB.out | apply below_alloc | apply pw_below_drewN | apply below_drew1) | exact HB.out)) hb); clear HO356; clear HO363; clear HO367; clear HB; have HO356 := n0_; have HO363 := n1_; have HO367 := n2_; have HO371 := n3_; have HB := n4_; clear n0_ n1_ n2_ n3_ n4_; (try clear hb); (try clear hb2); (try clear hk); (try clear hi); (try clear ho0)))
                go_ret
                exact ⟨by first | rfl | (simp [errW_none, errW_some] <;> rfl) | (simp [*, errW_none, errW_some] <;> rfl), by repeat (first | (with_reducible first | exact HB.out | apply below_alloc | apply pw_below_drewN | apply below_drew1) | exact HB.out)⟩
              rw [if_pos c54] at H
              have c54b0 : (t357 == t359) = true := beq_iff_eq.mpr c54
              have c54b1 : (t357 != t359) = false := bne_eq_false_iff_eq.mpr c54
              clear c54
              by_cases c55 : t358 = t360
              rotate_left
              · rw [if_neg c55] at H
                have c55b0 : (t358 == t360) = false := beq_eq_false_iff_ne.mpr c55
                have c55b1 : (t358 != t360) = true := bne_iff_ne.mpr c55
                obtain rfl := Option.some.inj H
                go_wp2_with (first | ((with_reducible refine gate_callee (f := 30) rfl ?_); refine goesL_ (some 76) rfl rfl Tryd.func30 (by kernel_rfl) rfl #[.slice A0 l0.length c0] rfl (by (try simp only [List.map_toArray, List.map_cons, List.map_nil]); first | done | rfl | (simp only [List.length_drop, List.length_take]; rfl)) ?_; (with_reducible refine (sorrelref02_Copy.calls kj34 _ _ l0 t354 _ ?side1 ?side2 A48.out).mono ?_); (case side1 => repeat (first | exact (Kd.C_below HR0.out HB.out) | (with_reducible refine Kd.C_alloc ?_ _) | (with_reducible refine Kd.C_drewN ?_ _) | (with_reducible refine Kd.C_drew ?_))); (case side2 => exact HC0.out); rintro e w76 ⟨v355, rfl, ho0, hb⟩; refine ⟨_, rfl, ?_⟩; have n0_ := am (Kd.S_lower ho0 (below_size (by repeat (first | (with_reducible first | exact HB.out | apply below_alloc | apply pw_below_drewN | apply below_drew1) | exact HB.out)))); have n1_ := am (below_step (by repeat (first | (with_reducible first | exact HB.out | apply below_alloc | apply pw_below_drewN | apply below_drew1) | exact HB.out)) hb); clear HB; have HO356 := n0_; have HB := n1_; clear n0_ n1_; (try clear hb); (try clear hb2); (try clear hk); (try clear hi); (try clear ho0); obtain ⟨Ao77, co77, eo77⟩ := Kd.S_slice HO356.out; subst eo77) | ((with_reducible refine gate_callee (f := 68) rfl ?_); refine goesL_ (some 77) rfl rfl Tryd.func68 (by kernel_rfl) rfl #[.slice Ao77 t354.length co77] rfl (by (try simp only [List.map_toArray, List.map_cons, List.map_nil]); first | done | rfl | (simp only [List.length_drop, List.length_take]; rfl)) ?_; (with_reducible refine (expr_Depth.calls kj34 _ _ t354 t357 t358 _ ?side1 ?side2 ?side3 A49.out).mono ?_); (case side1 => repeat (first | exact (Kd.S_reads' HO356.out).2.2 | (with_reducible refine Kd.C_alloc ?_ _) | (with_reducible refine Kd.C_drewN ?_ _) | (with_reducible refine Kd.C_drew ?_))); (case side2 => exact (Kd.S_reads' HO356.out).2.1); (case side3 => first | exact GL.below HG.out (by repeat (first | (with_reducible first | exact HB.out | apply below_alloc | apply pw_below_drewN | apply below_drew1) | exact HB.out)) | exact HG.out); rintro e w78 ⟨rfl, hb⟩; refine ⟨_, rfl, ?_⟩; have n0_ := am (Kd.S_below (by (with_reducible repeat (first | apply Kd.S_alloc | apply Kd.S_drewN | apply Kd.S_drew)); exact HO356.out) hb); have n1_ := am (below_step (by repeat (first | (with_reducible first | exact HB.out | apply below_alloc | apply pw_below_drewN | apply below_drew1) | exact HB.out)) hb); clear HO356; clear HB; have HO356 := n0_; have HB := n1_; clear n0_ n1_; (try clear hb); (try clear hb2); (try clear hk); (try clear hi)) | ((with_reducible refine gate_callee (f := 73) rfl ?_); refine goesL_ (some 82) rfl rfl Tryd.func73 (by kernel_rfl) rfl #[.slice A0 l0.length c0] rfl (by (try simp only [List.map_toArray, List.map_cons, List.map_nil]); first | done | rfl | (simp only [List.length_drop, List.length_take]; rfl)) ?_; (with_reducible refine (sorrelref02_Depth.calls kj34 _ _ l0 t359 t360 _ ?side1 ?side2 A50.out).mono ?_); (case side1 => repeat (first | exact (Kd.C_below HR0.out HB.out) | (with_reducible refine Kd.C_alloc ?_ _) | (with_reducible refine Kd.C_drewN ?_ _) | (with_reducible refine Kd.C_drew ?_))); (case side2 => exact HC0.out); rintro e w79 ⟨rfl, hb⟩; refine ⟨_, rfl, ?_⟩; have n0_ := am (Kd.S_below (by (with_reducible repeat (first | apply Kd.S_alloc | apply Kd.S_drewN | apply Kd.S_drew)); exact HO356.out) hb); have n1_ := am (below_step (by repeat (first | (with_reducible first | exact HB.out | apply below_alloc | apply pw_below_drewN | apply below_drew1) | exact HB.out)) hb); clear HO356; clear HB; have HO356 := n0_; have HB := n1_; clear n0_ n1_; (try clear hb); (try clear hb2); (try clear hk); (try clear hi)) | ((with_reducible refine gate_callee (f := 30) rfl ?_); refine goesL_ (some 87) rfl rfl Tryd.func30 (by kernel_rfl) rfl #[.slice A0 l0.length c0] rfl (by (try simp only [List.map_toArray, List.map_cons, List.map_nil]); first | done | rfl | (simp only [List.length_drop, List.length_take]; rfl)) ?_; (with_reducible refine (sorrelref02_Copy.calls kj34 _ _ l0 t361 _ ?side1 ?side2 A51.out).mono ?_); (case side1 => repeat (first | exact (Kd.C_below HR0.out HB.out) | (with_reducible refine Kd.C_alloc ?_ _) | (with_reducible refine Kd.C_drewN ?_ _) | (with_reducible refine Kd.C_drew ?_))); (case side2 => exact HC0.out); rintro e w80 ⟨v362, rfl, ho0, hb⟩; refine ⟨_, rfl, ?_⟩; have n0_ := am (Kd.S_elder' (by (with_reducible repeat (first | apply Kd.S_alloc | apply Kd.S_drewN | apply Kd.S_drew)); exact HO356.out) (Kd.S_base ho0) hb); have n1_ := am (Kd.S_lower (Kd.S_new' ho0 (Kd.S_lt (by (with_reducible repeat (first | apply Kd.S_alloc | apply Kd.S_drewN | apply Kd.S_drew)); exact HO356.out))) (below_size (by repeat (first | (with_reducible first | exact HB.out | apply below_alloc | apply pw_below_drewN | apply below_drew1) | exact HB.out)))); have n2_ := am (below_step (by repeat (first | (with_reducible first | exact HB.out | apply below_alloc | apply pw_below_drewN | apply below_drew1) | exact HB.out)) hb); clear HO356; clear HB; have HO356 := n0_; have HO363 := n1_; have HB := n2_; clear n0_ n1_ n2_; (try clear hb); (try clear hb2); (try clear hk); (try clear hi); (try clear ho0); obtain ⟨Ao81, co81, eo81⟩ := Kd.S_slice HO363.out; subst eo81) | ((with_reducible refine gate_callee (f := 69) rfl ?_); refine goesL_ (some 88) rfl rfl Tryd.func69 (by kernel_rfl) rfl #[.slice Ao81 t361.length co81] rfl (by (try simp only [List.map_toArray, List.map_cons, List.map_nil]); first | done | rfl | (simp only [List.length_drop, List.length_take]; rfl)) ?_; (with_reducible refine (expr_Vars.calls kj34 _ _ t361 t364 t365 _ ?side1 ?side2 ?side3 A52.out).mono ?_); (case side1 => repeat (first | exact (Kd.S_reads' HO363.out).2.2 | (with_reducible refine Kd.C_alloc ?_ _) | (with_reducible refine Kd.C_drewN ?_ _) | (with_reducible refine Kd.C_drew ?_))); (case side2 => exact (Kd.S_reads' HO363.out).2.1); (case side3 => first | exact GL.below HG.out (by repeat (first | (with_reducible first | exact HB.out | apply below_alloc | apply pw_below_drewN | apply below_drew1) | exact HB.out)) | exact HG.out); rintro e w82 ⟨v366, rfl, ho0, hb⟩; refine ⟨_, rfl, ?_⟩; have n0_ := am (Kd.S_below (by (with_reducible repeat (first | apply Kd.S_alloc | apply Kd.S_drewN | apply Kd.S_drew)); exact HO356.out) hb); have n1_ := am (Kd.S_below (by (with_reducible repeat (first | apply Kd.S_alloc | apply Kd.S_drewN | apply Kd.S_drew)); exact HO363.out) hb); have n2_ := am (Kd.R_lower ho0 (below_size (by repeat (first | (with_reducible first | exact HB.out | apply below_alloc | apply pw_below_drewN | apply below_drew1) | exact HB.out)))); have n3_ := am (below_step (by repeat (first | (with_reducible first | exact HB.out | apply below_alloc | apply pw_below_drewN | apply below_drew1) | exact HB.out)) hb); clear HO356; clear HO363; clear HB; have HO356 := n0_; have HO363 := n1_; have HO367 := n2_; have HB := n3_; clear n0_ n1_ n2_ n3_; (try clear hb); (try clear hb2); (try clear hk); (try clear hi); (try clear ho0)) | ((with_reducible refine gate_callee (f := 74) rfl ?_); refine goesL_ (some 93) rfl rfl Tryd.func74 (by kernel_rfl) rfl #[.slice A0 l0.length c0] rfl (by (try simp only [List.map_toArray, List.map_cons, List.map_nil]); first | done | rfl | (simp only [List.length_drop, List.length_take]; rfl)) ?_; (with_reducible refine (sorrelref02_Vars.calls kj34 _ _ l0 t368 t369 _ ?side1 ?side2 A53.out).mono ?_); (case side1 => repeat (first | exact (Kd.C_below HR0.out HB.out) | (with_reducible refine Kd.C_alloc ?_ _) | (with_reducible refine Kd.C_drewN ?_ _) | (with_reducible refine Kd.C_drew ?_))); (case side2 => exact HC0.out); rintro e w83 ⟨v370, rfl, ho0, hb⟩; refine ⟨_, rfl, ?_⟩; have n0_ := am (Kd.S_below (by (with_reducible repeat (first | apply Kd.S_alloc | apply Kd.S_drewN | apply Kd.S_drew)); exact HO356.out) hb); have n1_ := am (Kd.S_below (by (with_reducible repeat (first | apply Kd.S_alloc | apply Kd.S_drewN | apply Kd.S_drew)); exact HO363.out) hb); have n2_ := am (Kd.R_elder' (by (with_reducible repeat (first | apply Kd.R_alloc | apply Kd.R_drewN | apply Kd.R_drew)); exact HO367.out) (Kd.R_base ho0) hb); have n3_ := am (Kd.R_lower (Kd.R_new' ho0 (Kd.R_lt (by (with_reducible repeat (first | apply Kd.R_alloc | apply Kd.R_drewN | apply Kd.R_drew)); exact HO367.out))) (below_size (by repeat (first | (with_reducible first | exact HB.out | apply below_alloc | apply pw_below_drewN | apply below_drew1) | exact HB.out)))); have n4_ := am (below_step (by repeat (first | (with_reducible first | exact HB.out | apply below_alloc | apply pw_below_drewN | apply below_drew1) | exact HB.out)) hb); clear HO356; clear HO363; clear HO367; clear HB; have HO356 := n0_; have HO363 := n1_; have HO367 := n2_; have HO371 := n3_; have HB := n4_; clear n0_ n1_ n2_ n3_ n4_; (try clear hb); (try clear hb2); (try clear hk); (try clear hi); (try clear ho0)))
                go_ret
                exact ⟨by first | rfl | (simp [errW_none, errW_some] <;> rfl) | (simp [*, errW_none, errW_some] <;> rfl), by repeat (first | (with_reducible first | exact HB.out | apply below_alloc | apply pw_below_drewN | apply below_drew1) | exact HB.out)⟩
              rw [if_pos c55] at H
              have c55b0 : (t358 == t360) = true := beq_iff_eq.mpr c55
              have c55b1 : (t358 != t360) = false := bne_eq_false_iff_eq.mpr c55
              clear c55
              by_cases c56 : t365 = t369
              rotate_left
              · rw [if_neg c56] at H
                have c56b0 : (t365 == t369) = false := beq_eq_false_iff_ne.mpr c56
                have c56b1 : (t365 != t369) = true := bne_iff_ne.mpr c56
                obtain rfl := Option.some.inj H
                go_wp2_with (first | ((with_reducible refine gate_callee (f := 30) rfl ?_); refine goesL_ (some 76) rfl rfl Tryd.func30 (by kernel_rfl) rfl #[.slice A0 l0.length c0] rfl (by (try simp only [List.map_toArray, List.map_cons, List.map_nil]); first | done | rfl | (simp only [List.length_drop, List.length_take]; rfl)) ?_; (with_reducible refine (sorrelref02_Copy.calls kj34 _ _ l0 t354 _ ?side1 ?side2 A48.out).mono ?_); (case side1 => repeat (first | exact (Kd.C_below HR0.out HB.out) | (with_reducible refine Kd.C_alloc ?_ _) | (with_reducible refine Kd.C_drewN ?_ _) | (with_reducible refine Kd.C_drew ?_))); (case side2 => exact HC0.out); rintro e w68 ⟨v355, rfl, ho0, hb⟩; refine ⟨_, rfl, ?_⟩; have n0_ := am (Kd.S_lower ho0 (below_size (by repeat (first | (with_reducible first | exact HB.out | apply below_alloc | apply pw_below_drewN | apply below_drew1) | exact HB.out)))); have n1_ := am (below_step (by repeat (first | (with_reducible first | exact HB.out | apply below_alloc | apply pw_below_drewN | apply below_drew1) | exact HB.out)) hb); clear HB; have HO356 := n0_; have HB := n1_; clear n0_ n1_; (try clear hb); (try clear hb2); (try clear hk); (try clear hi); (try clear ho0); obtain ⟨Ao69, co69, eo69⟩ := Kd.S_slice HO356.out; subst eo69) | ((with_reducible refine gate_callee (f := 68) rfl ?_); refine goesL_ (some 77) rfl rfl Tryd.func68 (by kernel_rfl) rfl #[.slice Ao69 t354.length co69] rfl (by (try simp only [List.map_toArray, List.map_cons, List.map_nil]); first | done | rfl | (simp only [List.length_drop, List.length_take]; rfl)) ?_; (with_reducible refine (expr_Depth.calls kj34 _ _ t354 t357 t358 _ ?side1 ?side2 ?side3 A49.out).mono ?_); (case side1 => repeat (first | exact (Kd.S_reads' HO356.out).2.2 | (with_reducible refine Kd.C_alloc ?_ _) | (with_reducible refine Kd.C_drewN ?_ _) | (with_reducible refine Kd.C_drew ?_))); (case side2 => exact (Kd.S_reads' HO356.out).2.1); (case side3 => first | exact GL.below HG.out (by repeat (first | (with_reducible first | exact HB.out | apply below_alloc | apply pw_below_drewN | apply below_drew1) | exact HB.out)) | exact HG.out); rintro e w70 ⟨rfl, hb⟩; refine ⟨_, rfl, ?_⟩; have n0_ := am (Kd.S_below (by (with_reducible repeat (first | apply Kd.S_alloc | apply Kd.S_drewN | apply Kd.S_drew)); exact HO356.out) hb); have n1_ := am (below_step (by repeat (first | (with_reducible first | exact HB.out | apply below_alloc | apply pw_below_drewN | apply below_drew1) | exact HB.out)) hb); clear HO356; clear HB; have HO356 := n0_; have HB := n1_; clear n0_ n1_; (try clear hb); (try clear hb2); (try clear hk); (try clear hi)) | ((with_reducible refine gate_callee (f := 73) rfl ?_); refine goesL_ (some 82) rfl rfl Tryd.func73 (by kernel_rfl) rfl #[.slice A0 l0.length c0] rfl (by (try simp only [List.map_toArray, List.map_cons, List.map_nil]); first | done | rfl | (simp only [List.length_drop, List.length_take]; rfl)) ?_; (with_reducible refine (sorrelref02_Depth.calls kj34 _ _ l0 t359 t360 _ ?side1 ?side2 A50.out).mono ?_); (case side1 => repeat (first | exact (Kd.C_below HR0.out HB.out) | (with_reducible refine Kd.C_alloc ?_ _) | (with_reducible refine Kd.C_drewN ?_ _) | (with_reducible refine Kd.C_drew ?_))); (case side2 => exact HC0.out); rintro e w71 ⟨rfl, hb⟩; refine ⟨_, rfl, ?_⟩; have n0_ := am (Kd.S_below (by (with_reducible repeat (first | apply Kd.S_alloc | apply Kd.S_drewN | apply Kd.S_drew)); exact HO356.out) hb); have n1_ := am (below_step (by repeat (first | (with_reducible first | exact HB.out | apply below_alloc | apply pw_below_drewN | apply below_drew1) | exact HB.out)) hb); clear HO356; clear HB; have HO356 := n0_; have HB := n1_; clear n0_ n1_; (try clear hb); (try clear hb2); (try clear hk); (try clear hi)) | ((with_reducible refine gate_callee (f := 30) rfl ?_); refine goesL_ (some 87) rfl rfl Tryd.func30 (by kernel_rfl) rfl #[.slice A0 l0.length c0] rfl (by (try simp only [List.map_toArray, List.map_cons, List.map_nil]); first | done | rfl | (simp only [List.length_drop, List.length_take]; rfl)) ?_; (with_reducible refine (sorrelref02_Copy.calls kj34 _ _ l0 t361 _ ?side1 ?side2 A51.out).mono ?_); (case side1 => repeat (first | exact (Kd.C_below HR0.out HB.out) | (with_reducible refine Kd.C_alloc ?_ _) | (with_reducible refine Kd.C_drewN ?_ _) | (with_reducible refine Kd.C_drew ?_))); (case side2 => exact HC0.out); rintro e w72 ⟨v362, rfl, ho0, hb⟩; refine ⟨_, rfl, ?_⟩; have n0_ := am (Kd.S_elder' (by (with_reducible repeat (first | apply Kd.S_alloc | apply Kd.S_drewN | apply Kd.S_drew)); exact HO356.out) (Kd.S_base ho0) hb); have n1_ := am (Kd.S_lower (Kd.S_new' ho0 (Kd.S_lt (by (with_reducible repeat (first | apply Kd.S_alloc | apply Kd.S_drewN | apply Kd.S_drew)); exact HO356.out))) (below_size (by repeat (first | (with_reducible first | exact HB.out | apply below_alloc | apply pw_below_drewN | apply below_drew1) | exact HB.out)))); have n2_ := am (below_step (by repeat (first | (with_reducible first | exact HB.out | apply below_alloc | apply pw_below_drewN | apply below_drew1) | exact HB.out)) hb); clear HO356; clear HB; have HO356 := n0_; have HO363 := n1_; have HB := n2_; clear n0_ n1_ n2_; (try clear hb); (try clear hb2); (try clear hk); (try clear hi); (try clear ho0); obtain ⟨Ao73, co73, eo73⟩ := Kd.S_slice HO363.out; subst eo73) | ((with_reducible refine gate_callee (f := 69) rfl ?_); refine goesL_ (some 88) rfl rfl Tryd.func69 (by kernel_rfl) rfl #[.slice Ao73 t361.length co73] rfl (by (try simp only [List.map_toArray, List.map_cons, List.map_nil]); first | done | rfl | (simp only [List.length_drop, List.length_take]; rfl)) ?_; (with_reducible refine (expr_Vars.calls kj34 _ _ t361 t364 t365 _ ?side1 ?side2 ?side3 A52.out).mono ?_); (case side1 => repeat (first | exact (Kd.S_reads' HO363.out).2.2 | (with_reducible refine Kd.C_alloc ?_ _) | (with_reducible refine Kd.C_drewN ?_ _) | (with_reducible refine Kd.C_drew ?_))); (case side2 => exact (Kd.S_reads' HO363.out).2.1); (case side3 => first | exact GL.below HG.out (by repeat (first | (with_reducible first | exact HB.out | apply below_alloc | apply pw_below_drewN | apply below_drew1) | exact HB.out)) | exact HG.out); rintro e w74 ⟨v366, rfl, ho0, hb⟩; refine ⟨_, rfl, ?_⟩; have n0_ := am (Kd.S_below (by (with_reducible repeat (first | apply Kd.S_alloc | apply Kd.S_drewN | apply Kd.S_drew)); exact HO356.out) hb); have n1_ := am (Kd.S_below (by (with_reducible repeat (first | apply Kd.S_alloc | apply Kd.S_drewN | apply Kd.S_drew)); exact HO363.out) hb); have n2_ := am (Kd.R_lower ho0 (below_size (by repeat (first | (with_reducible first | exact HB.out | apply below_alloc | apply pw_below_drewN | apply below_drew1) | exact HB.out)))); have n3_ := am (below_step (by repeat (first | (with_reducible first | exact HB.out | apply below_alloc | apply pw_below_drewN | apply below_drew1) | exact HB.out)) hb); clear HO356; clear HO363; clear HB; have HO356 := n0_; have HO363 := n1_; have HO367 := n2_; have HB := n3_; clear n0_ n1_ n2_ n3_; (try clear hb); (try clear hb2); (try clear hk); (try clear hi); (try clear ho0)) | ((with_reducible refine gate_callee (f := 74) rfl ?_); refine goesL_ (some 93) rfl rfl Tryd.func74 (by kernel_rfl) rfl #[.slice A0 l0.length c0] rfl (by (try simp only [List.map_toArray, List.map_cons, List.map_nil]); first | done | rfl | (simp only [List.length_drop, List.length_take]; rfl)) ?_; (with_reducible refine (sorrelref02_Vars.calls kj34 _ _ l0 t368 t369 _ ?side1 ?side2 A53.out).mono ?_); (case side1 => repeat (first | exact (Kd.C_below HR0.out HB.out) | (with_reducible refine Kd.C_alloc ?_ _) | (with_reducible refine Kd.C_drewN ?_ _) | (with_reducible refine Kd.C_drew ?_))); (case side2 => exact HC0.out); rintro e w75 ⟨v370, rfl, ho0, hb⟩; refine ⟨_, rfl, ?_⟩; have n0_ := am (Kd.S_below (by (with_reducible repeat (first | apply Kd.S_alloc | apply Kd.S_drewN | apply Kd.S_drew)); exact HO356.out) hb); have n1_ := am (Kd.S_below (by (with_reducible repeat (first | apply Kd.S_alloc | apply Kd.S_drewN | apply Kd.S_drew)); exact HO363.out) hb); have n2_ := am (Kd.R_elder' (by (with_reducible repeat (first | apply Kd.R_alloc | apply Kd.R_drewN | apply Kd.R_drew)); exact HO367.out) (Kd.R_base ho0) hb); have n3_ := am (Kd.R_lower (Kd.R_new' ho0 (Kd.R_lt (by (with_reducible repeat (first | apply Kd.R_alloc | apply Kd.R_drewN | apply Kd.R_drew)); exact HO367.out))) (below_size (by repeat (first | (with_reducible first | exact HB.out | apply below_alloc | apply pw_below_drewN | apply below_drew1) | exact HB.out)))); have n4_ := am (below_step (by repeat (first | (with_reducible first | exact HB.out | apply below_alloc | apply pw_below_drewN | apply below_drew1) | exact HB.out)) hb); clear HO356; clear HO363; clear HO367; clear HB; have HO356 := n0_; have HO363 := n1_; have HO367 := n2_; have HO371 := n3_; have HB := n4_; clear n0_ n1_ n2_ n3_ n4_; (try clear hb); (try clear hb2); (try clear hk); (try clear hi); (try clear ho0)))
                go_ret
                exact ⟨by first | rfl | (simp [errW_none, errW_some] <;> rfl) | (simp [*, errW_none, errW_some] <;> rfl), by repeat (first | (with_reducible first | exact HB.out | apply below_alloc | apply pw_below_drewN | apply below_drew1) | exact HB.out)⟩
              rw [if_pos c56] at H
              have c56b0 : (t365 == t369) = true := beq_iff_eq.mpr c56
              have c56b1 : (t365 != t369) = false := bne_eq_false_iff_eq.mpr c56
              clear c56
              replace H := Option.bind_eq_some_iff.mp H
              obtain ⟨t372, A570, H⟩ := H
              replace H : (some t372) = some r := H
              have A57 := am A570
              clear A570
              obtain rfl := Option.some.inj H
              go_wp2_with (first | ((with_reducible refine gate_callee (f := 30) rfl ?_); refine goesL_ (some 76) rfl rfl Tryd.func30 (by kernel_rfl) rfl #[.slice A0 l0.length c0] rfl (by (try simp only [List.map_toArray, List.map_cons, List.map_nil]); first | done | rfl | (simp only [List.length_drop, List.length_take]; rfl)) ?_; (with_reducible refine (sorrelref02_Copy.calls kj34 _ _ l0 t354 _ ?side1 ?side2 A48.out).mono ?_); (case side1 => repeat (first | exact (Kd.C_below HR0.out HB.out) | (with_reducible refine Kd.C_alloc ?_ _) | (with_reducible refine Kd.C_drewN ?_ _) | (with_reducible refine Kd.C_drew ?_))); (case side2 => exact HC0.out); rintro e w58 ⟨v355, rfl, ho0, hb⟩; refine ⟨_, rfl, ?_⟩; have n0_ := am (Kd.S_lower ho0 (below_size (by repeat (first | (with_reducible first | exact HB.out | apply below_alloc | apply pw_below_drewN | apply below_drew1) | exact HB.out)))); have n1_ := am (below_step (by repeat (first | (with_reducible first | exact HB.out | apply below_alloc | apply pw_below_drewN | apply below_drew1) | exact HB.out)) hb); clear HB; have HO356 := n0_; have HB := n1_; clear n0_ n1_; (try clear hb); (try clear hb2); (try clear hk); (try clear hi); (try clear ho0); obtain ⟨Ao59, co59, eo59⟩ := Kd.S_slice HO356.out; subst eo59) | ((with_reducible refine gate_callee (f := 68) rfl ?_); refine goesL_ (some 77) rfl rfl Tryd.func68 (by kernel_rfl) rfl #[.slice Ao59 t354.length co59] rfl (by (try simp only [List.map_toArray, List.map_cons, List.map_nil]); first | done | rfl | (simp only [List.length_drop, List.length_take]; rfl)) ?_; (with_reducible refine (expr_Depth.calls kj34 _ _ t354 t357 t358 _ ?side1 ?side2 ?side3 A49.out).mono ?_); (case side1 => repeat (first | exact (Kd.S_reads' HO356.out).2.2 | (with_reducible refine Kd.C_alloc ?_ _) | (with_reducible refine Kd.C_drewN ?_ _) | (with_reducible refine Kd.C_drew ?_))); (case side2 => exact (Kd.S_reads' HO356.out).2.1); (case side3 => first | exact GL.below HG.out (by repeat (first | (with_reducible first | exact HB.out | apply below_alloc | apply pw_below_drewN | apply below_drew1) | exact HB.out)) | exact HG.out); rintro e w60 ⟨rfl, hb⟩; refine ⟨_, rfl, ?_⟩; have n0_ := am (Kd.S_below (by (with_reducible repeat (first | apply Kd.S_alloc | apply Kd.S_drewN | apply Kd.S_drew)); exact HO356.out) hb); have n1_ := am (below_step (by repeat (first | (with_reducible first | exact HB.out | apply below_alloc | apply pw_below_drewN | apply below_drew1) | exact HB.out)) hb); clear HO356; clear HB; have HO356 := n0_; have HB := n1_; clear n0_ n1_; (try clear hb); (try clear hb2); (try clear hk); (try clear hi)) | ((with_reducible refine gate_callee (f := 73) rfl ?_); refine goesL_ (some 82) rfl rfl Tryd.func73 (by kernel_rfl) rfl #[.slice A0 l0.length c0] rfl (by (try simp only [List.map_toArray, List.map_cons, List.map_nil]); first | done | rfl | (simp only [List.length_drop, List.length_take]; rfl)) ?_; (with_reducible refine (sorrelref02_Depth.calls kj34 _ _ l0 t359 t360 _ ?side1 ?side2 A50.out).mono ?_); (case side1 => repeat (first | exact (Kd.C_below HR0.out HB.out) | (with_reducible refine Kd.C_alloc ?_ _) | (with_reducible refine Kd.C_drewN ?_ _) | (with_reducible refine Kd.C_drew ?_))); (case side2 => exact HC0.out); rintro e w61 ⟨rfl, hb⟩; refine ⟨_, rfl, ?_⟩; have n0_ := am (Kd.S_below (by (with_reducible repeat (first | apply Kd.S_alloc | apply Kd.S_drewN | apply Kd.S_drew)); exact HO356.out) hb); have n1_ := am (below_step (by repeat (first | (with_reducible first | exact HB.out | apply below_alloc | apply pw_below_drewN | apply below_drew1) | exact HB.out)) hb); clear HO356; clear HB; have HO356 := n0_; have HB := n1_; clear n0_ n1_; (try clear hb); (try clear hb2); (try clear hk); (try clear hi)) | ((with_reducible refine gate_callee (f := 30) rfl ?_); refine goesL_ (some 87) rfl rfl Tryd.func30 (by kernel_rfl) rfl #[.slice A0 l0.length c0] rfl (by (try simp only [List.map_toArray, List.map_cons, List.map_nil]); first | done | rfl | (simp only [List.length_drop, List.length_take]; rfl)) ?_; (with_reducible refine (sorrelref02_Copy.calls kj34 _ _ l0 t361 _ ?side1 ?side2 A51.out).mono ?_); (case side1 => repeat (first | exact (Kd.C_below HR0.out HB.out) | (with_reducible refine Kd.C_alloc ?_ _) | (with_reducible refine Kd.C_drewN ?_ _) | (with_reducible refine Kd.C_drew ?_))); (case side2 => exact HC0.out); rintro e w62 ⟨v362, rfl, ho0, hb⟩; refine ⟨_, rfl, ?_⟩; have n0_ := am (Kd.S_elder' (by (with_reducible repeat (first | apply Kd.S_alloc | apply Kd.S_drewN | apply Kd.S_drew)); exact HO356.out) (Kd.S_base ho0) hb); have n1_ := am (Kd.S_lower (Kd.S_new' ho0 (Kd.S_lt (by (with_reducible repeat (first | apply Kd.S_alloc | apply Kd.S_drewN | apply Kd.S_drew)); exact HO356.out))) (below_size (by repeat (first | (with_reducible first | exact HB.out | apply below_alloc | apply pw_below_drewN | apply below_drew1) | exact HB.out)))); have n2_ := am (below_step (by repeat (first | (with_reducible first | exact HB.out | apply below_alloc | apply pw_below_drewN | apply below_drew1) | exact HB.out)) hb); clear HO356; clear HB; have HO356 := n0_; have HO363 := n1_; have HB := n2_; clear n0_ n1_ n2_; (try clear hb); (try clear hb2); (try clear hk); (try clear hi); (try clear ho0); obtain ⟨Ao63, co63, eo63⟩ := Kd.S_slice HO363.out; subst eo63) | ((with_reducible refine gate_callee (f := 69) rfl ?_); refine goesL_ (some 88) rfl rfl Tryd.func69 (by kernel_rfl) rfl #[.slice Ao63 t361.length co63] rfl (by (try simp only [List.map_toArray, List.map_cons, List.map_nil]); first | done | rfl | (simp only [List.length_drop, List.length_take]; rfl)) ?_; (with_reducible refine (expr_Vars.calls kj34 _ _ t361 t364 t365 _ ?side1 ?side2 ?side3 A52.out).mono ?_); (case side1 => repeat (first | exact (Kd.S_reads' HO363.out).2.2 | (with_reducible refine Kd.C_alloc ?_ _) | (with_reducible refine Kd.C_drewN ?_ _) | (with_reducible refine Kd.C_drew ?_))); (case side2 => exact (Kd.S_reads' HO363.out).2.1); (case side3 => first | exact GL.below HG.out (by repeat (first | (with_reducible first | exact HB.out | apply below_alloc | apply pw_below_drewN | apply below_drew1) | exact HB.out)) | exact HG.out); rintro e w64 ⟨v366, rfl, ho0, hb⟩; refine ⟨_, rfl, ?_⟩; have n0_ := am (Kd.S_below (by (with_reducible repeat (first | apply Kd.S_alloc | apply Kd.S_drewN | apply Kd.S_drew)); exact HO356.out) hb); have n1_ := am (Kd.S_below (by (with_reducible repeat (first | apply Kd.S_alloc | apply Kd.S_drewN | apply Kd.S_drew)); exact HO363.out) hb); have n2_ := am (Kd.R_lower ho0 (below_size (by repeat (first | (with_reducible first | exact HB.out | apply below_alloc | apply pw_below_drewN | apply below_drew1) | exact HB.out)))); have n3_ := am (below_step (by repeat (first | (with_reducible first | exact HB.out | apply below_alloc | apply pw_below_drewN | apply below_drew1) | exact HB.out)) hb); clear HO356; clear HO363; clear HB; have HO356 := n0_; have HO363 := n1_; have HO367 := n2_; have HB := n3_; clear n0_ n1_ n2_ n3_; (try clear hb); (try clear hb2); (try clear hk); (try clear hi); (try clear ho0)) | ((with_reducible refine gate_callee (f := 74) rfl ?_); refine goesL_ (some 93) rfl rfl Tryd.func74 (by kernel_rfl) rfl #[.slice A0 l0.length c0] rfl (by (try simp only [List.map_toArray, List.map_cons, List.map_nil]); first | done | rfl | (simp only [List.length_drop, List.length_take]; rfl)) ?_; (with_reducible refine (sorrelref02_Vars.calls kj34 _ _ l0 t368 t369 _ ?side1 ?side2 A53.out).mono ?_); (case side1 => repeat (first | exact (Kd.C_below HR0.out HB.out) | (with_reducible refine Kd.C_alloc ?_ _) | (with_reducible refine Kd.C_drewN ?_ _) | (with_reducible refine Kd.C_drew ?_))); (case side2 => exact HC0.out); rintro e w65 ⟨v370, rfl, ho0, hb⟩; refine ⟨_, rfl, ?_⟩; have n0_ := am (Kd.S_below (by (with_reducible repeat (first | apply Kd.S_alloc | apply Kd.S_drewN | apply Kd.S_drew)); exact HO356.out) hb); have n1_ := am (Kd.S_below (by (with_reducible repeat (first | apply Kd.S_alloc | apply Kd.S_drewN | apply Kd.S_drew)); exact HO363.out) hb); have n2_ := am (Kd.R_elder' (by (with_reducible repeat (first | apply Kd.R_alloc | apply Kd.R_drewN | apply Kd.R_drew)); exact HO367.out) (Kd.R_base ho0) hb); have n3_ := am (Kd.R_lower (Kd.R_new' ho0 (Kd.R_lt (by (with_reducible repeat (first | apply Kd.R_alloc | apply Kd.R_drewN | apply Kd.R_drew)); exact HO367.out))) (below_size (by repeat (first | (with_reducible first | exact HB.out | apply below_alloc | apply pw_below_drewN | apply below_drew1) | exact HB.out)))); have n4_ := am (below_step (by repeat (first | (with_reducible first | exact HB.out | apply below_alloc | apply pw_below_drewN | apply below_drew1) | exact HB.out)) hb); clear HO356; clear HO363; clear HO367; clear HB; have HO356 := n0_; have HO363 := n1_; have HO367 := n2_; have HO371 := n3_; have HB := n4_; clear n0_ n1_ n2_ n3_ n4_; (try clear hb); (try clear hb2); (try clear hk); (try clear hi); (try clear ho0); obtain ⟨Ao66, co66, eo66⟩ := Kd.R_slice HO367.out; subst eo66; obtain ⟨Ao67, co67, eo67⟩ := Kd.R_slice HO371.out; subst eo67) | (go_at_call 64; (with_reducible refine (sorrelref02_SameTexts.calls kj34 _ _ t364 _ _ t368 t372 _ ?side1 ?side2 ?side3 ?side4 A57.out).mono ?_); (case side1 => repeat (first | exact (Kd.R_reads' HO367.out).2.2 | (with_reducible refine Kd.C_alloc ?_ _) | (with_reducible refine Kd.C_drewN ?_ _) | (with_reducible refine Kd.C_drew ?_))); (case side2 => exact (Kd.R_reads' HO367.out).2.1); (case side3 => repeat (first | exact (Kd.R_reads' HO371.out).2.2 | (with_reducible refine Kd.C_alloc ?_ _) | (with_reducible refine Kd.C_drewN ?_ _) | (with_reducible refine Kd.C_drew ?_))); (case side4 => exact (Kd.R_reads' HO371.out).2.1); rintro e w' ⟨rfl, ⟨nd, rfl⟩⟩))
              go_ret
              exact ⟨by first | rfl | (simp [errW_none, errW_some] <;> rfl) | (simp [*, errW_none, errW_some] <;> rfl), by repeat (first | (with_reducible first | exact HB.out | apply below_alloc | apply pw_below_drewN | apply below_drew1) | exact HB.out)⟩
end Go.Proofs.YtacjjfoelhckcaaDoor.PExprPlays
