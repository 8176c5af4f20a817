/- Contracts of functions, printed by the session's own changed copy of the print generator (see its notes); the plain functions tell what the calls answer. -/
import Derived.Test.YtacjjfoelhckcaaDoorPEvalPartsx0
import Derived.Test.YtacjjfoelhckcaaDoorPEvalPartsx1
import Derived.Test.YtacjjfoelhckcaaDoorPEvalPartsx3
namespace Go.Proofs.YtacjjfoelhckcaaDoor.PEvalParts
open Go.RowKit Go.Proofs.YtacjjfoelhckcaaDoorW.PrintWords Go.Proofs.YtacjjfoelhckcaaDoorW.PrintLast Go.Proofs.YtacjjfoelhckcaaDoorW.PrintMore
attribute [local go_sem] max2_int min2_int max_two min_two max_three min_three max_four min_four   -- for this text's walks alone
set_option linter.unusedVariables false
set_option linter.unusedSimpArgs false

/-! ### arith_Apply: function 53 -/
mutual
def arith_Apply.j0 : Nat → Int → List Int → Bool → Option (Int × Int)
  | 0, _, _, _ => none
  | k + 1, x0, x1, x24 => if x24 = true then (some (0, 2)) else (if x0 = 3 then (if 0 < (x1.length : Int) then (some (wrap64 (-(rd x1 0)), 0)) else (none)) else (if x0 = 4 then (if 0 < (x1.length : Int) then (some (Go.bits .xor .i64 (-1) (rd x1 0), 0)) else (none)) else (if x0 = 17 then (if 0 < (x1.length : Int) then (arith_Apply.j1 k x0 x1 ((rd x1 0) != 0)) else (none)) else (arith_Apply.j1 k x0 x1 false))))
def arith_Apply.j1 : Nat → Int → List Int → Bool → Option (Int × Int)
  | 0, _, _, _ => none
  | k + 1, x0, x1, x39 => if x39 = true then (if 1 < (x1.length : Int) then (some (rd x1 1, 0)) else (none)) else (if x0 = 17 then (if 2 < (x1.length : Int) then (some (rd x1 2, 0)) else (none)) else ((arith_group.f k x0).bind fun t166 => (if t166 = 1 then (if 1 < (x1.length : Int) then (if (rd x1 1) = 0 then (some (0, 12)) else (if 0 < (x1.length : Int) then ((arith_two.f x0 (rd x1 0) (rd x1 1)).bind fun t170 => (some (t170, 0))) else (none))) else (none)) else (if 0 < (x1.length : Int) then (if 1 < (x1.length : Int) then ((arith_two.f x0 (rd x1 0) (rd x1 1)).bind fun t173 => (some (t173, 0))) else (none)) else (none)))))
end
def arith_Apply.f (k : Nat) (a0 : Int) (l1 : List Int) : Option (Int × Int) := (expr_Arity.f k a0).bind fun bt159 => (if bt159.2 = 0 then (if bt159.1 = 0 then (arith_Apply.j0 k a0 l1 true) else (arith_Apply.j0 k a0 l1 (bt159.1 != (l1.length : Int)))) else (arith_Apply.j0 k a0 l1 true))
theorem arith_Apply.mono_l : ∀ k, (∀ y0 y1 y2, LeO (arith_Apply.j0 k y0 y1 y2) (arith_Apply.j0 (k + 1) y0 y1 y2)) ∧ (∀ y0 y1 y2, LeO (arith_Apply.j1 k y0 y1 y2) (arith_Apply.j1 (k + 1) y0 y1 y2))
  | 0 => ⟨fun _ _ _ r h => by simp [arith_Apply.j0] at h, fun _ _ _ r h => by simp [arith_Apply.j1] at h⟩
  | k + 1 => by
    obtain ⟨ih0, ih1⟩ := arith_Apply.mono_l k
    refine ⟨?_, ?_⟩
    · intro y0 y1 y2
      unfold arith_Apply.j0
      repeat' first
      | (with_reducible exact ih0 _ _ _)
      | (with_reducible exact ih1 _ _ _)
      | (with_reducible exact arith_group.mono _ _)
      | (with_reducible exact expr_Arity.mono _ _)
      | (with_reducible exact LeO.refl _)
      | (with_reducible exact LeO.none _)
      | (with_reducible refine LeO.ite ?_ ?_)
      | (with_reducible refine LeO.bind ?_ (fun _ => ?_))
      | exact ih0 _ _ _
      | exact ih1 _ _ _
      | exact arith_group.mono _ _
      | exact expr_Arity.mono _ _
      | exact LeO.none _
      | refine LeO.ite ?_ ?_
      | refine LeO.bind ?_ (fun _ => ?_)
    · intro y0 y1 y2
      unfold arith_Apply.j1
      repeat' first
      | (with_reducible exact ih0 _ _ _)
      | (with_reducible exact ih1 _ _ _)
      | (with_reducible exact arith_group.mono _ _)
      | (with_reducible exact expr_Arity.mono _ _)
      | (with_reducible exact LeO.refl _)
      | (with_reducible exact LeO.none _)
      | (with_reducible refine LeO.ite ?_ ?_)
      | (with_reducible refine LeO.bind ?_ (fun _ => ?_))
      | exact ih0 _ _ _
      | exact ih1 _ _ _
      | exact arith_group.mono _ _
      | exact expr_Arity.mono _ _
      | exact LeO.none _
      | refine LeO.ite ?_ ?_
      | refine LeO.bind ?_ (fun _ => ?_)
theorem arith_Apply.mono : ∀ a0 a1 k, LeO (arith_Apply.f k a0 a1) (arith_Apply.f (k + 1) a0 a1) := by
  intro a0 a1 k
  obtain ⟨ih0, ih1⟩ := arith_Apply.mono_l k
  unfold arith_Apply.f
  repeat' first
      | (with_reducible exact ih0 _ _ _)
      | (with_reducible exact ih1 _ _ _)
      | (with_reducible exact arith_group.mono _ _)
      | (with_reducible exact expr_Arity.mono _ _)
      | (with_reducible exact LeO.refl _)
      | (with_reducible exact LeO.none _)
      | (with_reducible refine LeO.ite ?_ ?_)
      | (with_reducible refine LeO.bind ?_ (fun _ => ?_))
      | exact ih0 _ _ _
      | exact ih1 _ _ _
      | exact arith_group.mono _ _
      | exact expr_Arity.mono _ _
      | exact LeO.none _
      | refine LeO.ite ?_ ?_
      | refine LeO.bind ?_ (fun _ => ?_)
set_option maxHeartbeats 8000000 in
set_option maxRecDepth 100000 in
theorem arith_Apply.calls (k : Nat) (a0 : Int) (A1 : Option Addr) (c1 : Nat) (l1 : List Int) (r1 : Int) (r2 : Int) (w : World) (hr1 : Kd.C (Kd.int .i64) w A1 l1.length l1) (hc1 : l1.length ≤ c1) (h : arith_Apply.f k a0 l1 = some (r1, r2)) :
    Calls Tryd.prog 53 #[.int .i64 a0, .slice A1 l1.length c1] w fun e w' => e = .returned (.tuple #[.int .i64 r1, .int .i64 r2]) ∧ Drawn0 w w' := by
  have HR1 := Aside0.mk hr1
  have HC1 := Aside0.mk hc1
  clear hr1 hc1
  have H : ((expr_Arity.f k a0).bind fun bt159 => (if bt159.2 = 0 then (if bt159.1 = 0 then (arith_Apply.j0 k a0 l1 true) else (arith_Apply.j0 k a0 l1 (bt159.1 != (l1.length : Int)))) else (arith_Apply.j0 k a0 l1 true))) = some (r1, r2) := h
  clear h
  replace H := Option.bind_eq_some_iff.mp H
  obtain ⟨⟨t159, t160⟩, A30, H⟩ := H
  replace H : (if t160 = 0 then (if t159 = 0 then (arith_Apply.j0 k a0 l1 true) else (arith_Apply.j0 k a0 l1 (t159 != (l1.length : Int)))) else (arith_Apply.j0 k a0 l1 true)) = some (r1, r2) := H
  have A3 := Aside0.mk A30
  clear A30
  have HC4 := Aside0.mk H
  clear H
  go_enter Tryd.func53, Tryd.ntmps53
  go_upto_region 2 with (first | (go_at_call 23; (with_reducible refine (expr_Arity.calls k a0 t159 t160 _ A3.out).mono ?_); rintro e w' ⟨rfl, ⟨nd, rfl⟩⟩; (try first | exact ⟨rfl, _, World.drewN_drewN _ _ _⟩ | exact ⟨rfl, _, Eq.trans (World.drewN_drewN _ _ _) (congrArg (World.drewN _) (Nat.add_assoc _ _ _))⟩)))
  repeat (go_quiet (first | (go_at_call 23; (with_reducible refine (expr_Arity.calls k a0 t159 t160 _ A3.out).mono ?_); rintro e w' ⟨rfl, ⟨nd, rfl⟩⟩; (try first | exact ⟨rfl, _, World.drewN_drewN _ _ _⟩ | exact ⟨rfl, _, Eq.trans (World.drewN_drewN _ _ _) (congrArg (World.drewN _) (Nat.add_assoc _ _ _))⟩))); go_upto_region 2 with (first | (go_at_call 23; (with_reducible refine (expr_Arity.calls k a0 t159 t160 _ A3.out).mono ?_); rintro e w' ⟨rfl, ⟨nd, rfl⟩⟩; (try first | exact ⟨rfl, _, World.drewN_drewN _ _ _⟩ | exact ⟨rfl, _, Eq.trans (World.drewN_drewN _ _ _) (congrArg (World.drewN _) (Nat.add_assoc _ _ _))⟩))))
  (try simp only [Act.put, List.setIfInBounds_toArray, List.set_cons_zero, List.set_cons_succ])
  go_cut [24] (fun v24 wc => ∃ (kq : Nat) (x24_3 : Bool), v24 = .bool x24_3 ∧ Aside0 (arith_Apply.j0 kq a0 l1 x24_3 = some (r1, r2)) ∧ Aside0 (kq ≤ k) ∧ Drawn0 w wc)
  case first =>
    have H := HC4.out
    clear HC4
    by_cases c5 : t160 = 0
    · rw [if_pos c5] at H
      have c5b0 : (t160 == 0) = true := beq_iff_eq.mpr c5
      have c5b1 : (t160 != 0) = false := bne_eq_false_iff_eq.mpr c5
      clear c5
      (first | rw [c5b0] | (simp only [i64_w, i32_w]; rw [c5b0]) | skip)
      by_cases c6 : t159 = 0
      · rw [if_pos c6] at H
        have c6b0 : (t159 == 0) = true := beq_iff_eq.mpr c6
        have c6b1 : (t159 != 0) = false := bne_eq_false_iff_eq.mpr c6
        clear c6
        have H' := Aside0.mk H
        clear H
        go_wp2
        repeat (go_quiet (fail); try go_wp2)
        go_meet
        case rel => exact ⟨_, (true), (by first | rfl | (simp; done) | (simp [*]; done)), H', ⟨by first | omega | exact Nat.le_refl _⟩, by repeat (first | exact Drawn0.refl _ | apply Drawn0.step)⟩
      · rw [if_neg c6] at H
        have c6b0 : (t159 == 0) = false := beq_eq_false_iff_ne.mpr c6
        have c6b1 : (t159 != 0) = true := bne_iff_ne.mpr c6
        have H' := Aside0.mk H
        clear H
        go_wp2
        repeat (go_quiet (fail); try go_wp2)
        go_meet
        case rel => exact ⟨_, ((t159 != (l1.length : Int))), (by first | rfl | (simp; done) | (simp [*]; done)), H', ⟨by first | omega | exact Nat.le_refl _⟩, by repeat (first | exact Drawn0.refl _ | apply Drawn0.step)⟩
    · rw [if_neg c5] at H
      have c5b0 : (t160 == 0) = false := beq_eq_false_iff_ne.mpr c5
      have c5b1 : (t160 != 0) = true := bne_iff_ne.mpr c5
      (first | rw [c5b0] | (simp only [i64_w, i32_w]; rw [c5b0]) | skip)
      have H' := Aside0.mk H
      clear H
      go_wp2
      repeat (go_quiet (fail); try go_wp2)
      go_meet
      case rel => exact ⟨_, (true), (by first | rfl | (simp; done) | (simp [*]; done)), H', ⟨by first | omega | exact Nat.le_refl _⟩, by repeat (first | exact Drawn0.refl _ | apply Drawn0.step)⟩
  case rest =>
    clear HC4
    try clear c1
    try clear p2
    try clear c5
    try clear c5b0
    try clear c5b1
    try clear c6
    try clear c6b0
    try clear c6b1
    obtain ⟨kq, x24_3, rfl, HA, HJ3, ⟨mc3, rfl⟩⟩ := hcut
    cases kq with
    | zero => exact absurd HA.out (by simp [arith_Apply.j0])
    | succ kj3 =>
      have H := HA.out
      clear HA
      simp only [arith_Apply.j0] at H
      by_cases c7 : x24_3 = true
      · subst c7
        have H1 : (some (0, 2)) = some (r1, r2) := by rw [if_pos rfl] at H; exact H
        clear H
        have H := H1
        clear H1
        simp only [Option.some.injEq, Prod.mk.injEq] at H
        obtain ⟨rfl, rfl⟩ := H
        go_wp2
        repeat (go_quiet (fail); try go_wp2)
        go_ret2
        exact ⟨by first | rfl | (simp; done) | (simp [*]; done), by repeat (first | exact Drawn0.refl _ | apply Drawn0.step)⟩
      · replace c7 := Bool.eq_false_iff.mpr c7
        subst c7
        have H1 : (if a0 = 3 then (if 0 < (l1.length : Int) then (some (wrap64 (-(rd l1 0)), 0)) else (none)) else (if a0 = 4 then (if 0 < (l1.length : Int) then (some (Go.bits .xor .i64 (-1) (rd l1 0), 0)) else (none)) else (if a0 = 17 then (if 0 < (l1.length : Int) then (arith_Apply.j1 kj3 a0 l1 ((rd l1 0) != 0)) else (none)) else (arith_Apply.j1 kj3 a0 l1 false)))) = some (r1, r2) := by rw [if_neg (show ¬ (false = true) by decide)] at H; exact H
        clear H
        have H := H1
        clear H1
        by_cases c8 : a0 = 3
        · rw [if_pos c8] at H
          have c8b0 : (a0 == 3) = true := beq_iff_eq.mpr c8
          have c8b1 : (a0 != 3) = false := bne_eq_false_iff_eq.mpr c8
          clear c8
          by_cases c9 : 0 < (l1.length : Int)
          · rw [if_pos c9] at H
            have c9b0 : decide (0 < (l1.length : Int)) = true := decide_eq_true c9
            have c9b1 : decide (0 < l1.length) = true := decide_eq_true (by omega)
            clear c9
            simp only [Option.some.injEq, Prod.mk.injEq] at H
            obtain ⟨rfl, rfl⟩ := H
            have p161 : 0 ≤ (0 : Int) := (by omega)
            have q161 : 0 < (l1.length : Int) := of_decide_eq_true (by first | (with_reducible assumption) | assumption)
            obtain ⟨ad161, e161, hx161_0⟩ := Kd.at_int HR1.out 0 p161 q161
            cases e161
            have qi161 : (0 < l1.length) = True := eq_true (by omega)
            (try rw [show ((0 : Int)).toNat = 0 from rfl] at hx161_0)
            (try rw [Addr.add_zero'] at hx161_0)
            replace p161 := eq_true p161
            replace q161 := eq_true q161
            go_wp2
            repeat (go_quiet (fail); try go_wp2)
            go_ret2
            exact ⟨by first | rfl | (simp; done) | (simp [*]; done), by repeat (first | exact Drawn0.refl _ | apply Drawn0.step)⟩
          · rw [if_neg c9] at H
            exact absurd H (by simp)
        · rw [if_neg c8] at H
          have c8b0 : (a0 == 3) = false := beq_eq_false_iff_ne.mpr c8
          have c8b1 : (a0 != 3) = true := bne_iff_ne.mpr c8
          by_cases c10 : a0 = 4
          · rw [if_pos c10] at H
            have c10b0 : (a0 == 4) = true := beq_iff_eq.mpr c10
            have c10b1 : (a0 != 4) = false := bne_eq_false_iff_eq.mpr c10
            clear c10
            by_cases c11 : 0 < (l1.length : Int)
            · rw [if_pos c11] at H
              have c11b0 : decide (0 < (l1.length : Int)) = true := decide_eq_true c11
              have c11b1 : decide (0 < l1.length) = true := decide_eq_true (by omega)
              clear c11
              simp only [Option.some.injEq, Prod.mk.injEq] at H
              obtain ⟨rfl, rfl⟩ := H
              have p162 : 0 ≤ (0 : Int) := (by omega)
              have q162 : 0 < (l1.length : Int) := of_decide_eq_true (by first | (with_reducible assumption) | assumption)
              obtain ⟨ad162, e162, hx162_0⟩ := Kd.at_int HR1.out 0 p162 q162
              cases e162
              have qi162 : (0 < l1.length) = True := eq_true (by omega)
              (try rw [show ((0 : Int)).toNat = 0 from rfl] at hx162_0)
              (try rw [Addr.add_zero'] at hx162_0)
              replace p162 := eq_true p162
              replace q162 := eq_true q162
              go_wp2
              repeat (go_quiet (fail); try go_wp2)
              go_ret2
              exact ⟨by first | rfl | (simp; done) | (simp [*]; done), by repeat (first | exact Drawn0.refl _ | apply Drawn0.step)⟩
            · rw [if_neg c11] at H
              exact absurd H (by simp)
          · rw [if_neg c10] at H
            have c10b0 : (a0 == 4) = false := beq_eq_false_iff_ne.mpr c10
            have c10b1 : (a0 != 4) = true := bne_iff_ne.mpr c10
            have HC12 := Aside0.mk H
            clear H
            go_upto_region 8 with (fail)
            repeat (go_quiet (fail); go_upto_region 8 with (fail))
            go_cut [39] (fun v39 wc => ∃ (kq : Nat) (x39_11 : Bool), v39 = .bool x39_11 ∧ Aside0 (arith_Apply.j1 kq a0 l1 x39_11 = some (r1, r2)) ∧ Aside0 (kq ≤ kj3) ∧ Drawn0 w wc)
            case first =>
              have H := HC12.out
              clear HC12
              by_cases c13 : a0 = 17
              · rw [if_pos c13] at H
                have c13b0 : (a0 == 17) = true := beq_iff_eq.mpr c13
                have c13b1 : (a0 != 17) = false := bne_eq_false_iff_eq.mpr c13
                clear c13
                (first | rw [c13b0] | (simp only [i64_w, i32_w]; rw [c13b0]) | skip)
                by_cases c14 : 0 < (l1.length : Int)
                · rw [if_pos c14] at H
                  have c14b0 : decide (0 < (l1.length : Int)) = true := decide_eq_true c14
                  have c14b1 : decide (0 < l1.length) = true := decide_eq_true (by omega)
                  clear c14
                  have H' := Aside0.mk H
                  clear H
                  have p163 : 0 ≤ (0 : Int) := (by omega)
                  have q163 : 0 < (l1.length : Int) := of_decide_eq_true (by first | (with_reducible assumption) | assumption)
                  obtain ⟨ad163, e163, hx163_0⟩ := Kd.at_int HR1.out 0 p163 q163
                  cases e163
                  have qi163 : (0 < l1.length) = True := eq_true (by omega)
                  (try rw [show ((0 : Int)).toNat = 0 from rfl] at hx163_0)
                  (try rw [Addr.add_zero'] at hx163_0)
                  replace p163 := eq_true p163
                  replace q163 := eq_true q163
                  go_wp2
                  repeat (go_quiet (fail); try go_wp2)
                  go_meet
                  case rel => exact ⟨_, (((rd l1 0) != 0)), (by first | rfl | (simp; done) | (simp [*]; done)), H', ⟨by have := HJ3.out; first | omega | exact Nat.le_refl _⟩, by repeat (first | exact Drawn0.refl _ | apply Drawn0.step)⟩
                · rw [if_neg c14] at H
                  exact absurd H (by simp)
              · rw [if_neg c13] at H
                have c13b0 : (a0 == 17) = false := beq_eq_false_iff_ne.mpr c13
                have c13b1 : (a0 != 17) = true := bne_iff_ne.mpr c13
                (first | rw [c13b0] | (simp only [i64_w, i32_w]; rw [c13b0]) | skip)
                have H' := Aside0.mk H
                clear H
                go_wp2
                repeat (go_quiet (fail); try go_wp2)
                go_meet
                case rel => exact ⟨_, (false), (by first | rfl | (simp; done) | (simp [*]; done)), H', ⟨by have := HJ3.out; first | omega | exact Nat.le_refl _⟩, by repeat (first | exact Drawn0.refl _ | apply Drawn0.step)⟩
            case rest =>
              clear HC12
              try clear c1
              try clear p1
              try clear q1
              try clear hx1
              try clear qi1
              try clear p2
              try clear c3
              try clear c5
              try clear c5b0
              try clear c5b1
              try clear c6
              try clear c6b0
              try clear c6b1
              try clear p6
              try clear c7
              try clear c8
              try clear c8b0
              try clear c8b1
              try clear c9
              try clear c9b0
              try clear c9b1
              try clear c10
              try clear c10b0
              try clear c10b1
              try clear c11
              try clear c11b0
              try clear c11b1
              try clear c13
              try clear c13b0
              try clear c13b1
              try clear c14
              try clear c14b0
              try clear c14b1
              try clear hx161_0
              try clear hx162_0
              try clear hx163_0
              try clear p161
              try clear p162
              try clear p163
              try clear p2
              try clear q161
              try clear q162
              try clear q163
              obtain ⟨kq, x39_11, rfl, HA, HJ11, ⟨mc11, rfl⟩⟩ := hcut
              cases kq with
              | zero => exact absurd HA.out (by simp [arith_Apply.j1])
              | succ kj11 =>
                have H := HA.out
                clear HA
                simp only [arith_Apply.j1] at H
                by_cases c15 : x39_11 = true
                · subst c15
                  have H1 : (if 1 < (l1.length : Int) then (some (rd l1 1, 0)) else (none)) = some (r1, r2) := by rw [if_pos rfl] at H; exact H
                  clear H
                  have H := H1
                  clear H1
                  by_cases c16 : 1 < (l1.length : Int)
                  · rw [if_pos c16] at H
                    have c16b0 : decide (1 < (l1.length : Int)) = true := decide_eq_true c16
                    have c16b1 : decide (1 < l1.length) = true := decide_eq_true (by omega)
                    clear c16
                    simp only [Option.some.injEq, Prod.mk.injEq] at H
                    obtain ⟨rfl, rfl⟩ := H
                    have p164 : 0 ≤ (1 : Int) := (by omega)
                    have q164 : 1 < (l1.length : Int) := of_decide_eq_true (by first | (with_reducible assumption) | assumption)
                    obtain ⟨ad164, e164, hx164_0⟩ := Kd.at_int HR1.out 1 p164 q164
                    cases e164
                    (try simp only [show (1 : Int).toNat = 1 from rfl, Nat.reduceMul, Nat.reduceEqDiff, Go.Addr.add, ↓reduceIte] at hx164_0)
                    have qi164 : (1 < l1.length) = True := eq_true (by omega)
                    (try rw [show ((1 : Int)).toNat = 1 from rfl] at hx164_0)
                    replace p164 := eq_true p164
                    replace q164 := eq_true q164
                    go_wp2
                    repeat (go_quiet (fail); try go_wp2)
                    go_ret2
                    exact ⟨by first | rfl | (simp; done) | (simp [*]; done), by repeat (first | exact Drawn0.refl _ | apply Drawn0.step)⟩
                  · rw [if_neg c16] at H
                    exact absurd H (by simp)
                · replace c15 := Bool.eq_false_iff.mpr c15
                  subst c15
                  have H1 : (if a0 = 17 then (if 2 < (l1.length : Int) then (some (rd l1 2, 0)) else (none)) else ((arith_group.f kj11 a0).bind fun t166 => (if t166 = 1 then (if 1 < (l1.length : Int) then (if (rd l1 1) = 0 then (some (0, 12)) else (if 0 < (l1.length : Int) then ((arith_two.f a0 (rd l1 0) (rd l1 1)).bind fun t170 => (some (t170, 0))) else (none))) else (none)) else (if 0 < (l1.length : Int) then (if 1 < (l1.length : Int) then ((arith_two.f a0 (rd l1 0) (rd l1 1)).bind fun t173 => (some (t173, 0))) else (none)) else (none))))) = some (r1, r2) := by rw [if_neg (show ¬ (false = true) by decide)] at H; exact H
                  clear H
                  have H := H1
                  clear H1
                  by_cases c17 : a0 = 17
                  · rw [if_pos c17] at H
                    have c17b0 : (a0 == 17) = true := beq_iff_eq.mpr c17
                    have c17b1 : (a0 != 17) = false := bne_eq_false_iff_eq.mpr c17
                    clear c17
                    by_cases c18 : 2 < (l1.length : Int)
                    · rw [if_pos c18] at H
                      have c18b0 : decide (2 < (l1.length : Int)) = true := decide_eq_true c18
                      have c18b1 : decide (2 < l1.length) = true := decide_eq_true (by omega)
                      clear c18
                      simp only [Option.some.injEq, Prod.mk.injEq] at H
                      obtain ⟨rfl, rfl⟩ := H
                      have p165 : 0 ≤ (2 : Int) := (by omega)
                      have q165 : 2 < (l1.length : Int) := of_decide_eq_true (by first | (with_reducible assumption) | assumption)
                      obtain ⟨ad165, e165, hx165_0⟩ := Kd.at_int HR1.out 2 p165 q165
                      cases e165
                      (try simp only [show (2 : Int).toNat = 2 from rfl, Nat.reduceMul, Nat.reduceEqDiff, Go.Addr.add, ↓reduceIte] at hx165_0)
                      have qi165 : (2 < l1.length) = True := eq_true (by omega)
                      (try rw [show ((2 : Int)).toNat = 2 from rfl] at hx165_0)
                      replace p165 := eq_true p165
                      replace q165 := eq_true q165
                      go_wp2
                      repeat (go_quiet (fail); try go_wp2)
                      go_ret2
                      exact ⟨by first | rfl | (simp; done) | (simp [*]; done), by repeat (first | exact Drawn0.refl _ | apply Drawn0.step)⟩
                    · rw [if_neg c18] at H
                      exact absurd H (by simp)
                  · rw [if_neg c17] at H
                    have c17b0 : (a0 == 17) = false := beq_eq_false_iff_ne.mpr c17
                    have c17b1 : (a0 != 17) = true := bne_iff_ne.mpr c17
                    replace H := Option.bind_eq_some_iff.mp H
                    obtain ⟨t166, A190, H⟩ := H
                    replace H : (if t166 = 1 then (if 1 < (l1.length : Int) then (if (rd l1 1) = 0 then (some (0, 12)) else (if 0 < (l1.length : Int) then ((arith_two.f a0 (rd l1 0) (rd l1 1)).bind fun t170 => (some (t170, 0))) else (none))) else (none)) else (if 0 < (l1.length : Int) then (if 1 < (l1.length : Int) then ((arith_two.f a0 (rd l1 0) (rd l1 1)).bind fun t173 => (some (t173, 0))) else (none)) else (none))) = some (r1, r2) := H
                    have A19 := Aside0.mk A190
                    clear A190
                    by_cases c20 : t166 = 1
                    · rw [if_pos c20] at H
                      have c20b0 : (t166 == 1) = true := beq_iff_eq.mpr c20
                      have c20b1 : (t166 != 1) = false := bne_eq_false_iff_eq.mpr c20
                      clear c20
                      by_cases c21 : 1 < (l1.length : Int)
                      · rw [if_pos c21] at H
                        have c21b0 : decide (1 < (l1.length : Int)) = true := decide_eq_true c21
                        have c21b1 : decide (1 < l1.length) = true := decide_eq_true (by omega)
                        clear c21
                        by_cases c22 : (rd l1 1) = 0
                        · rw [if_pos c22] at H
                          have c22b0 : ((rd l1 1) == 0) = true := beq_iff_eq.mpr c22
                          have c22b1 : ((rd l1 1) != 0) = false := bne_eq_false_iff_eq.mpr c22
                          clear c22
                          simp only [Option.some.injEq, Prod.mk.injEq] at H
                          obtain ⟨rfl, rfl⟩ := H
                          go_wp2_with (first | (go_at_call 100; (with_reducible refine (arith_group.calls kj11 a0 t166 _ A19.out).mono ?_); rintro e w' ⟨rfl, ⟨nd, rfl⟩⟩; (try first | exact ⟨rfl, _, World.drewN_drewN _ _ _⟩ | exact ⟨rfl, _, Eq.trans (World.drewN_drewN _ _ _) (congrArg (World.drewN _) (Nat.add_assoc _ _ _))⟩); have p167 : 0 ≤ (1 : Int) := (by omega); have q167 : 1 < (l1.length : Int) := of_decide_eq_true (by first | (with_reducible assumption) | assumption); obtain ⟨ad167, e167, hx167_0⟩ := Kd.at_int HR1.out 1 p167 q167; cases e167; (try simp only [show (1 : Int).toNat = 1 from rfl, Nat.reduceMul, Nat.reduceEqDiff, Go.Addr.add, ↓reduceIte] at hx167_0); have qi167 : (1 < l1.length) = True := eq_true (by omega); (try rw [show ((1 : Int)).toNat = 1 from rfl] at hx167_0); replace p167 := eq_true p167; replace q167 := eq_true q167))
                          repeat (go_quiet (first | (go_at_call 100; (with_reducible refine (arith_group.calls kj11 a0 t166 _ A19.out).mono ?_); rintro e w' ⟨rfl, ⟨nd, rfl⟩⟩; (try first | exact ⟨rfl, _, World.drewN_drewN _ _ _⟩ | exact ⟨rfl, _, Eq.trans (World.drewN_drewN _ _ _) (congrArg (World.drewN _) (Nat.add_assoc _ _ _))⟩); have p167 : 0 ≤ (1 : Int) := (by omega); have q167 : 1 < (l1.length : Int) := of_decide_eq_true (by first | (with_reducible assumption) | assumption); obtain ⟨ad167, e167, hx167_0⟩ := Kd.at_int HR1.out 1 p167 q167; cases e167; (try simp only [show (1 : Int).toNat = 1 from rfl, Nat.reduceMul, Nat.reduceEqDiff, Go.Addr.add, ↓reduceIte] at hx167_0); have qi167 : (1 < l1.length) = True := eq_true (by omega); (try rw [show ((1 : Int)).toNat = 1 from rfl] at hx167_0); replace p167 := eq_true p167; replace q167 := eq_true q167)); try go_wp2_with (first | (go_at_call 100; (with_reducible refine (arith_group.calls kj11 a0 t166 _ A19.out).mono ?_); rintro e w' ⟨rfl, ⟨nd, rfl⟩⟩; (try first | exact ⟨rfl, _, World.drewN_drewN _ _ _⟩ | exact ⟨rfl, _, Eq.trans (World.drewN_drewN _ _ _) (congrArg (World.drewN _) (Nat.add_assoc _ _ _))⟩); have p167 : 0 ≤ (1 : Int) := (by omega); have q167 : 1 < (l1.length : Int) := of_decide_eq_true (by first | (with_reducible assumption) | assumption); obtain ⟨ad167, e167, hx167_0⟩ := Kd.at_int HR1.out 1 p167 q167; cases e167; (try simp only [show (1 : Int).toNat = 1 from rfl, Nat.reduceMul, Nat.reduceEqDiff, Go.Addr.add, ↓reduceIte] at hx167_0); have qi167 : (1 < l1.length) = True := eq_true (by omega); (try rw [show ((1 : Int)).toNat = 1 from rfl] at hx167_0); replace p167 := eq_true p167; replace q167 := eq_true q167)))
                          go_ret2
                          exact ⟨by first | rfl | (simp; done) | (simp [*]; done), by repeat (first | exact Drawn0.refl _ | apply Drawn0.step)⟩
                        · rw [if_neg c22] at H
                          have c22b0 : ((rd l1 1) == 0) = false := beq_eq_false_iff_ne.mpr c22
                          have c22b1 : ((rd l1 1) != 0) = true := bne_iff_ne.mpr c22
                          by_cases c23 : 0 < (l1.length : Int)
                          · rw [if_pos c23] at H
                            have c23b0 : decide (0 < (l1.length : Int)) = true := decide_eq_true c23
                            have c23b1 : decide (0 < l1.length) = true := decide_eq_true (by omega)
                            clear c23
                            replace H := Option.bind_eq_some_iff.mp H
                            obtain ⟨t170, A240, H⟩ := H
                            replace H : (some (t170, 0)) = some (r1, r2) := H
                            have A24 := Aside0.mk A240
                            clear A240
                            simp only [Option.some.injEq, Prod.mk.injEq] at H
                            obtain ⟨rfl, rfl⟩ := H
                            go_wp2_with (first | (go_at_call 100; (with_reducible refine (arith_group.calls kj11 a0 t166 _ A19.out).mono ?_); rintro e w' ⟨rfl, ⟨nd, rfl⟩⟩; (try first | exact ⟨rfl, _, World.drewN_drewN _ _ _⟩ | exact ⟨rfl, _, Eq.trans (World.drewN_drewN _ _ _) (congrArg (World.drewN _) (Nat.add_assoc _ _ _))⟩); have p167 : 0 ≤ (1 : Int) := (by omega); have q167 : 1 < (l1.length : Int) := of_decide_eq_true (by first | (with_reducible assumption) | assumption); obtain ⟨ad167, e167, hx167_0⟩ := Kd.at_int HR1.out 1 p167 q167; cases e167; (try simp only [show (1 : Int).toNat = 1 from rfl, Nat.reduceMul, Nat.reduceEqDiff, Go.Addr.add, ↓reduceIte] at hx167_0); have qi167 : (1 < l1.length) = True := eq_true (by omega); (try rw [show ((1 : Int)).toNat = 1 from rfl] at hx167_0); replace p167 := eq_true p167; replace q167 := eq_true q167; have p168 : 0 ≤ (0 : Int) := (by omega); have q168 : 0 < (l1.length : Int) := of_decide_eq_true (by first | (with_reducible assumption) | assumption); obtain ⟨ad168, e168, hx168_0⟩ := Kd.at_int HR1.out 0 p168 q168; obtain rfl : ad167 = ad168 := (by injection e168); have qi168 : (0 < l1.length) = True := eq_true (by omega); (try rw [show ((0 : Int)).toNat = 0 from rfl] at hx168_0); (try rw [Addr.add_zero'] at hx168_0); replace p168 := eq_true p168; replace q168 := eq_true q168; have p169 : 0 ≤ (1 : Int) := (by omega); have q169 : 1 < (l1.length : Int) := of_decide_eq_true (by first | (with_reducible assumption) | assumption); obtain ⟨ad169, e169, hx169_0⟩ := Kd.at_int HR1.out 1 p169 q169; obtain rfl : ad167 = ad169 := (by injection e169); (try simp only [show (1 : Int).toNat = 1 from rfl, Nat.reduceMul, Nat.reduceEqDiff, Go.Addr.add, ↓reduceIte] at hx169_0); have qi169 : (1 < l1.length) = True := eq_true (by omega); (try rw [show ((1 : Int)).toNat = 1 from rfl] at hx169_0); replace p169 := eq_true p169; replace q169 := eq_true q169) | (go_at_call 101; (with_reducible refine (arith_two.calls a0 (rd l1 0) (rd l1 1) t170 _ A24.out).mono ?_); rintro e w' ⟨rfl, ⟨nd, rfl⟩⟩; (try first | exact ⟨rfl, _, World.drewN_drewN _ _ _⟩ | exact ⟨rfl, _, Eq.trans (World.drewN_drewN _ _ _) (congrArg (World.drewN _) (Nat.add_assoc _ _ _))⟩)))
                            repeat (go_quiet (first | (go_at_call 100; (with_reducible refine (arith_group.calls kj11 a0 t166 _ A19.out).mono ?_); rintro e w' ⟨rfl, ⟨nd, rfl⟩⟩; (try first | exact ⟨rfl, _, World.drewN_drewN _ _ _⟩ | exact ⟨rfl, _, Eq.trans (World.drewN_drewN _ _ _) (congrArg (World.drewN _) (Nat.add_assoc _ _ _))⟩); have p167 : 0 ≤ (1 : Int) := (by omega); have q167 : 1 < (l1.length : Int) := of_decide_eq_true (by first | (with_reducible assumption) | assumption); obtain ⟨ad167, e167, hx167_0⟩ := Kd.at_int HR1.out 1 p167 q167; cases e167; (try simp only [show (1 : Int).toNat = 1 from rfl, Nat.reduceMul, Nat.reduceEqDiff, Go.Addr.add, ↓reduceIte] at hx167_0); have qi167 : (1 < l1.length) = True := eq_true (by omega); (try rw [show ((1 : Int)).toNat = 1 from rfl] at hx167_0); replace p167 := eq_true p167; replace q167 := eq_true q167; have p168 : 0 ≤ (0 : Int) := (by omega); have q168 : 0 < (l1.length : Int) := of_decide_eq_true (by first | (with_reducible assumption) | assumption); obtain ⟨ad168, e168, hx168_0⟩ := Kd.at_int HR1.out 0 p168 q168; obtain rfl : ad167 = ad168 := (by injection e168); have qi168 : (0 < l1.length) = True := eq_true (by omega); (try rw [show ((0 : Int)).toNat = 0 from rfl] at hx168_0); (try rw [Addr.add_zero'] at hx168_0); replace p168 := eq_true p168; replace q168 := eq_true q168; have p169 : 0 ≤ (1 : Int) := (by omega); have q169 : 1 < (l1.length : Int) := of_decide_eq_true (by first | (with_reducible assumption) | assumption); obtain ⟨ad169, e169, hx169_0⟩ := Kd.at_int HR1.out 1 p169 q169; obtain rfl : ad167 = ad169 := (by injection e169); (try simp only [show (1 : Int).toNat = 1 from rfl, Nat.reduceMul, Nat.reduceEqDiff, Go.Addr.add, ↓reduceIte] at hx169_0); have qi169 : (1 < l1.length) = True := eq_true (by omega); (try rw [show ((1 : Int)).toNat = 1 from rfl] at hx169_0); replace p169 := eq_true p169; replace q169 := eq_true q169) | (go_at_call 101; (with_reducible refine (arith_two.calls a0 (rd l1 0) (rd l1 1) t170 _ A24.out).mono ?_); rintro e w' ⟨rfl, ⟨nd, rfl⟩⟩; (try first | exact ⟨rfl, _, World.drewN_drewN _ _ _⟩ | exact ⟨rfl, _, Eq.trans (World.drewN_drewN _ _ _) (congrArg (World.drewN _) (Nat.add_assoc _ _ _))⟩))); try go_wp2_with (first | (go_at_call 100; (with_reducible refine (arith_group.calls kj11 a0 t166 _ A19.out).mono ?_); rintro e w' ⟨rfl, ⟨nd, rfl⟩⟩; (try first | exact ⟨rfl, _, World.drewN_drewN _ _ _⟩ | exact ⟨rfl, _, Eq.trans (World.drewN_drewN _ _ _) (congrArg (World.drewN _) (Nat.add_assoc _ _ _))⟩); have p167 : 0 ≤ (1 : Int) := (by omega); have q167 : 1 < (l1.length : Int) := of_decide_eq_true (by first | (with_reducible assumption) | assumption); obtain ⟨ad167, e167, hx167_0⟩ := Kd.at_int HR1.out 1 p167 q167; cases e167; (try simp only [show (1 : Int).toNat = 1 from rfl, Nat.reduceMul, Nat.reduceEqDiff, Go.Addr.add, ↓reduceIte] at hx167_0); have qi167 : (1 < l1.length) = True := eq_true (by omega); (try rw [show ((1 : Int)).toNat = 1 from rfl] at hx167_0); replace p167 := eq_true p167; replace q167 := eq_true q167; have p168 : 0 ≤ (0 : Int) := (by omega); have q168 : 0 < (l1.length : Int) := of_decide_eq_true (by first | (with_reducible assumption) | assumption); obtain ⟨ad168, e168, hx168_0⟩ := Kd.at_int HR1.out 0 p168 q168; obtain rfl : ad167 = ad168 := (by injection e168); have qi168 : (0 < l1.length) = True := eq_true (by omega); (try rw [show ((0 : Int)).toNat = 0 from rfl] at hx168_0); (try rw [Addr.add_zero'] at hx168_0); replace p168 := eq_true p168; replace q168 := eq_true q168; have p169 : 0 ≤ (1 : Int) := (by omega); have q169 : 1 < (l1.length : Int) := of_decide_eq_true (by first | (with_reducible assumption) | assumption); obtain ⟨ad169, e169, hx169_0⟩ := Kd.at_int HR1.out 1 p169 q169; obtain rfl : ad167 = ad169 := (by injection e169); (try simp only [show (1 : Int).toNat = 1 from rfl, Nat.reduceMul, Nat.reduceEqDiff, Go.Addr.add, ↓reduceIte] at hx169_0); have qi169 : (1 < l1.length) = True := eq_true (by omega); (try rw [show ((1 : Int)).toNat = 1 from rfl] at hx169_0); replace p169 := eq_true p169; replace q169 := eq_true q169) | (go_at_call 101; (with_reducible refine (arith_two.calls a0 (rd l1 0) (rd l1 1) t170 _ A24.out).mono ?_); rintro e w' ⟨rfl, ⟨nd, rfl⟩⟩; (try first | exact ⟨rfl, _, World.drewN_drewN _ _ _⟩ | exact ⟨rfl, _, Eq.trans (World.drewN_drewN _ _ _) (congrArg (World.drewN _) (Nat.add_assoc _ _ _))⟩))))
                            go_ret2
                            exact ⟨by first | rfl | (simp; done) | (simp [*]; done), by repeat (first | exact Drawn0.refl _ | apply Drawn0.step)⟩
                          · rw [if_neg c23] at H
                            exact absurd H (by simp)
                      · rw [if_neg c21] at H
                        exact absurd H (by simp)
                    · rw [if_neg c20] at H
                      have c20b0 : (t166 == 1) = false := beq_eq_false_iff_ne.mpr c20
                      have c20b1 : (t166 != 1) = true := bne_iff_ne.mpr c20
                      by_cases c25 : 0 < (l1.length : Int)
                      · rw [if_pos c25] at H
                        have c25b0 : decide (0 < (l1.length : Int)) = true := decide_eq_true c25
                        have c25b1 : decide (0 < l1.length) = true := decide_eq_true (by omega)
                        clear c25
                        by_cases c26 : 1 < (l1.length : Int)
                        · rw [if_pos c26] at H
                          have c26b0 : decide (1 < (l1.length : Int)) = true := decide_eq_true c26
                          have c26b1 : decide (1 < l1.length) = true := decide_eq_true (by omega)
                          clear c26
                          replace H := Option.bind_eq_some_iff.mp H
                          obtain ⟨t173, A270, H⟩ := H
                          replace H : (some (t173, 0)) = some (r1, r2) := H
                          have A27 := Aside0.mk A270
                          clear A270
                          simp only [Option.some.injEq, Prod.mk.injEq] at H
                          obtain ⟨rfl, rfl⟩ := H
                          go_wp2_with (first | (go_at_call 100; (with_reducible refine (arith_group.calls kj11 a0 t166 _ A19.out).mono ?_); rintro e w' ⟨rfl, ⟨nd, rfl⟩⟩; (try first | exact ⟨rfl, _, World.drewN_drewN _ _ _⟩ | exact ⟨rfl, _, Eq.trans (World.drewN_drewN _ _ _) (congrArg (World.drewN _) (Nat.add_assoc _ _ _))⟩); have p171 : 0 ≤ (0 : Int) := (by omega); have q171 : 0 < (l1.length : Int) := of_decide_eq_true (by first | (with_reducible assumption) | assumption); obtain ⟨ad171, e171, hx171_0⟩ := Kd.at_int HR1.out 0 p171 q171; cases e171; have qi171 : (0 < l1.length) = True := eq_true (by omega); (try rw [show ((0 : Int)).toNat = 0 from rfl] at hx171_0); (try rw [Addr.add_zero'] at hx171_0); replace p171 := eq_true p171; replace q171 := eq_true q171; have p172 : 0 ≤ (1 : Int) := (by omega); have q172 : 1 < (l1.length : Int) := of_decide_eq_true (by first | (with_reducible assumption) | assumption); obtain ⟨ad172, e172, hx172_0⟩ := Kd.at_int HR1.out 1 p172 q172; obtain rfl : ad171 = ad172 := (by injection e172); (try simp only [show (1 : Int).toNat = 1 from rfl, Nat.reduceMul, Nat.reduceEqDiff, Go.Addr.add, ↓reduceIte] at hx172_0); have qi172 : (1 < l1.length) = True := eq_true (by omega); (try rw [show ((1 : Int)).toNat = 1 from rfl] at hx172_0); replace p172 := eq_true p172; replace q172 := eq_true q172) | (go_at_call 101; (with_reducible refine (arith_two.calls a0 (rd l1 0) (rd l1 1) t173 _ A27.out).mono ?_); rintro e w' ⟨rfl, ⟨nd, rfl⟩⟩; (try first | exact ⟨rfl, _, World.drewN_drewN _ _ _⟩ | exact ⟨rfl, _, Eq.trans (World.drewN_drewN _ _ _) (congrArg (World.drewN _) (Nat.add_assoc _ _ _))⟩)))
                          repeat (go_quiet (first | (go_at_call 100; (with_reducible refine (arith_group.calls kj11 a0 t166 _ A19.out).mono ?_); rintro e w' ⟨rfl, ⟨nd, rfl⟩⟩; (try first | exact ⟨rfl, _, World.drewN_drewN _ _ _⟩ | exact ⟨rfl, _, Eq.trans (World.drewN_drewN _ _ _) (congrArg (World.drewN _) (Nat.add_assoc _ _ _))⟩); have p171 : 0 ≤ (0 : Int) := (by omega); have q171 : 0 < (l1.length : Int) := of_decide_eq_true (by first | (with_reducible assumption) | assumption); obtain ⟨ad171, e171, hx171_0⟩ := Kd.at_int HR1.out 0 p171 q171; cases e171; have qi171 : (0 < l1.length) = True := eq_true (by omega); (try rw [show ((0 : Int)).toNat = 0 from rfl] at hx171_0); (try rw [Addr.add_zero'] at hx171_0); replace p171 := eq_true p171; replace q171 := eq_true q171; have p172 : 0 ≤ (1 : Int) := (by omega); have q172 : 1 < (l1.length : Int) := of_decide_eq_true (by first | (with_reducible assumption) | assumption); obtain ⟨ad172, e172, hx172_0⟩ := Kd.at_int HR1.out 1 p172 q172; obtain rfl : ad171 = ad172 := (by injection e172); (try simp only [show (1 : Int).toNat = 1 from rfl, Nat.reduceMul, Nat.reduceEqDiff, Go.Addr.add, ↓reduceIte] at hx172_0); have qi172 : (1 < l1.length) = True := eq_true (by omega); (try rw [show ((1 : Int)).toNat = 1 from rfl] at hx172_0); replace p172 := eq_true p172; replace q172 := eq_true q172) | (go_at_call 101; (with_reducible refine (arith_two.calls a0 (rd l1 0) (rd l1 1) t173 _ A27.out).mono ?_); rintro e w' ⟨rfl, ⟨nd, rfl⟩⟩; (try first | exact ⟨rfl, _, World.drewN_drewN _ _ _⟩ | exact ⟨rfl, _, Eq.trans (World.drewN_drewN _ _ _) (congrArg (World.drewN _) (Nat.add_assoc _ _ _))⟩))); try go_wp2_with (first | (go_at_call 100; (with_reducible refine (arith_group.calls kj11 a0 t166 _ A19.out).mono ?_); rintro e w' ⟨rfl, ⟨nd, rfl⟩⟩; (try first | exact ⟨rfl, _, World.drewN_drewN _ _ _⟩ | exact ⟨rfl, _, Eq.trans (World.drewN_drewN _ _ _) (congrArg (World.drewN _) (Nat.add_assoc _ _ _))⟩); have p171 : 0 ≤ (0 : Int) := (by omega); have q171 : 0 < (l1.length : Int) := of_decide_eq_true (by first | (with_reducible assumption) | assumption); obtain ⟨ad171, e171, hx171_0⟩ := Kd.at_int HR1.out 0 p171 q171; cases e171; have qi171 : (0 < l1.length) = True := eq_true (by omega); (try rw [show ((0 : Int)).toNat = 0 from rfl] at hx171_0); (try rw [Addr.add_zero'] at hx171_0); replace p171 := eq_true p171; replace q171 := eq_true q171; have p172 : 0 ≤ (1 : Int) := (by omega); have q172 : 1 < (l1.length : Int) := of_decide_eq_true (by first | (with_reducible assumption) | assumption); obtain ⟨ad172, e172, hx172_0⟩ := Kd.at_int HR1.out 1 p172 q172; obtain rfl : ad171 = ad172 := (by injection e172); (try simp only [show (1 : Int).toNat = 1 from rfl, Nat.reduceMul, Nat.reduceEqDiff, Go.Addr.add, ↓reduceIte] at hx172_0); have qi172 : (1 < l1.length) = True := eq_true (by omega); (try rw [show ((1 : Int)).toNat = 1 from rfl] at hx172_0); replace p172 := eq_true p172; replace q172 := eq_true q172) | (go_at_call 101; (with_reducible refine (arith_two.calls a0 (rd l1 0) (rd l1 1) t173 _ A27.out).mono ?_); rintro e w' ⟨rfl, ⟨nd, rfl⟩⟩; (try first | exact ⟨rfl, _, World.drewN_drewN _ _ _⟩ | exact ⟨rfl, _, Eq.trans (World.drewN_drewN _ _ _) (congrArg (World.drewN _) (Nat.add_assoc _ _ _))⟩))))
                          go_ret2
                          exact ⟨by first | rfl | (simp; done) | (simp [*]; done), by repeat (first | exact Drawn0.refl _ | apply Drawn0.step)⟩
                        · rw [if_neg c26] at H
                          exact absurd H (by simp)
                      · rw [if_neg c25] at H
                        exact absurd H (by simp)

/-! ### eval_values: function 96 -/
mutual
def eval_values.l0 : Nat → List (S70) → List Int → List (S45) → Int → Int → Option (List Int)
  | 0, _, _, _, _, _ => none
  | k + 1, x1, x5, x13, x14, x15 => if x15 < x14 then (if 0 ≤ x15 then (if x15 < (x13.length : Int) then (eval_values.l1 k x1 x5 ([] : List Int) x13 x14 x15 ((rd_T45 x13 x15).f3) (((rd_T45 x13 x15).f3).length : Int) 0 ((rd_T45 x13 x15).f0) ((rd_T45 x13 x15).f1) ((rd_T45 x13 x15).f2) ((rd_T45 x13 x15).f3)) else (none)) else (none)) else (some x5)
def eval_values.l1 : Nat → List (S70) → List Int → List Int → List (S45) → Int → Int → List Int → Int → Int → Int → Int → ByteArray → List Int → Option (List Int)
  | 0, _, _, _, _, _, _, _, _, _, _, _, _, _ => none
  | k + 1, x1, x5, x8, x13, x14, x15, x20, x21, x22, x176000, x176001, x176002, x176003 => if x22 < x21 then (if 0 ≤ x22 then (if x22 < (x20.length : Int) then (if 0 ≤ (rd x20 x22) then (if (rd x20 x22) < (x5.length : Int) then (if x8.length < 17592186044416 then (eval_values.l1 k x1 x5 (x8 ++ [rd x5 (rd x20 x22)]) x13 x14 x15 x20 x21 (wrap64 (x22 + 1)) x176000 x176001 x176002 x176003) else (none)) else (none)) else (none)) else (none)) else (none)) else (if x176000 = 1 then (if x5.length < 17592186044416 then (eval_values.l0 k x1 (x5 ++ [x176001]) x13 x14 (wrap64 (x15 + 1))) else (none)) else (if x176000 = 2 then ((env_Get.f k x1 x176002).bind fun t184 => (if x5.length < 17592186044416 then (eval_values.l0 k x1 (x5 ++ [t184]) x13 x14 (wrap64 (x15 + 1))) else (none))) else ((arith_Apply.f k x176000 x8).bind fun bt188 => (if bt188.2 = 0 then (if x5.length < 17592186044416 then (eval_values.l0 k x1 (x5 ++ [bt188.1]) x13 x14 (wrap64 (x15 + 1))) else (none)) else (some x5)))))
end
def eval_values.f (k : Nat) (l0 : List (S45)) (l1 : List (S70)) : Option (List Int) := eval_values.l0 k l1 ([] : List Int) l0 (l0.length : Int) 0
theorem eval_values.mono_l : ∀ k, (∀ y0 y1 y2 y3 y4, LeO (eval_values.l0 k y0 y1 y2 y3 y4) (eval_values.l0 (k + 1) y0 y1 y2 y3 y4)) ∧ (∀ y0 y1 y2 y3 y4 y5 y6 y7 y8 y9 y10 y11 y12, LeO (eval_values.l1 k y0 y1 y2 y3 y4 y5 y6 y7 y8 y9 y10 y11 y12) (eval_values.l1 (k + 1) y0 y1 y2 y3 y4 y5 y6 y7 y8 y9 y10 y11 y12))
  | 0 => ⟨fun _ _ _ _ _ r h => by simp [eval_values.l0] at h, fun _ _ _ _ _ _ _ _ _ _ _ _ _ r h => by simp [eval_values.l1] at h⟩
  | k + 1 => by
    obtain ⟨ih0, ih1⟩ := eval_values.mono_l k
    refine ⟨?_, ?_⟩
    · intro y0 y1 y2 y3 y4
      unfold eval_values.l0
      repeat' first
      | (with_reducible exact ih0 _ _ _ _ _)
      | (with_reducible exact ih1 _ _ _ _ _ _ _ _ _ _ _ _ _)
      | (with_reducible exact arith_Apply.mono _ _ _)
      | (with_reducible exact env_Get.mono _ _ _)
      | (with_reducible exact LeO.refl _)
      | (with_reducible exact LeO.none _)
      | (with_reducible refine LeO.ite ?_ ?_)
      | (with_reducible refine LeO.bind ?_ (fun _ => ?_))
      | exact ih0 _ _ _ _ _
      | exact ih1 _ _ _ _ _ _ _ _ _ _ _ _ _
      | exact arith_Apply.mono _ _ _
      | exact env_Get.mono _ _ _
      | exact LeO.none _
      | refine LeO.ite ?_ ?_
      | refine LeO.bind ?_ (fun _ => ?_)
    · intro y0 y1 y2 y3 y4 y5 y6 y7 y8 y9 y10 y11 y12
      unfold eval_values.l1
      repeat' first
      | (with_reducible exact ih0 _ _ _ _ _)
      | (with_reducible exact ih1 _ _ _ _ _ _ _ _ _ _ _ _ _)
      | (with_reducible exact arith_Apply.mono _ _ _)
      | (with_reducible exact env_Get.mono _ _ _)
      | (with_reducible exact LeO.refl _)
      | (with_reducible exact LeO.none _)
      | (with_reducible refine LeO.ite ?_ ?_)
      | (with_reducible refine LeO.bind ?_ (fun _ => ?_))
      | exact ih0 _ _ _ _ _
      | exact ih1 _ _ _ _ _ _ _ _ _ _ _ _ _
      | exact arith_Apply.mono _ _ _
      | exact env_Get.mono _ _ _
      | exact LeO.none _
      | refine LeO.ite ?_ ?_
      | refine LeO.bind ?_ (fun _ => ?_)
theorem eval_values.mono : ∀ a0 a1 k, LeO (eval_values.f k a0 a1) (eval_values.f (k + 1) a0 a1) := by
  intro a0 a1 k
  obtain ⟨ih0, ih1⟩ := eval_values.mono_l k
  unfold eval_values.f
  repeat' first
      | (with_reducible exact ih0 _ _ _ _ _)
      | (with_reducible exact ih1 _ _ _ _ _ _ _ _ _ _ _ _ _)
      | (with_reducible exact arith_Apply.mono _ _ _)
      | (with_reducible exact env_Get.mono _ _ _)
      | (with_reducible exact LeO.refl _)
      | (with_reducible exact LeO.none _)
      | (with_reducible refine LeO.ite ?_ ?_)
      | (with_reducible refine LeO.bind ?_ (fun _ => ?_))
      | exact ih0 _ _ _ _ _
      | exact ih1 _ _ _ _ _ _ _ _ _ _ _ _ _
      | exact arith_Apply.mono _ _ _
      | exact env_Get.mono _ _ _
      | exact LeO.none _
      | refine LeO.ite ?_ ?_
      | refine LeO.bind ?_ (fun _ => ?_)
set_option maxHeartbeats 8000000 in
set_option maxRecDepth 100000 in
theorem eval_values.calls (k : Nat) (A0 : Option Addr) (c0 : Nat) (l0 : List (S45)) (A1 : Option Addr) (c1 : Nat) (l1 : List (S70)) (r : List Int) (w : World) (hr0 : Kd.C k45 w A0 l0.length l0) (hc0 : l0.length ≤ c0) (hr1 : Kd.C k70 w A1 l1.length l1) (hc1 : l1.length ≤ c1) (h : eval_values.f k l0 l1 = some r) :
    Calls Tryd.prog 96 #[.slice A0 l0.length c0, .slice A1 l1.length c1] w fun e w' => ∃ v0_ : Value, e = .returned (v0_) ∧ Kd.R (Kd.int .i64) 2 w' w.heap.size (fun _ => True) v0_ r ∧ Below w.heap.size w w' := by
  have hu45 := Tryd.underlying45
  have HR0 := Aside0.mk hr0
  have HC0 := Aside0.mk hc0
  clear hr0 hc0
  have HR1 := Aside0.mk hr1
  have HC1 := Aside0.mk hc1
  clear hr1 hc1
  have HB := Aside0.mk (Below.refl w.heap.size w)
  have H : (eval_values.l0 k l1 ([] : List Int) l0 (l0.length : Int) 0) = some r := h
  clear h
  have H' := Aside0.mk H
  clear H
  go_enter Tryd.func96, Tryd.ntmps96
  go_wp2
  go_loopg [5, 15] k (fun kq v5 v15 w' => ∃ (x5_1 : List Int) (x15_1 : Int), v15 = .int .i64 x15_1 ∧ Aside0 (eval_values.l0 kq l1 x5_1 l0 (l0.length : Int) x15_1 = some r) ∧ Aside0 (kq ≤ k) ∧ Aside0 (Kd.R (Kd.int .i64) 2 w' w.heap.size (fun _ => True) v5 x5_1) ∧ Aside0 (Below w.heap.size w w'))
  case atStart => exact ⟨(([] : List Int)), (0), (by first | rfl | (simp; done) | (simp [*]; done)), H', ⟨Nat.le_refl _⟩, ⟨by first | exact Kd.R_nil _ _ _ _ _ | exact Kd.N_nil _ _ _ _ _ | exact Kd.V_nil _ _ _ _ _ | exact Kd.Q_nil _ _ _ _ _ | exact Kd.S_nil _ _ _ _ _⟩, ⟨by repeat (first | (with_reducible first | exact HB.out | apply below_alloc | apply pw_below_drewN | apply below_drew1) | exact HB.out)⟩⟩
  case round =>
    clear H'
    try clear c1
    try clear p2
    obtain ⟨x5_1, x15_1, rfl, HA, HK1, HO_5, HB⟩ := hrel
    cases gk with
    | zero => exact absurd HA.out (by simp [eval_values.l0])
    | succ k1 =>
      have H := HA.out
      clear HA
      simp only [eval_values.l0] at H
      by_cases c3 : x15_1 < (l0.length : Int)
      · rw [if_pos c3] at H
        have c3b0 : decide (x15_1 < (l0.length : Int)) = true := decide_eq_true c3
        clear c3
        by_cases c4 : 0 ≤ x15_1
        · rw [if_pos c4] at H
          have c4b0 : decide (0 ≤ x15_1) = true := decide_eq_true c4
          clear c4
          by_cases c5 : x15_1 < (l0.length : Int)
          · rw [if_pos c5] at H
            have c5b0 : decide (x15_1 < (l0.length : Int)) = true := decide_eq_true c5
            clear c5
            have H' := Aside0.mk H
            clear H
            have p174 : 0 ≤ (x15_1 : Int) := of_decide_eq_true (by first | (with_reducible assumption) | assumption)
            have q174 : x15_1 < (l0.length : Int) := of_decide_eq_true (by first | (with_reducible assumption) | assumption)
            obtain ⟨ad174, A174_3, c174_3, e174, hx174_0, hx174_1, hx174_2, hx174_3, hl174_3, hi174_3⟩ := at_T45 HR0.out x15_1 p174 q174
            cases e174
            replace hx174_0 := (HB.out.cell (World.block_lt_of_cell? w _ hx174_0)).trans hx174_0
            replace hx174_1 := (HB.out.cell (World.block_lt_of_cell? w _ hx174_1)).trans hx174_1
            replace hx174_2 := (HB.out.cell (World.block_lt_of_cell? w _ hx174_2)).trans hx174_2
            replace hx174_3 := (HB.out.cell (World.block_lt_of_cell? w _ hx174_3)).trans hx174_3
            have HR174_3 := Aside0.mk hi174_3
            have HC174_3 := Aside0.mk hl174_3
            clear hi174_3 hl174_3
            replace p174 := eq_true p174
            replace q174 := eq_true q174
            go_wp2_with (first | ((with_reducible refine gate_dst (N := 7) rfl ?_); refine box_event ?hg (N := 7) ?hd (cs := #[.int .i64 0, .int .i64 0, .string (⟨#[]⟩ : ByteArray), .slice none 0 0]) (t := 45) ?hr ?_; (case hd => rfl); (case hg => rfl); (case hr => first | (go_simp; done) | (go_simp; rfl)); intro gb175 hg w6 hbox hb; have n0_ := Aside0.mk (Kd.R_below (by (with_reducible repeat (first | apply Kd.R_alloc | apply Kd.R_drewN | apply Kd.R_drew)); exact HO_5.out) hb); have n1_ := Aside0.mk (below_step (by repeat (first | (with_reducible first | exact HB.out | apply below_alloc | apply pw_below_drewN | apply below_drew1) | exact HB.out)) hb); have n2_ := Aside0.mk (hbox); have n3_ := Aside0.mk ((by rw [hg]; exact (below_size (by repeat (first | (with_reducible first | exact HB.out | apply below_alloc | apply pw_below_drewN | apply below_drew1) | exact HB.out))) : w.heap.size ≤ gb175)); have n4_ := Aside0.mk ((by rw [hg]; exact (below_size (by repeat (first | (with_reducible first | exact HB.out | apply below_alloc | apply pw_below_drewN | apply below_drew1) | exact HB.out))) : w.heap.size ≤ gb175)); clear HO_5; clear HB; have HO_5 := n0_; have HB := n1_; have BK175 := n2_; have GW175 := n3_; have GE175 := n4_; clear n0_ n1_ n2_ n3_ n4_; clear hb hbox hg; have hcz7_0 : w6.cell? ⟨gb175, 0, none⟩ = some (.int .i64 0) := (blk_cell BK175.out 0).trans rfl; have hcz7_1 : w6.cell? ⟨gb175, 1, none⟩ = some (.int .i64 0) := (blk_cell BK175.out 1).trans rfl; have hcz7_2 : w6.cell? ⟨gb175, 2, none⟩ = some (.string (⟨#[]⟩ : ByteArray)) := (blk_cell BK175.out 2).trans rfl; have hcz7_3 : w6.cell? ⟨gb175, 3, none⟩ = some (.slice none 0 0) := (blk_cell BK175.out 3).trans rfl; have hfz7_0 := blk_frozen BK175.out 0; have hfz7_1 := blk_frozen BK175.out 1; have hfz7_2 := blk_frozen BK175.out 2; have hfz7_3 := blk_frozen BK175.out 3))
            go_loopg [8, 22] k1 (fun kq v8 v22 w' => ∃ (x8_2 : List Int) (x22_2 : Int), v22 = .int .i64 x22_2 ∧ Aside0 (eval_values.l1 kq l1 x5_1 x8_2 l0 (l0.length : Int) x15_1 ((rd_T45 l0 x15_1).f3) (((rd_T45 l0 x15_1).f3).length : Int) x22_2 ((rd_T45 l0 x15_1).f0) ((rd_T45 l0 x15_1).f1) ((rd_T45 l0 x15_1).f2) ((rd_T45 l0 x15_1).f3) = some r) ∧ Aside0 (kq ≤ k1) ∧ Aside0 (Kd.R (Kd.int .i64) 2 w' w.heap.size (fun k_ => some k_ ≠ (v8 : Value).ownBlock) u5 x5_1) ∧ Aside0 (Kd.R (Kd.int .i64) 2 w' w.heap.size (fun k_ => some k_ ≠ (u5 : Value).ownBlock) v8 x8_2) ∧ Aside0 (w'.heap[gb175]? = some (.cells #[.int .i64 ((rd_T45 l0 x15_1).f0), .int .i64 ((rd_T45 l0 x15_1).f1), .string ((rd_T45 l0 x15_1).f2), (.slice A174_3 ((rd_T45 l0 x15_1).f3).length c174_3)] 45 (0, 0))) ∧ Aside0 (Below w.heap.size w w'))
            case atStart => exact ⟨(([] : List Int)), (0), (by first | rfl | (simp; done) | (simp [*]; done)), H', ⟨Nat.le_refl _⟩, ⟨by (with_reducible repeat (first | apply Kd.R_alloc | apply Kd.R_drewN | apply Kd.R_drew)); exact Kd.R_mono (Kd.R_far (p := ⟨gb175, 3, none⟩) (Kd.R_far (p := ⟨gb175, 2, none⟩) (Kd.R_far (p := ⟨gb175, 1, none⟩) (Kd.R_far (p := ⟨gb175, 0, none⟩) (Kd.R_types HO_5.out BK175.out (by decide)) (fun _ hk => hk.2) (.int .i64 ((rd_T45 l0 x15_1).f0))) (fun _ hk => hk.2) (.int .i64 ((rd_T45 l0 x15_1).f1))) (fun _ hk => hk.2) (.string ((rd_T45 l0 x15_1).f2))) (fun _ hk => hk.2) (.slice A174_3 ((rd_T45 l0 x15_1).f3).length c174_3)) (fun _ hk => (by simp [Value.ownBlock]))⟩, ⟨by first | exact Kd.R_nil _ _ _ _ _ | exact Kd.N_nil _ _ _ _ _ | exact Kd.V_nil _ _ _ _ _ | exact Kd.Q_nil _ _ _ _ _ | exact Kd.S_nil _ _ _ _ _⟩, ⟨by (with_reducible repeat (first | refine blk_drewN ?_ _ | refine blk_drew ?_ | refine blk_alloc ?_ _)); refine blk_put (cs := #[.int .i64 ((rd_T45 l0 x15_1).f0), .int .i64 ((rd_T45 l0 x15_1).f1), .string ((rd_T45 l0 x15_1).f2), .slice none 0 0]) ?_ 3 _ rfl; (with_reducible repeat (first | refine blk_drewN ?_ _ | refine blk_drew ?_ | refine blk_alloc ?_ _)); refine blk_put (cs := #[.int .i64 ((rd_T45 l0 x15_1).f0), .int .i64 ((rd_T45 l0 x15_1).f1), .string (⟨#[]⟩ : ByteArray), .slice none 0 0]) ?_ 2 _ rfl; (with_reducible repeat (first | refine blk_drewN ?_ _ | refine blk_drew ?_ | refine blk_alloc ?_ _)); refine blk_put (cs := #[.int .i64 ((rd_T45 l0 x15_1).f0), .int .i64 0, .string (⟨#[]⟩ : ByteArray), .slice none 0 0]) ?_ 1 _ rfl; (with_reducible repeat (first | refine blk_drewN ?_ _ | refine blk_drew ?_ | refine blk_alloc ?_ _)); refine blk_put (cs := #[.int .i64 0, .int .i64 0, .string (⟨#[]⟩ : ByteArray), .slice none 0 0]) ?_ 0 _ rfl; (with_reducible repeat (first | refine blk_drewN ?_ _ | refine blk_drew ?_ | refine blk_alloc ?_ _)); exact BK175.out⟩, ⟨by repeat (first | (with_reducible first | exact HB.out | apply below_alloc | apply pw_below_drewN | apply below_drew1 | refine below_set ?_ GE175.out) | exact HB.out)⟩⟩
            case round =>
              clear H'
              try clear c1
              try clear p1
              try clear q1
              try clear hx1
              try clear p2
              try clear c3
              try clear c3b0
              try clear c4
              try clear c4b0
              try clear c5
              try clear c5b0
              try clear hcz7_0
              try clear hcz7_1
              try clear hcz7_2
              try clear hcz7_3
              try clear hfz7_0
              try clear hfz7_1
              try clear hfz7_2
              try clear hfz7_3
              try clear hx174_0
              try clear hx174_1
              try clear hx174_2
              try clear hx174_3
              try clear p174
              try clear p2
              try clear q174
              obtain ⟨x8_2, x22_2, rfl, HA, HK2, HO_5, HO_8, BK175, HB⟩ := hrel
              cases gk with
              | zero => exact absurd HA.out (by simp [eval_values.l1])
              | succ k2 =>
                have H := HA.out
                clear HA
                simp only [eval_values.l1] at H
                by_cases c8 : x22_2 < (((rd_T45 l0 x15_1).f3).length : Int)
                · rw [if_pos c8] at H
                  have c8b0 : decide (x22_2 < (((rd_T45 l0 x15_1).f3).length : Int)) = true := decide_eq_true c8
                  clear c8
                  by_cases c9 : 0 ≤ x22_2
                  · rw [if_pos c9] at H
                    have c9b0 : decide (0 ≤ x22_2) = true := decide_eq_true c9
                    clear c9
                    by_cases c10 : x22_2 < (((rd_T45 l0 x15_1).f3).length : Int)
                    · rw [if_pos c10] at H
                      have c10b0 : decide (x22_2 < (((rd_T45 l0 x15_1).f3).length : Int)) = true := decide_eq_true c10
                      clear c10
                      by_cases c11 : 0 ≤ (rd ((rd_T45 l0 x15_1).f3) x22_2)
                      · rw [if_pos c11] at H
                        have c11b0 : decide (0 ≤ (rd ((rd_T45 l0 x15_1).f3) x22_2)) = true := decide_eq_true c11
                        clear c11
                        by_cases c12 : (rd ((rd_T45 l0 x15_1).f3) x22_2) < (x5_1.length : Int)
                        · rw [if_pos c12] at H
                          have c12b0 : decide ((rd ((rd_T45 l0 x15_1).f3) x22_2) < (x5_1.length : Int)) = true := decide_eq_true c12
                          clear c12
                          by_cases c13 : x8_2.length < 17592186044416
                          · rw [if_pos c13] at H
                            have LMc13 := Aside0.mk c13
                            clear c13
                            obtain ⟨y178, hy178⟩ : ∃ y_ : List Int, y_ = (x8_2 ++ [rd x5_1 (rd ((rd_T45 l0 x15_1).f3) x22_2)]) := ⟨_, rfl⟩
                            replace H : (eval_values.l1 k2 l1 x5_1 y178 l0 (l0.length : Int) x15_1 ((rd_T45 l0 x15_1).f3) (((rd_T45 l0 x15_1).f3).length : Int) (wrap64 (x22_2 + 1)) ((rd_T45 l0 x15_1).f0) ((rd_T45 l0 x15_1).f1) ((rd_T45 l0 x15_1).f2) ((rd_T45 l0 x15_1).f3)) = some r := by first | (rw [hy178]; with_reducible exact H) | (have H2_ := (Option.bind_some _ _).symm.trans H; rw [hy178]; with_reducible exact H2_) | (have H2_ := (Option.bind_some _ _).symm.trans H; with_reducible exact H2_) | with_reducible exact H | (rw [hy178]; exact H) | exact H
                            have Ny178 := Aside0.mk hy178
                            clear hy178
                            have H' := Aside0.mk H
                            clear H
                            have p176 : 0 ≤ (x22_2 : Int) := of_decide_eq_true (by first | (with_reducible assumption) | assumption)
                            have q176 : x22_2 < (((rd_T45 l0 x15_1).f3).length : Int) := of_decide_eq_true (by first | (with_reducible assumption) | assumption)
                            obtain ⟨ad176, e176, hx176_0⟩ := Kd.at_int HR174_3.out x22_2 p176 q176
                            cases e176
                            replace hx176_0 := (HB.out.cell (World.block_lt_of_cell? w _ hx176_0)).trans hx176_0
                            replace p176 := eq_true p176
                            replace q176 := eq_true q176
                            obtain ⟨Ao14, co14, eo14⟩ := Kd.R_slice HO_5.out
                            subst eo14
                            have p177 : 0 ≤ ((rd ((rd_T45 l0 x15_1).f3) x22_2) : Int) := of_decide_eq_true (by first | (with_reducible assumption) | assumption)
                            have q177 : (rd ((rd_T45 l0 x15_1).f3) x22_2) < (x5_1.length : Int) := of_decide_eq_true (by first | (with_reducible assumption) | assumption)
                            obtain ⟨ad177, e177, hx177_0⟩ := Kd.at_int (Kd.R_reads' HO_5.out).2.2 (rd ((rd_T45 l0 x15_1).f3) x22_2) p177 q177
                            cases e177
                            replace p177 := eq_true p177
                            replace q177 := eq_true q177
                            go_wp2_with (first | ((with_reducible refine gate_builtin (b := .append) (xs := #[.tmp 26, .tmp 31]) rfl ?_); at_builtin; refine Kd.R_append (Kd.int .i64) (w0 := w) w.heap.size rfl (.tmp 26) (.tmp 31) 73 2 (.int .i64 0) 8 rfl Tryd.underlying73 info2 rfl (by decide) (by omega) u8 x8_2 (rd x5_1 (rd ((rd_T45 l0 x15_1).f3) x22_2)) [.int .i64 (rd x5_1 (rd ((rd_T45 l0 x15_1).f3) x22_2))] (fun k_ => some k_ ≠ (.slice (some ad177) x5_1.length co14 : Value).ownBlock) (fun _ => False) rfl rfl ?aP (fun _ hk => hk.elim) ?aF ?aO ?aB ?aS ?aL ?_; (case aP => exact rfl); (case aB => exact (by repeat (first | (with_reducible first | exact HB.out | apply below_alloc | apply pw_below_drewN | apply below_drew1 | refine below_set ?_ GE175.out) | exact HB.out))); (case aF => exact (fun k_ hk => Kd.fresh' (Kd.R_lt (by (with_reducible repeat (first | apply Kd.R_alloc | apply Kd.R_drewN | apply Kd.R_drew)); exact HO_5.out)) k_ hk)); (case aO => exact (by (with_reducible repeat (first | apply Kd.R_alloc | apply Kd.R_drewN | apply Kd.R_drew)); exact HO_8.out)); (case aS => exact (below_size (by repeat (first | (with_reducible first | exact HB.out | apply below_alloc | apply pw_below_drewN | apply below_drew1 | refine below_set ?_ GE175.out) | exact HB.out)))); (case aL => have := LMc13.out; omega); intro v179 w15 ho hb hg hat; rw [← Ny178.out] at ho; have n0_ := Aside0.mk (Kd.R_after (ok := (fun _ => True)) (by (with_reducible repeat (first | apply Kd.R_alloc | apply Kd.R_drewN | apply Kd.R_drew)); exact Kd.R_mono HO_5.out (fun _ hk => ⟨trivial, hk⟩)) hg hat); have n1_ := Aside0.mk (blk_grown (g := gb175) (o := .cells #[.int .i64 ((rd_T45 l0 x15_1).f0), .int .i64 ((rd_T45 l0 x15_1).f1), .string ((rd_T45 l0 x15_1).f2), .slice (some ad176) ((rd_T45 l0 x15_1).f3).length c174_3] 45 (0, 0)) (by (with_reducible repeat (first | refine blk_drewN ?_ _ | refine blk_drew ?_ | refine blk_alloc ?_ _)); exact BK175.out) hg (Kd.R_ne HO_8.out BK175.out (by decide))); have n2_ := Aside0.mk (hb); have n3_ := Aside0.mk (ho); clear HO_5; clear BK175; clear HB; clear HO_8; have HO_5 := n0_; have BK175 := n1_; have HB := n2_; have HO180 := n3_; clear n0_ n1_ n2_ n3_; clear ho hb hg hat))
                            go_roundg k2
                            case measure => have := HK1.out; have := HK2.out; omega
                            case rel => exact ⟨(y178), (wrap64 (x22_2 + 1)), (by first | rfl | (simp; done) | (simp [*]; done)), H', ⟨by have := HK1.out; have := HK2.out; omega⟩, ⟨by (with_reducible repeat (first | apply Kd.R_alloc | apply Kd.R_drewN | apply Kd.R_drew)); exact Kd.R_mono HO_5.out (fun _ hk => hk.2)⟩, ⟨by (with_reducible repeat (first | apply Kd.R_alloc | apply Kd.R_drewN | apply Kd.R_drew)); exact HO180.out⟩, ⟨by (with_reducible repeat (first | refine blk_drewN ?_ _ | refine blk_drew ?_ | refine blk_alloc ?_ _)); exact BK175.out⟩, ⟨by repeat (first | (with_reducible first | exact HB.out | apply below_alloc | apply pw_below_drewN | apply below_drew1 | refine below_set ?_ GE175.out) | exact HB.out)⟩⟩
                          · rw [if_neg c13] at H
                            exact absurd H (by simp)
                        · rw [if_neg c12] at H
                          exact absurd H (by simp)
                      · rw [if_neg c11] at H
                        exact absurd H (by simp)
                    · rw [if_neg c10] at H
                      exact absurd H (by simp)
                  · rw [if_neg c9] at H
                    exact absurd H (by simp)
                · rw [if_neg c8] at H
                  have c8b0 : decide (x22_2 < (((rd_T45 l0 x15_1).f3).length : Int)) = false := decide_eq_false c8
                  clear c8
                  by_cases c16 : ((rd_T45 l0 x15_1).f0) = 1
                  · rw [if_pos c16] at H
                    have c16b0 : (((rd_T45 l0 x15_1).f0) == 1) = true := beq_iff_eq.mpr c16
                    have c16b1 : (((rd_T45 l0 x15_1).f0) != 1) = false := bne_eq_false_iff_eq.mpr c16
                    clear c16
                    by_cases c17 : x5_1.length < 17592186044416
                    · rw [if_pos c17] at H
                      have LMc17 := Aside0.mk c17
                      clear c17
                      obtain ⟨y181, hy181⟩ : ∃ y_ : List Int, y_ = (x5_1 ++ [((rd_T45 l0 x15_1).f1)]) := ⟨_, rfl⟩
                      replace H : (eval_values.l0 k2 l1 y181 l0 (l0.length : Int) (wrap64 (x15_1 + 1))) = some r := by first | (rw [hy181]; with_reducible exact H) | (have H2_ := (Option.bind_some _ _).symm.trans H; rw [hy181]; with_reducible exact H2_) | (have H2_ := (Option.bind_some _ _).symm.trans H; with_reducible exact H2_) | with_reducible exact H | (rw [hy181]; exact H) | exact H
                      have Ny181 := Aside0.mk hy181
                      clear hy181
                      have H' := Aside0.mk H
                      clear H
                      have hcz18_0 : wr.cell? ⟨gb175, 0, none⟩ = some (.int .i64 ((rd_T45 l0 x15_1).f0)) := (blk_cell BK175.out 0).trans rfl
                      have hcz18_1 : wr.cell? ⟨gb175, 1, none⟩ = some (.int .i64 ((rd_T45 l0 x15_1).f1)) := (blk_cell BK175.out 1).trans rfl
                      have hcz18_2 : wr.cell? ⟨gb175, 2, none⟩ = some (.string ((rd_T45 l0 x15_1).f2)) := (blk_cell BK175.out 2).trans rfl
                      have hcz18_3 : wr.cell? ⟨gb175, 3, none⟩ = some (.slice A174_3 ((rd_T45 l0 x15_1).f3).length c174_3) := (blk_cell BK175.out 3).trans rfl
                      have hfz18_0 := blk_frozen BK175.out 0
                      have hfz18_1 := blk_frozen BK175.out 1
                      have hfz18_2 := blk_frozen BK175.out 2
                      have hfz18_3 := blk_frozen BK175.out 3
                      go_wp2_with (first | ((with_reducible refine gate_builtin (b := .append) (xs := #[.tmp 56, .tmp 58]) rfl ?_); at_builtin; refine Kd.R_append (Kd.int .i64) (w0 := w) w.heap.size rfl (.tmp 56) (.tmp 58) 73 2 (.int .i64 0) 8 rfl Tryd.underlying73 info2 rfl (by decide) (by omega) u5 x5_1 ((rd_T45 l0 x15_1).f1) [.int .i64 ((rd_T45 l0 x15_1).f1)] (fun k_ => some k_ ≠ (u8 : Value).ownBlock) (fun _ => False) rfl rfl ?aP (fun _ hk => hk.elim) ?aF ?aO ?aB ?aS ?aL ?_; (case aP => exact rfl); (case aB => exact (by repeat (first | (with_reducible first | exact HB.out | apply below_alloc | apply pw_below_drewN | apply below_drew1 | refine below_set ?_ GE175.out) | exact HB.out))); (case aF => exact (fun k_ hk => Kd.fresh' (Kd.R_lt (by (with_reducible repeat (first | apply Kd.R_alloc | apply Kd.R_drewN | apply Kd.R_drew)); exact HO_8.out)) k_ hk)); (case aO => exact (by (with_reducible repeat (first | apply Kd.R_alloc | apply Kd.R_drewN | apply Kd.R_drew)); exact HO_5.out)); (case aS => exact (below_size (by repeat (first | (with_reducible first | exact HB.out | apply below_alloc | apply pw_below_drewN | apply below_drew1 | refine below_set ?_ GE175.out) | exact HB.out)))); (case aL => have := LMc17.out; omega); intro v182 w19 ho hb hg hat; rw [← Ny181.out] at ho; have n0_ := Aside0.mk (Kd.R_after (ok := (fun _ => True)) (by (with_reducible repeat (first | apply Kd.R_alloc | apply Kd.R_drewN | apply Kd.R_drew)); exact Kd.R_mono HO_8.out (fun _ hk => ⟨trivial, hk⟩)) hg hat); have n1_ := Aside0.mk (blk_grown (g := gb175) (o := .cells #[.int .i64 ((rd_T45 l0 x15_1).f0), .int .i64 ((rd_T45 l0 x15_1).f1), .string ((rd_T45 l0 x15_1).f2), .slice A174_3 ((rd_T45 l0 x15_1).f3).length c174_3] 45 (0, 0)) (by (with_reducible repeat (first | refine blk_drewN ?_ _ | refine blk_drew ?_ | refine blk_alloc ?_ _)); exact BK175.out) hg (Kd.R_ne HO_5.out BK175.out (by decide))); have n2_ := Aside0.mk (hb); have n3_ := Aside0.mk (ho); clear HO_8; clear BK175; clear HB; clear HO_5; have HO_8 := n0_; have BK175 := n1_; have HB := n2_; have HO183 := n3_; clear n0_ n1_ n2_ n3_; clear ho hb hg hat))
                      go_roundg k2
                      case measure => have := HK1.out; have := HK2.out; omega
                      case rel => exact ⟨(y181), (wrap64 (x15_1 + 1)), (by first | rfl | (simp; done) | (simp [*]; done)), H', ⟨by have := HK1.out; have := HK2.out; omega⟩, ⟨by (with_reducible repeat (first | apply Kd.R_alloc | apply Kd.R_drewN | apply Kd.R_drew)); exact Kd.R_mono HO183.out (fun _ hk => trivial)⟩, ⟨by repeat (first | (with_reducible first | exact HB.out | apply below_alloc | apply pw_below_drewN | apply below_drew1 | refine below_set ?_ GE175.out) | exact HB.out)⟩⟩
                    · rw [if_neg c17] at H
                      exact absurd H (by simp)
                  · rw [if_neg c16] at H
                    have c16b0 : (((rd_T45 l0 x15_1).f0) == 1) = false := beq_eq_false_iff_ne.mpr c16
                    have c16b1 : (((rd_T45 l0 x15_1).f0) != 1) = true := bne_iff_ne.mpr c16
                    by_cases c20 : ((rd_T45 l0 x15_1).f0) = 2
                    · rw [if_pos c20] at H
                      have c20b0 : (((rd_T45 l0 x15_1).f0) == 2) = true := beq_iff_eq.mpr c20
                      have c20b1 : (((rd_T45 l0 x15_1).f0) != 2) = false := bne_eq_false_iff_eq.mpr c20
                      clear c20
                      replace H := Option.bind_eq_some_iff.mp H
                      obtain ⟨t184, A210, H⟩ := H
                      replace H : (if x5_1.length < 17592186044416 then (eval_values.l0 k2 l1 (x5_1 ++ [t184]) l0 (l0.length : Int) (wrap64 (x15_1 + 1))) else (none)) = some r := H
                      have A21 := Aside0.mk A210
                      clear A210
                      by_cases c22 : x5_1.length < 17592186044416
                      · rw [if_pos c22] at H
                        have LMc22 := Aside0.mk c22
                        clear c22
                        obtain ⟨y185, hy185⟩ : ∃ y_ : List Int, y_ = (x5_1 ++ [t184]) := ⟨_, rfl⟩
                        replace H : (eval_values.l0 k2 l1 y185 l0 (l0.length : Int) (wrap64 (x15_1 + 1))) = some r := by first | (rw [hy185]; with_reducible exact H) | (have H2_ := (Option.bind_some _ _).symm.trans H; rw [hy185]; with_reducible exact H2_) | (have H2_ := (Option.bind_some _ _).symm.trans H; with_reducible exact H2_) | with_reducible exact H | (rw [hy185]; exact H) | exact H
                        have Ny185 := Aside0.mk hy185
                        clear hy185
                        have H' := Aside0.mk H
                        clear H
                        have hcz23_0 : wr.cell? ⟨gb175, 0, none⟩ = some (.int .i64 ((rd_T45 l0 x15_1).f0)) := (blk_cell BK175.out 0).trans rfl
                        have hcz23_1 : wr.cell? ⟨gb175, 1, none⟩ = some (.int .i64 ((rd_T45 l0 x15_1).f1)) := (blk_cell BK175.out 1).trans rfl
                        have hcz23_2 : wr.cell? ⟨gb175, 2, none⟩ = some (.string ((rd_T45 l0 x15_1).f2)) := (blk_cell BK175.out 2).trans rfl
                        have hcz23_3 : wr.cell? ⟨gb175, 3, none⟩ = some (.slice A174_3 ((rd_T45 l0 x15_1).f3).length c174_3) := (blk_cell BK175.out 3).trans rfl
                        have hfz23_0 := blk_frozen BK175.out 0
                        have hfz23_1 := blk_frozen BK175.out 1
                        have hfz23_2 := blk_frozen BK175.out 2
                        have hfz23_3 := blk_frozen BK175.out 3
                        go_wp2_with (first | ((with_reducible refine gate_callee (f := 52) rfl ?_); refine goesL_ (some 55) rfl rfl Tryd.func52 (by kernel_rfl) rfl #[.slice A1 l1.length c1, .string ((rd_T45 l0 x15_1).f2)] rfl (by (try simp only [List.map_toArray, List.map_cons, List.map_nil]); first | done | rfl | (simp only [List.length_drop, List.length_take]; rfl)) ?_; (with_reducible refine (env_Get.calls k2 _ _ l1 ((rd_T45 l0 x15_1).f2) t184 _ ?side1 ?side2 A21.out).mono ?_); (case side1 => repeat (first | exact (Kd.C_below HR1.out HB.out) | (with_reducible refine Kd.C_alloc ?_ _) | (with_reducible refine Kd.C_drewN ?_ _) | (with_reducible refine Kd.C_drew ?_))); (case side2 => exact HC1.out); rintro e w' ⟨rfl, ⟨nd, rfl⟩⟩; refine ⟨_, rfl, ?_⟩) | ((with_reducible refine gate_builtin (b := .append) (xs := #[.tmp 56, .tmp 58]) rfl ?_); at_builtin; refine Kd.R_append (Kd.int .i64) (w0 := w) w.heap.size rfl (.tmp 56) (.tmp 58) 73 2 (.int .i64 0) 8 rfl Tryd.underlying73 info2 rfl (by decide) (by omega) u5 x5_1 t184 [.int .i64 t184] (fun k_ => some k_ ≠ (u8 : Value).ownBlock) (fun _ => False) rfl rfl ?aP (fun _ hk => hk.elim) ?aF ?aO ?aB ?aS ?aL ?_; (case aP => exact rfl); (case aB => exact (by repeat (first | (with_reducible first | exact HB.out | apply below_alloc | apply pw_below_drewN | apply below_drew1 | refine below_set ?_ GE175.out) | exact HB.out))); (case aF => exact (fun k_ hk => Kd.fresh' (Kd.R_lt (by (with_reducible repeat (first | apply Kd.R_alloc | apply Kd.R_drewN | apply Kd.R_drew)); exact HO_8.out)) k_ hk)); (case aO => exact (by (with_reducible repeat (first | apply Kd.R_alloc | apply Kd.R_drewN | apply Kd.R_drew)); exact HO_5.out)); (case aS => exact (below_size (by repeat (first | (with_reducible first | exact HB.out | apply below_alloc | apply pw_below_drewN | apply below_drew1 | refine below_set ?_ GE175.out) | exact HB.out)))); (case aL => have := LMc22.out; omega); intro v186 w24 ho hb hg hat; rw [← Ny185.out] at ho; have n0_ := Aside0.mk (Kd.R_after (ok := (fun _ => True)) (by (with_reducible repeat (first | apply Kd.R_alloc | apply Kd.R_drewN | apply Kd.R_drew)); exact Kd.R_mono HO_8.out (fun _ hk => ⟨trivial, hk⟩)) hg hat); have n1_ := Aside0.mk (blk_grown (g := gb175) (o := .cells #[.int .i64 ((rd_T45 l0 x15_1).f0), .int .i64 ((rd_T45 l0 x15_1).f1), .string ((rd_T45 l0 x15_1).f2), .slice A174_3 ((rd_T45 l0 x15_1).f3).length c174_3] 45 (0, 0)) (by (with_reducible repeat (first | refine blk_drewN ?_ _ | refine blk_drew ?_ | refine blk_alloc ?_ _)); exact BK175.out) hg (Kd.R_ne HO_5.out BK175.out (by decide))); have n2_ := Aside0.mk (hb); have n3_ := Aside0.mk (ho); clear HO_8; clear BK175; clear HB; clear HO_5; have HO_8 := n0_; have BK175 := n1_; have HB := n2_; have HO187 := n3_; clear n0_ n1_ n2_ n3_; clear ho hb hg hat))
                        go_roundg k2
                        case measure => have := HK1.out; have := HK2.out; omega
                        case rel => exact ⟨(y185), (wrap64 (x15_1 + 1)), (by first | rfl | (simp; done) | (simp [*]; done)), H', ⟨by have := HK1.out; have := HK2.out; omega⟩, ⟨by (with_reducible repeat (first | apply Kd.R_alloc | apply Kd.R_drewN | apply Kd.R_drew)); exact Kd.R_mono HO187.out (fun _ hk => trivial)⟩, ⟨by repeat (first | (with_reducible first | exact HB.out | apply below_alloc | apply pw_below_drewN | apply below_drew1 | refine below_set ?_ GE175.out) | exact HB.out)⟩⟩
                      · rw [if_neg c22] at H
                        exact absurd H (by simp)
                    · rw [if_neg c20] at H
                      have c20b0 : (((rd_T45 l0 x15_1).f0) == 2) = false := beq_eq_false_iff_ne.mpr c20
                      have c20b1 : (((rd_T45 l0 x15_1).f0) != 2) = true := bne_iff_ne.mpr c20
                      replace H := Option.bind_eq_some_iff.mp H
                      obtain ⟨⟨t188, t189⟩, A250, H⟩ := H
                      replace H : (if t189 = 0 then (if x5_1.length < 17592186044416 then (eval_values.l0 k2 l1 (x5_1 ++ [t188]) l0 (l0.length : Int) (wrap64 (x15_1 + 1))) else (none)) else (some x5_1)) = some r := H
                      have A25 := Aside0.mk A250
                      clear A250
                      by_cases c26 : t189 = 0
                      · rw [if_pos c26] at H
                        have c26b0 : (t189 == 0) = true := beq_iff_eq.mpr c26
                        have c26b1 : (t189 != 0) = false := bne_eq_false_iff_eq.mpr c26
                        clear c26
                        by_cases c27 : x5_1.length < 17592186044416
                        · rw [if_pos c27] at H
                          have LMc27 := Aside0.mk c27
                          clear c27
                          obtain ⟨y190, hy190⟩ : ∃ y_ : List Int, y_ = (x5_1 ++ [t188]) := ⟨_, rfl⟩
                          replace H : (eval_values.l0 k2 l1 y190 l0 (l0.length : Int) (wrap64 (x15_1 + 1))) = some r := by first | (rw [hy190]; with_reducible exact H) | (have H2_ := (Option.bind_some _ _).symm.trans H; rw [hy190]; with_reducible exact H2_) | (have H2_ := (Option.bind_some _ _).symm.trans H; with_reducible exact H2_) | with_reducible exact H | (rw [hy190]; exact H) | exact H
                          have Ny190 := Aside0.mk hy190
                          clear hy190
                          have H' := Aside0.mk H
                          clear H
                          have hcz28_0 : wr.cell? ⟨gb175, 0, none⟩ = some (.int .i64 ((rd_T45 l0 x15_1).f0)) := (blk_cell BK175.out 0).trans rfl
                          have hcz28_1 : wr.cell? ⟨gb175, 1, none⟩ = some (.int .i64 ((rd_T45 l0 x15_1).f1)) := (blk_cell BK175.out 1).trans rfl
                          have hcz28_2 : wr.cell? ⟨gb175, 2, none⟩ = some (.string ((rd_T45 l0 x15_1).f2)) := (blk_cell BK175.out 2).trans rfl
                          have hcz28_3 : wr.cell? ⟨gb175, 3, none⟩ = some (.slice A174_3 ((rd_T45 l0 x15_1).f3).length c174_3) := (blk_cell BK175.out 3).trans rfl
                          have hfz28_0 := blk_frozen BK175.out 0
                          have hfz28_1 := blk_frozen BK175.out 1
                          have hfz28_2 := blk_frozen BK175.out 2
                          have hfz28_3 := blk_frozen BK175.out 3
                          obtain ⟨Ao29, co29, eo29⟩ := Kd.R_slice HO_8.out
                          subst eo29
                          go_wp2_with (first | ((with_reducible refine gate_callee (f := 53) rfl ?_); refine goesL_ (some 42) rfl rfl Tryd.func53 (by kernel_rfl) rfl #[.int .i64 ((rd_T45 l0 x15_1).f0), .slice Ao29 x8_2.length co29] rfl (by (try simp only [List.map_toArray, List.map_cons, List.map_nil]); first | done | rfl | (simp only [List.length_drop, List.length_take]; rfl)) ?_; (with_reducible refine (arith_Apply.calls k2 ((rd_T45 l0 x15_1).f0) _ _ x8_2 t188 t189 _ ?side1 ?side2 A25.out).mono ?_); (case side1 => repeat (first | exact (Kd.R_reads' HO_8.out).2.2 | (with_reducible refine Kd.C_alloc ?_ _) | (with_reducible refine Kd.C_drewN ?_ _) | (with_reducible refine Kd.C_drew ?_))); (case side2 => exact (Kd.R_reads' HO_8.out).2.1); rintro e w' ⟨rfl, ⟨nd, rfl⟩⟩; refine ⟨_, rfl, ?_⟩) | ((with_reducible refine gate_builtin (b := .append) (xs := #[.tmp 56, .tmp 58]) rfl ?_); at_builtin; refine Kd.R_append (Kd.int .i64) (w0 := w) w.heap.size rfl (.tmp 56) (.tmp 58) 73 2 (.int .i64 0) 8 rfl Tryd.underlying73 info2 rfl (by decide) (by omega) u5 x5_1 t188 [.int .i64 t188] (fun k_ => some k_ ≠ (.slice Ao29 x8_2.length co29 : Value).ownBlock) (fun _ => False) rfl rfl ?aP (fun _ hk => hk.elim) ?aF ?aO ?aB ?aS ?aL ?_; (case aP => exact rfl); (case aB => exact (by repeat (first | (with_reducible first | exact HB.out | apply below_alloc | apply pw_below_drewN | apply below_drew1 | refine below_set ?_ GE175.out) | exact HB.out))); (case aF => exact (fun k_ hk => Kd.fresh' (Kd.R_lt (by (with_reducible repeat (first | apply Kd.R_alloc | apply Kd.R_drewN | apply Kd.R_drew)); exact HO_8.out)) k_ hk)); (case aO => exact (by (with_reducible repeat (first | apply Kd.R_alloc | apply Kd.R_drewN | apply Kd.R_drew)); exact HO_5.out)); (case aS => exact (below_size (by repeat (first | (with_reducible first | exact HB.out | apply below_alloc | apply pw_below_drewN | apply below_drew1 | refine below_set ?_ GE175.out) | exact HB.out)))); (case aL => have := LMc27.out; omega); intro v191 w30 ho hb hg hat; rw [← Ny190.out] at ho; have n0_ := Aside0.mk (Kd.R_after (ok := (fun _ => True)) (by (with_reducible repeat (first | apply Kd.R_alloc | apply Kd.R_drewN | apply Kd.R_drew)); exact Kd.R_mono HO_8.out (fun _ hk => ⟨trivial, hk⟩)) hg hat); have n1_ := Aside0.mk (blk_grown (g := gb175) (o := .cells #[.int .i64 ((rd_T45 l0 x15_1).f0), .int .i64 ((rd_T45 l0 x15_1).f1), .string ((rd_T45 l0 x15_1).f2), .slice A174_3 ((rd_T45 l0 x15_1).f3).length c174_3] 45 (0, 0)) (by (with_reducible repeat (first | refine blk_drewN ?_ _ | refine blk_drew ?_ | refine blk_alloc ?_ _)); exact BK175.out) hg (Kd.R_ne HO_5.out BK175.out (by decide))); have n2_ := Aside0.mk (hb); have n3_ := Aside0.mk (ho); clear HO_8; clear BK175; clear HB; clear HO_5; have HO_8 := n0_; have BK175 := n1_; have HB := n2_; have HO192 := n3_; clear n0_ n1_ n2_ n3_; clear ho hb hg hat))
                          go_roundg k2
                          case measure => have := HK1.out; have := HK2.out; omega
                          case rel => exact ⟨(y190), (wrap64 (x15_1 + 1)), (by first | rfl | (simp; done) | (simp [*]; done)), H', ⟨by have := HK1.out; have := HK2.out; omega⟩, ⟨by (with_reducible repeat (first | apply Kd.R_alloc | apply Kd.R_drewN | apply Kd.R_drew)); exact Kd.R_mono HO192.out (fun _ hk => trivial)⟩, ⟨by repeat (first | (with_reducible first | exact HB.out | apply below_alloc | apply pw_below_drewN | apply below_drew1 | refine below_set ?_ GE175.out) | exact HB.out)⟩⟩
                        · rw [if_neg c27] at H
                          exact absurd H (by simp)
                      · rw [if_neg c26] at H
                        have c26b0 : (t189 == 0) = false := beq_eq_false_iff_ne.mpr c26
                        have c26b1 : (t189 != 0) = true := bne_iff_ne.mpr c26
                        obtain rfl := Option.some.inj H
                        have hcz31_0 : wr.cell? ⟨gb175, 0, none⟩ = some (.int .i64 ((rd_T45 l0 x15_1).f0)) := (blk_cell BK175.out 0).trans rfl
                        have hcz31_1 : wr.cell? ⟨gb175, 1, none⟩ = some (.int .i64 ((rd_T45 l0 x15_1).f1)) := (blk_cell BK175.out 1).trans rfl
                        have hcz31_2 : wr.cell? ⟨gb175, 2, none⟩ = some (.string ((rd_T45 l0 x15_1).f2)) := (blk_cell BK175.out 2).trans rfl
                        have hcz31_3 : wr.cell? ⟨gb175, 3, none⟩ = some (.slice A174_3 ((rd_T45 l0 x15_1).f3).length c174_3) := (blk_cell BK175.out 3).trans rfl
                        have hfz31_0 := blk_frozen BK175.out 0
                        have hfz31_1 := blk_frozen BK175.out 1
                        have hfz31_2 := blk_frozen BK175.out 2
                        have hfz31_3 := blk_frozen BK175.out 3
                        obtain ⟨Ao32, co32, eo32⟩ := Kd.R_slice HO_8.out
                        subst eo32
                        go_wp2_with (first | ((with_reducible refine gate_callee (f := 53) rfl ?_); refine goesL_ (some 42) rfl rfl Tryd.func53 (by kernel_rfl) rfl #[.int .i64 ((rd_T45 l0 x15_1).f0), .slice Ao32 x8_2.length co32] rfl (by (try simp only [List.map_toArray, List.map_cons, List.map_nil]); first | done | rfl | (simp only [List.length_drop, List.length_take]; rfl)) ?_; (with_reducible refine (arith_Apply.calls k2 ((rd_T45 l0 x15_1).f0) _ _ x8_2 t188 t189 _ ?side1 ?side2 A25.out).mono ?_); (case side1 => repeat (first | exact (Kd.R_reads' HO_8.out).2.2 | (with_reducible refine Kd.C_alloc ?_ _) | (with_reducible refine Kd.C_drewN ?_ _) | (with_reducible refine Kd.C_drew ?_))); (case side2 => exact (Kd.R_reads' HO_8.out).2.1); rintro e w' ⟨rfl, ⟨nd, rfl⟩⟩; refine ⟨_, rfl, ?_⟩))
                        go_ret
                        exact ⟨_, by first | rfl | (simp [errW_none, errW_some] <;> rfl) | (simp [*, errW_none, errW_some] <;> rfl), by (with_reducible repeat (first | apply Kd.R_alloc | apply Kd.R_drewN | apply Kd.R_drew)); exact Kd.R_mono HO_5.out (fun _ hk => trivial), by repeat (first | (with_reducible first | exact HB.out | apply below_alloc | apply pw_below_drewN | apply below_drew1 | refine below_set ?_ GE175.out) | exact HB.out)⟩
          · rw [if_neg c5] at H
            exact absurd H (by simp)
        · rw [if_neg c4] at H
          exact absurd H (by simp)
      · rw [if_neg c3] at H
        have c3b0 : decide (x15_1 < (l0.length : Int)) = false := decide_eq_false c3
        clear c3
        obtain rfl := Option.some.inj H
        go_wp2
        go_ret
        exact ⟨_, by first | rfl | (simp [errW_none, errW_some] <;> rfl) | (simp [*, errW_none, errW_some] <;> rfl), by (with_reducible repeat (first | apply Kd.R_alloc | apply Kd.R_drewN | apply Kd.R_drew)); exact HO_5.out, by repeat (first | (with_reducible first | exact HB.out | apply below_alloc | apply pw_below_drewN | apply below_drew1) | exact HB.out)⟩

end Go.Proofs.YtacjjfoelhckcaaDoor.PEvalParts
