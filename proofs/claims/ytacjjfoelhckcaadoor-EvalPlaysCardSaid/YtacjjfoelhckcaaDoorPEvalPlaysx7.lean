/- Contracts of functions, printed by the session's own changed copy of the print generator (see its notes); the plain functions tell what the calls answer. -/
import Derived.Test.YtacjjfoelhckcaaDoorPEvalPlaysx0
import Derived.Test.YtacjjfoelhckcaaDoorPEvalPlaysx5
import Derived.Test.YtacjjfoelhckcaaDoorPEvalPlaysx6
namespace Go.Proofs.YtacjjfoelhckcaaDoor.PEvalPlays
open Go.RowKit Go.Proofs.YtacjjfoelhckcaaDoorW.PrintWords Go.Proofs.YtacjjfoelhckcaaDoorW.PrintLast Go.Proofs.YtacjjfoelhckcaaDoorW.PrintMore
attribute [local go_sem] max2_int min2_int max_two min_two max_three min_three max_four min_four   -- for this text's walks alone
set_option linter.unusedVariables false
set_option linter.unusedSimpArgs false

/-! ### sorrelref06_Apply: function 136 -/
mutual
def sorrelref06_Apply.j0 : Nat → Int → List Int → Bool → Option (Int × Int)
  | 0, _, _, _ => none
  | k + 1, x0, x1, x16 => if x16 = true then (some (0, 2)) else (if x0 = 3 then (if 0 < (x1.length : Int) then (some (wrap64 (-(rd x1 0)), 0)) else (none)) else (if x0 = 4 then (if 0 < (x1.length : Int) then (some (wrap64 ((-1) - (rd x1 0)), 0)) else (none)) else (if x0 = 17 then (if 0 < (x1.length : Int) then (sorrelref06_Apply.j1 k x0 x1 ((rd x1 0) != 0)) else (none)) else (sorrelref06_Apply.j1 k x0 x1 false))))
def sorrelref06_Apply.j1 : Nat → Int → List Int → Bool → Option (Int × Int)
  | 0, _, _, _ => none
  | k + 1, x0, x1, x31 => if x31 = true then (if 1 < (x1.length : Int) then (some (rd x1 1, 0)) else (none)) else (if x0 = 17 then (if 2 < (x1.length : Int) then (some (rd x1 2, 0)) else (none)) else (if x0 = 8 then (if 1 < (x1.length : Int) then (if (rd x1 1) = 0 then (some (0, 12)) else (if 0 < (x1.length : Int) then ((sorrelref06_two.f k x0 (rd x1 0) (rd x1 1)).bind fun t224 => (some (t224, 0))) else (none))) else (none)) else (if x0 = 9 then (if 1 < (x1.length : Int) then (if (rd x1 1) = 0 then (some (0, 12)) else (if 0 < (x1.length : Int) then ((sorrelref06_two.f k x0 (rd x1 0) (rd x1 1)).bind fun t228 => (some (t228, 0))) else (none))) else (none)) else (if 0 < (x1.length : Int) then (if 1 < (x1.length : Int) then ((sorrelref06_two.f k x0 (rd x1 0) (rd x1 1)).bind fun t231 => (some (t231, 0))) else (none)) else (none)))))
end
def sorrelref06_Apply.f (k : Nat) (a0 : Int) (l1 : List Int) : Option (Int × Int) := (sorrelref02_Arity.f k a0).bind fun t215 => (if t215 ≤ 0 then (sorrelref06_Apply.j0 k a0 l1 true) else (sorrelref06_Apply.j0 k a0 l1 (t215 != (l1.length : Int))))
theorem sorrelref06_Apply.mono_l : ∀ k, (∀ y0 y1 y2, LeO (sorrelref06_Apply.j0 k y0 y1 y2) (sorrelref06_Apply.j0 (k + 1) y0 y1 y2)) ∧ (∀ y0 y1 y2, LeO (sorrelref06_Apply.j1 k y0 y1 y2) (sorrelref06_Apply.j1 (k + 1) y0 y1 y2))
  | 0 => ⟨fun _ _ _ r h => by simp [sorrelref06_Apply.j0] at h, fun _ _ _ r h => by simp [sorrelref06_Apply.j1] at h⟩
  | k + 1 => by
    obtain ⟨ih0, ih1⟩ := sorrelref06_Apply.mono_l k
    refine ⟨?_, ?_⟩
    · intro y0 y1 y2
      unfold sorrelref06_Apply.j0
      repeat' first
      | (with_reducible exact ih0 _ _ _)
      | (with_reducible exact ih1 _ _ _)
      | (with_reducible exact sorrelref02_Arity.mono _ _)
      | (with_reducible exact sorrelref06_two.mono _ _ _ _)
      | (with_reducible exact LeO.refl _)
      | (with_reducible exact LeO.none _)
      | (with_reducible refine LeO.ite ?_ ?_)
      | (with_reducible refine LeO.bind ?_ (fun _ => ?_))
      | exact ih0 _ _ _
      | exact ih1 _ _ _
      | exact sorrelref02_Arity.mono _ _
      | exact sorrelref06_two.mono _ _ _ _
      | exact LeO.none _
      | refine LeO.ite ?_ ?_
      | refine LeO.bind ?_ (fun _ => ?_)
    · intro y0 y1 y2
      unfold sorrelref06_Apply.j1
      repeat' first
      | (with_reducible exact ih0 _ _ _)
      | (with_reducible exact ih1 _ _ _)
      | (with_reducible exact sorrelref02_Arity.mono _ _)
      | (with_reducible exact sorrelref06_two.mono _ _ _ _)
      | (with_reducible exact LeO.refl _)
      | (with_reducible exact LeO.none _)
      | (with_reducible refine LeO.ite ?_ ?_)
      | (with_reducible refine LeO.bind ?_ (fun _ => ?_))
      | exact ih0 _ _ _
      | exact ih1 _ _ _
      | exact sorrelref02_Arity.mono _ _
      | exact sorrelref06_two.mono _ _ _ _
      | exact LeO.none _
      | refine LeO.ite ?_ ?_
      | refine LeO.bind ?_ (fun _ => ?_)
theorem sorrelref06_Apply.mono : ∀ a0 a1 k, LeO (sorrelref06_Apply.f k a0 a1) (sorrelref06_Apply.f (k + 1) a0 a1) := by
  intro a0 a1 k
  obtain ⟨ih0, ih1⟩ := sorrelref06_Apply.mono_l k
  unfold sorrelref06_Apply.f
  repeat' first
      | (with_reducible exact ih0 _ _ _)
      | (with_reducible exact ih1 _ _ _)
      | (with_reducible exact sorrelref02_Arity.mono _ _)
      | (with_reducible exact sorrelref06_two.mono _ _ _ _)
      | (with_reducible exact LeO.refl _)
      | (with_reducible exact LeO.none _)
      | (with_reducible refine LeO.ite ?_ ?_)
      | (with_reducible refine LeO.bind ?_ (fun _ => ?_))
      | exact ih0 _ _ _
      | exact ih1 _ _ _
      | exact sorrelref02_Arity.mono _ _
      | exact sorrelref06_two.mono _ _ _ _
      | exact LeO.none _
      | refine LeO.ite ?_ ?_
      | refine LeO.bind ?_ (fun _ => ?_)
set_option maxHeartbeats 8000000 in
set_option maxRecDepth 100000 in
theorem sorrelref06_Apply.calls (k : Nat) (a0 : Int) (A1 : Option Addr) (c1 : Nat) (l1 : List Int) (r1 : Int) (r2 : Int) (w : World) (hr1 : Kd.C (Kd.int .i64) w A1 l1.length l1) (hc1 : l1.length ≤ c1) (h : sorrelref06_Apply.f k a0 l1 = some (r1, r2)) :
    Calls Tryd.prog 136 #[.int .i64 a0, .slice A1 l1.length c1] w fun e w' => e = .returned (.tuple #[.int .i64 r1, .int .i64 r2]) ∧ Drawn0 w w' := by
  have HR1 := Aside0.mk hr1
  have HC1 := Aside0.mk hc1
  clear hr1 hc1
  have H : ((sorrelref02_Arity.f k a0).bind fun t215 => (if t215 ≤ 0 then (sorrelref06_Apply.j0 k a0 l1 true) else (sorrelref06_Apply.j0 k a0 l1 (t215 != (l1.length : Int))))) = some (r1, r2) := h
  clear h
  replace H := Option.bind_eq_some_iff.mp H
  obtain ⟨t215, A30, H⟩ := H
  replace H : (if t215 ≤ 0 then (sorrelref06_Apply.j0 k a0 l1 true) else (sorrelref06_Apply.j0 k a0 l1 (t215 != (l1.length : Int)))) = some (r1, r2) := H
  have A3 := Aside0.mk A30
  clear A30
  have HC4 := Aside0.mk H
  clear H
  go_enter Tryd.func136, Tryd.ntmps136
  go_upto_region 2 with (first | (go_at_call 24; (with_reducible refine (sorrelref02_Arity.calls k a0 t215 _ A3.out).mono ?_); rintro e w' ⟨rfl, ⟨nd, rfl⟩⟩; (try first | exact ⟨rfl, _, World.drewN_drewN _ _ _⟩ | exact ⟨rfl, _, Eq.trans (World.drewN_drewN _ _ _) (congrArg (World.drewN _) (Nat.add_assoc _ _ _))⟩)))
  repeat (go_quiet (first | (go_at_call 24; (with_reducible refine (sorrelref02_Arity.calls k a0 t215 _ A3.out).mono ?_); rintro e w' ⟨rfl, ⟨nd, rfl⟩⟩; (try first | exact ⟨rfl, _, World.drewN_drewN _ _ _⟩ | exact ⟨rfl, _, Eq.trans (World.drewN_drewN _ _ _) (congrArg (World.drewN _) (Nat.add_assoc _ _ _))⟩))); go_upto_region 2 with (first | (go_at_call 24; (with_reducible refine (sorrelref02_Arity.calls k a0 t215 _ A3.out).mono ?_); rintro e w' ⟨rfl, ⟨nd, rfl⟩⟩; (try first | exact ⟨rfl, _, World.drewN_drewN _ _ _⟩ | exact ⟨rfl, _, Eq.trans (World.drewN_drewN _ _ _) (congrArg (World.drewN _) (Nat.add_assoc _ _ _))⟩))))
  (try simp only [Act.put, List.setIfInBounds_toArray, List.set_cons_zero, List.set_cons_succ])
  go_cut [16] (fun v16 wc => ∃ (kq : Nat) (x16_3 : Bool), v16 = .bool x16_3 ∧ Aside0 (sorrelref06_Apply.j0 kq a0 l1 x16_3 = some (r1, r2)) ∧ Aside0 (kq ≤ k) ∧ Drawn0 w wc)
  case first =>
    have H := HC4.out
    clear HC4
    by_cases c5 : t215 ≤ 0
    · rw [if_pos c5] at H
      have c5b0 : decide (t215 ≤ 0) = true := decide_eq_true c5
      clear c5
      (first | rw [c5b0] | (simp only [i64_w, i32_w]; rw [c5b0]) | skip)
      have H' := Aside0.mk H
      clear H
      go_wp2
      repeat (go_quiet (fail); try go_wp2)
      go_meet
      case rel => exact ⟨_, (true), (by first | rfl | (simp; done) | (simp [*]; done)), H', ⟨by first | omega | exact Nat.le_refl _⟩, by repeat (first | exact Drawn0.refl _ | apply Drawn0.step)⟩
    · rw [if_neg c5] at H
      have c5b0 : decide (t215 ≤ 0) = false := decide_eq_false c5
      clear c5
      (first | rw [c5b0] | (simp only [i64_w, i32_w]; rw [c5b0]) | skip)
      have H' := Aside0.mk H
      clear H
      go_wp2
      repeat (go_quiet (fail); try go_wp2)
      go_meet
      case rel => exact ⟨_, ((t215 != (l1.length : Int))), (by first | rfl | (simp; done) | (simp [*]; done)), H', ⟨by first | omega | exact Nat.le_refl _⟩, by repeat (first | exact Drawn0.refl _ | apply Drawn0.step)⟩
  case rest =>
    clear HC4
    try clear c1
    try clear p2
    try clear c5
    try clear c5b0
    obtain ⟨kq, x16_3, rfl, HA, HJ3, ⟨mc3, rfl⟩⟩ := hcut
    cases kq with
    | zero => exact absurd HA.out (by simp [sorrelref06_Apply.j0])
    | succ kj3 =>
      have H := HA.out
      clear HA
      simp only [sorrelref06_Apply.j0] at H
      by_cases c6 : x16_3 = true
      · subst c6
        have H1 : (some (0, 2)) = some (r1, r2) := by rw [if_pos rfl] at H; exact H
        clear H
        have H := H1
        clear H1
        simp only [Option.some.injEq, Prod.mk.injEq] at H
        obtain ⟨rfl, rfl⟩ := H
        go_wp2
        repeat (go_quiet (fail); try go_wp2)
        go_ret2
        exact ⟨by first | rfl | (simp; done) | (simp [*]; done), by repeat (first | exact Drawn0.refl _ | apply Drawn0.step)⟩
      · replace c6 := Bool.eq_false_iff.mpr c6
        subst c6
        have H1 : (if a0 = 3 then (if 0 < (l1.length : Int) then (some (wrap64 (-(rd l1 0)), 0)) else (none)) else (if a0 = 4 then (if 0 < (l1.length : Int) then (some (wrap64 ((-1) - (rd l1 0)), 0)) else (none)) else (if a0 = 17 then (if 0 < (l1.length : Int) then (sorrelref06_Apply.j1 kj3 a0 l1 ((rd l1 0) != 0)) else (none)) else (sorrelref06_Apply.j1 kj3 a0 l1 false)))) = some (r1, r2) := by rw [if_neg (show ¬ (false = true) by decide)] at H; exact H
        clear H
        have H := H1
        clear H1
        by_cases c7 : a0 = 3
        · rw [if_pos c7] at H
          have c7b0 : (a0 == 3) = true := beq_iff_eq.mpr c7
          have c7b1 : (a0 != 3) = false := bne_eq_false_iff_eq.mpr c7
          clear c7
          by_cases c8 : 0 < (l1.length : Int)
          · rw [if_pos c8] at H
            have c8b0 : decide (0 < (l1.length : Int)) = true := decide_eq_true c8
            have c8b1 : decide (0 < l1.length) = true := decide_eq_true (by omega)
            clear c8
            simp only [Option.some.injEq, Prod.mk.injEq] at H
            obtain ⟨rfl, rfl⟩ := H
            have p216 : 0 ≤ (0 : Int) := (by omega)
            have q216 : 0 < (l1.length : Int) := of_decide_eq_true (by first | (with_reducible assumption) | assumption)
            obtain ⟨ad216, e216, hx216_0⟩ := Kd.at_int HR1.out 0 p216 q216
            cases e216
            have qi216 : (0 < l1.length) = True := eq_true (by omega)
            (try rw [show ((0 : Int)).toNat = 0 from rfl] at hx216_0)
            (try rw [Addr.add_zero'] at hx216_0)
            replace p216 := eq_true p216
            replace q216 := eq_true q216
            go_wp2
            repeat (go_quiet (fail); try go_wp2)
            go_ret2
            exact ⟨by first | rfl | (simp; done) | (simp [*]; done), by repeat (first | exact Drawn0.refl _ | apply Drawn0.step)⟩
          · rw [if_neg c8] at H
            exact absurd H (by simp)
        · rw [if_neg c7] at H
          have c7b0 : (a0 == 3) = false := beq_eq_false_iff_ne.mpr c7
          have c7b1 : (a0 != 3) = true := bne_iff_ne.mpr c7
          by_cases c9 : a0 = 4
          · rw [if_pos c9] at H
            have c9b0 : (a0 == 4) = true := beq_iff_eq.mpr c9
            have c9b1 : (a0 != 4) = false := bne_eq_false_iff_eq.mpr c9
            clear c9
            by_cases c10 : 0 < (l1.length : Int)
            · rw [if_pos c10] at H
              have c10b0 : decide (0 < (l1.length : Int)) = true := decide_eq_true c10
              have c10b1 : decide (0 < l1.length) = true := decide_eq_true (by omega)
              clear c10
              simp only [Option.some.injEq, Prod.mk.injEq] at H
              obtain ⟨rfl, rfl⟩ := H
              have p217 : 0 ≤ (0 : Int) := (by omega)
              have q217 : 0 < (l1.length : Int) := of_decide_eq_true (by first | (with_reducible assumption) | assumption)
              obtain ⟨ad217, e217, hx217_0⟩ := Kd.at_int HR1.out 0 p217 q217
              cases e217
              have qi217 : (0 < l1.length) = True := eq_true (by omega)
              (try rw [show ((0 : Int)).toNat = 0 from rfl] at hx217_0)
              (try rw [Addr.add_zero'] at hx217_0)
              replace p217 := eq_true p217
              replace q217 := eq_true q217
              go_wp2
              repeat (go_quiet (fail); try go_wp2)
              go_ret2
              exact ⟨by first | rfl | (simp; done) | (simp [*]; done), by repeat (first | exact Drawn0.refl _ | apply Drawn0.step)⟩
            · rw [if_neg c10] at H
              exact absurd H (by simp)
          · rw [if_neg c9] at H
            have c9b0 : (a0 == 4) = false := beq_eq_false_iff_ne.mpr c9
            have c9b1 : (a0 != 4) = true := bne_iff_ne.mpr c9
            have HC11 := Aside0.mk H
            clear H
            go_upto_region 8 with (fail)
            repeat (go_quiet (fail); go_upto_region 8 with (fail))
            go_cut [31] (fun v31 wc => ∃ (kq : Nat) (x31_10 : Bool), v31 = .bool x31_10 ∧ Aside0 (sorrelref06_Apply.j1 kq a0 l1 x31_10 = some (r1, r2)) ∧ Aside0 (kq ≤ kj3) ∧ Drawn0 w wc)
            case first =>
              have H := HC11.out
              clear HC11
              by_cases c12 : a0 = 17
              · rw [if_pos c12] at H
                have c12b0 : (a0 == 17) = true := beq_iff_eq.mpr c12
                have c12b1 : (a0 != 17) = false := bne_eq_false_iff_eq.mpr c12
                clear c12
                (first | rw [c12b0] | (simp only [i64_w, i32_w]; rw [c12b0]) | skip)
                by_cases c13 : 0 < (l1.length : Int)
                · rw [if_pos c13] at H
                  have c13b0 : decide (0 < (l1.length : Int)) = true := decide_eq_true c13
                  have c13b1 : decide (0 < l1.length) = true := decide_eq_true (by omega)
                  clear c13
                  have H' := Aside0.mk H
                  clear H
                  have p218 : 0 ≤ (0 : Int) := (by omega)
                  have q218 : 0 < (l1.length : Int) := of_decide_eq_true (by first | (with_reducible assumption) | assumption)
                  obtain ⟨ad218, e218, hx218_0⟩ := Kd.at_int HR1.out 0 p218 q218
                  cases e218
                  have qi218 : (0 < l1.length) = True := eq_true (by omega)
                  (try rw [show ((0 : Int)).toNat = 0 from rfl] at hx218_0)
                  (try rw [Addr.add_zero'] at hx218_0)
                  replace p218 := eq_true p218
                  replace q218 := eq_true q218
                  go_wp2
                  repeat (go_quiet (fail); try go_wp2)
                  go_meet
                  case rel => exact ⟨_, (((rd l1 0) != 0)), (by first | rfl | (simp; done) | (simp [*]; done)), H', ⟨by have := HJ3.out; first | omega | exact Nat.le_refl _⟩, by repeat (first | exact Drawn0.refl _ | apply Drawn0.step)⟩
                · rw [if_neg c13] at H
                  exact absurd H (by simp)
              · rw [if_neg c12] at H
                have c12b0 : (a0 == 17) = false := beq_eq_false_iff_ne.mpr c12
                have c12b1 : (a0 != 17) = true := bne_iff_ne.mpr c12
                (first | rw [c12b0] | (simp only [i64_w, i32_w]; rw [c12b0]) | skip)
                have H' := Aside0.mk H
                clear H
                go_wp2
                repeat (go_quiet (fail); try go_wp2)
                go_meet
                case rel => exact ⟨_, (false), (by first | rfl | (simp; done) | (simp [*]; done)), H', ⟨by have := HJ3.out; first | omega | exact Nat.le_refl _⟩, by repeat (first | exact Drawn0.refl _ | apply Drawn0.step)⟩
            case rest =>
              clear HC11
              try clear c1
              try clear p2
              try clear q2
              try clear hx2
              try clear qi2
              try clear c3
              try clear c5
              try clear c5b0
              try clear c6
              try clear p6
              try clear c7
              try clear c7b0
              try clear c7b1
              try clear c8
              try clear c8b0
              try clear c8b1
              try clear c9
              try clear c9b0
              try clear c9b1
              try clear c10
              try clear c10b0
              try clear c10b1
              try clear c12
              try clear c12b0
              try clear c12b1
              try clear c13
              try clear c13b0
              try clear c13b1
              try clear hx216_0
              try clear hx217_0
              try clear hx218_0
              try clear p2
              try clear p216
              try clear p217
              try clear p218
              try clear q216
              try clear q217
              try clear q218
              obtain ⟨kq, x31_10, rfl, HA, HJ10, ⟨mc10, rfl⟩⟩ := hcut
              cases kq with
              | zero => exact absurd HA.out (by simp [sorrelref06_Apply.j1])
              | succ kj10 =>
                have H := HA.out
                clear HA
                simp only [sorrelref06_Apply.j1] at H
                by_cases c14 : x31_10 = true
                · subst c14
                  have H1 : (if 1 < (l1.length : Int) then (some (rd l1 1, 0)) else (none)) = some (r1, r2) := by rw [if_pos rfl] at H; exact H
                  clear H
                  have H := H1
                  clear H1
                  by_cases c15 : 1 < (l1.length : Int)
                  · rw [if_pos c15] at H
                    have c15b0 : decide (1 < (l1.length : Int)) = true := decide_eq_true c15
                    have c15b1 : decide (1 < l1.length) = true := decide_eq_true (by omega)
                    clear c15
                    simp only [Option.some.injEq, Prod.mk.injEq] at H
                    obtain ⟨rfl, rfl⟩ := H
                    have p219 : 0 ≤ (1 : Int) := (by omega)
                    have q219 : 1 < (l1.length : Int) := of_decide_eq_true (by first | (with_reducible assumption) | assumption)
                    obtain ⟨ad219, e219, hx219_0⟩ := Kd.at_int HR1.out 1 p219 q219
                    cases e219
                    (try simp only [show (1 : Int).toNat = 1 from rfl, Nat.reduceMul, Nat.reduceEqDiff, Go.Addr.add, ↓reduceIte] at hx219_0)
                    have qi219 : (1 < l1.length) = True := eq_true (by omega)
                    (try rw [show ((1 : Int)).toNat = 1 from rfl] at hx219_0)
                    replace p219 := eq_true p219
                    replace q219 := eq_true q219
                    go_wp2
                    repeat (go_quiet (fail); try go_wp2)
                    go_ret2
                    exact ⟨by first | rfl | (simp; done) | (simp [*]; done), by repeat (first | exact Drawn0.refl _ | apply Drawn0.step)⟩
                  · rw [if_neg c15] at H
                    exact absurd H (by simp)
                · replace c14 := Bool.eq_false_iff.mpr c14
                  subst c14
                  have H1 : (if a0 = 17 then (if 2 < (l1.length : Int) then (some (rd l1 2, 0)) else (none)) else (if a0 = 8 then (if 1 < (l1.length : Int) then (if (rd l1 1) = 0 then (some (0, 12)) else (if 0 < (l1.length : Int) then ((sorrelref06_two.f kj10 a0 (rd l1 0) (rd l1 1)).bind fun t224 => (some (t224, 0))) else (none))) else (none)) else (if a0 = 9 then (if 1 < (l1.length : Int) then (if (rd l1 1) = 0 then (some (0, 12)) else (if 0 < (l1.length : Int) then ((sorrelref06_two.f kj10 a0 (rd l1 0) (rd l1 1)).bind fun t228 => (some (t228, 0))) else (none))) else (none)) else (if 0 < (l1.length : Int) then (if 1 < (l1.length : Int) then ((sorrelref06_two.f kj10 a0 (rd l1 0) (rd l1 1)).bind fun t231 => (some (t231, 0))) else (none)) else (none))))) = some (r1, r2) := by rw [if_neg (show ¬ (false = true) by decide)] at H; exact H
                  clear H
                  have H := H1
                  clear H1
                  by_cases c16 : a0 = 17
                  · rw [if_pos c16] at H
                    have c16b0 : (a0 == 17) = true := beq_iff_eq.mpr c16
                    have c16b1 : (a0 != 17) = false := bne_eq_false_iff_eq.mpr c16
                    clear c16
                    by_cases c17 : 2 < (l1.length : Int)
                    · rw [if_pos c17] at H
                      have c17b0 : decide (2 < (l1.length : Int)) = true := decide_eq_true c17
                      have c17b1 : decide (2 < l1.length) = true := decide_eq_true (by omega)
                      clear c17
                      simp only [Option.some.injEq, Prod.mk.injEq] at H
                      obtain ⟨rfl, rfl⟩ := H
                      have p220 : 0 ≤ (2 : Int) := (by omega)
                      have q220 : 2 < (l1.length : Int) := of_decide_eq_true (by first | (with_reducible assumption) | assumption)
                      obtain ⟨ad220, e220, hx220_0⟩ := Kd.at_int HR1.out 2 p220 q220
                      cases e220
                      (try simp only [show (2 : Int).toNat = 2 from rfl, Nat.reduceMul, Nat.reduceEqDiff, Go.Addr.add, ↓reduceIte] at hx220_0)
                      have qi220 : (2 < l1.length) = True := eq_true (by omega)
                      (try rw [show ((2 : Int)).toNat = 2 from rfl] at hx220_0)
                      replace p220 := eq_true p220
                      replace q220 := eq_true q220
                      go_wp2
                      repeat (go_quiet (fail); try go_wp2)
                      go_ret2
                      exact ⟨by first | rfl | (simp; done) | (simp [*]; done), by repeat (first | exact Drawn0.refl _ | apply Drawn0.step)⟩
                    · rw [if_neg c17] at H
                      exact absurd H (by simp)
                  · rw [if_neg c16] at H
                    have c16b0 : (a0 == 17) = false := beq_eq_false_iff_ne.mpr c16
                    have c16b1 : (a0 != 17) = true := bne_iff_ne.mpr c16
                    by_cases c18 : a0 = 8
                    · rw [if_pos c18] at H
                      have c18b0 : (a0 == 8) = true := beq_iff_eq.mpr c18
                      have c18b1 : (a0 != 8) = false := bne_eq_false_iff_eq.mpr c18
                      clear c18
                      by_cases c19 : 1 < (l1.length : Int)
                      · rw [if_pos c19] at H
                        have c19b0 : decide (1 < (l1.length : Int)) = true := decide_eq_true c19
                        have c19b1 : decide (1 < l1.length) = true := decide_eq_true (by omega)
                        clear c19
                        by_cases c20 : (rd l1 1) = 0
                        · rw [if_pos c20] at H
                          have c20b0 : ((rd l1 1) == 0) = true := beq_iff_eq.mpr c20
                          have c20b1 : ((rd l1 1) != 0) = false := bne_eq_false_iff_eq.mpr c20
                          clear c20
                          simp only [Option.some.injEq, Prod.mk.injEq] at H
                          obtain ⟨rfl, rfl⟩ := H
                          have p221 : 0 ≤ (1 : Int) := (by omega)
                          have q221 : 1 < (l1.length : Int) := of_decide_eq_true (by first | (with_reducible assumption) | assumption)
                          obtain ⟨ad221, e221, hx221_0⟩ := Kd.at_int HR1.out 1 p221 q221
                          cases e221
                          (try simp only [show (1 : Int).toNat = 1 from rfl, Nat.reduceMul, Nat.reduceEqDiff, Go.Addr.add, ↓reduceIte] at hx221_0)
                          have qi221 : (1 < l1.length) = True := eq_true (by omega)
                          (try rw [show ((1 : Int)).toNat = 1 from rfl] at hx221_0)
                          replace p221 := eq_true p221
                          replace q221 := eq_true q221
                          go_wp2
                          repeat (go_quiet (fail); try go_wp2)
                          go_ret2
                          exact ⟨by first | rfl | (simp; done) | (simp [*]; done), by repeat (first | exact Drawn0.refl _ | apply Drawn0.step)⟩
                        · rw [if_neg c20] at H
                          have c20b0 : ((rd l1 1) == 0) = false := beq_eq_false_iff_ne.mpr c20
                          have c20b1 : ((rd l1 1) != 0) = true := bne_iff_ne.mpr c20
                          by_cases c21 : 0 < (l1.length : Int)
                          · rw [if_pos c21] at H
                            have c21b0 : decide (0 < (l1.length : Int)) = true := decide_eq_true c21
                            have c21b1 : decide (0 < l1.length) = true := decide_eq_true (by omega)
                            clear c21
                            replace H := Option.bind_eq_some_iff.mp H
                            obtain ⟨t224, A220, H⟩ := H
                            replace H : (some (t224, 0)) = some (r1, r2) := H
                            have A22 := Aside0.mk A220
                            clear A220
                            simp only [Option.some.injEq, Prod.mk.injEq] at H
                            obtain ⟨rfl, rfl⟩ := H
                            have p221 : 0 ≤ (1 : Int) := (by omega)
                            have q221 : 1 < (l1.length : Int) := of_decide_eq_true (by first | (with_reducible assumption) | assumption)
                            obtain ⟨ad221, e221, hx221_0⟩ := Kd.at_int HR1.out 1 p221 q221
                            cases e221
                            (try simp only [show (1 : Int).toNat = 1 from rfl, Nat.reduceMul, Nat.reduceEqDiff, Go.Addr.add, ↓reduceIte] at hx221_0)
                            have qi221 : (1 < l1.length) = True := eq_true (by omega)
                            (try rw [show ((1 : Int)).toNat = 1 from rfl] at hx221_0)
                            replace p221 := eq_true p221
                            replace q221 := eq_true q221
                            have p222 : 0 ≤ (0 : Int) := (by omega)
                            have q222 : 0 < (l1.length : Int) := of_decide_eq_true (by first | (with_reducible assumption) | assumption)
                            obtain ⟨ad222, e222, hx222_0⟩ := Kd.at_int HR1.out 0 p222 q222
                            obtain rfl : ad221 = ad222 := (by injection e222)
                            have qi222 : (0 < l1.length) = True := eq_true (by omega)
                            (try rw [show ((0 : Int)).toNat = 0 from rfl] at hx222_0)
                            (try rw [Addr.add_zero'] at hx222_0)
                            replace p222 := eq_true p222
                            replace q222 := eq_true q222
                            have p223 : 0 ≤ (1 : Int) := (by omega)
                            have q223 : 1 < (l1.length : Int) := of_decide_eq_true (by first | (with_reducible assumption) | assumption)
                            obtain ⟨ad223, e223, hx223_0⟩ := Kd.at_int HR1.out 1 p223 q223
                            obtain rfl : ad221 = ad223 := (by injection e223)
                            (try simp only [show (1 : Int).toNat = 1 from rfl, Nat.reduceMul, Nat.reduceEqDiff, Go.Addr.add, ↓reduceIte] at hx223_0)
                            have qi223 : (1 < l1.length) = True := eq_true (by omega)
                            (try rw [show ((1 : Int)).toNat = 1 from rfl] at hx223_0)
                            replace p223 := eq_true p223
                            replace q223 := eq_true q223
                            go_wp2_with (first | (go_at_call 154; (with_reducible refine (sorrelref06_two.calls kj10 a0 (rd l1 0) (rd l1 1) t224 _ A22.out).mono ?_); rintro e w' ⟨rfl, ⟨nd, rfl⟩⟩; (try first | exact ⟨rfl, _, World.drewN_drewN _ _ _⟩ | exact ⟨rfl, _, Eq.trans (World.drewN_drewN _ _ _) (congrArg (World.drewN _) (Nat.add_assoc _ _ _))⟩)))
                            repeat (go_quiet (first | (go_at_call 154; (with_reducible refine (sorrelref06_two.calls kj10 a0 (rd l1 0) (rd l1 1) t224 _ A22.out).mono ?_); rintro e w' ⟨rfl, ⟨nd, rfl⟩⟩; (try first | exact ⟨rfl, _, World.drewN_drewN _ _ _⟩ | exact ⟨rfl, _, Eq.trans (World.drewN_drewN _ _ _) (congrArg (World.drewN _) (Nat.add_assoc _ _ _))⟩))); try go_wp2_with (first | (go_at_call 154; (with_reducible refine (sorrelref06_two.calls kj10 a0 (rd l1 0) (rd l1 1) t224 _ A22.out).mono ?_); rintro e w' ⟨rfl, ⟨nd, rfl⟩⟩; (try first | exact ⟨rfl, _, World.drewN_drewN _ _ _⟩ | exact ⟨rfl, _, Eq.trans (World.drewN_drewN _ _ _) (congrArg (World.drewN _) (Nat.add_assoc _ _ _))⟩))))
                            go_ret2
                            exact ⟨by first | rfl | (simp; done) | (simp [*]; done), by repeat (first | exact Drawn0.refl _ | apply Drawn0.step)⟩
                          · rw [if_neg c21] at H
                            exact absurd H (by simp)
                      · rw [if_neg c19] at H
                        exact absurd H (by simp)
                    · rw [if_neg c18] at H
                      have c18b0 : (a0 == 8) = false := beq_eq_false_iff_ne.mpr c18
                      have c18b1 : (a0 != 8) = true := bne_iff_ne.mpr c18
                      by_cases c23 : a0 = 9
                      · rw [if_pos c23] at H
                        have c23b0 : (a0 == 9) = true := beq_iff_eq.mpr c23
                        have c23b1 : (a0 != 9) = false := bne_eq_false_iff_eq.mpr c23
                        clear c23
                        by_cases c24 : 1 < (l1.length : Int)
                        · rw [if_pos c24] at H
                          have c24b0 : decide (1 < (l1.length : Int)) = true := decide_eq_true c24
                          have c24b1 : decide (1 < l1.length) = true := decide_eq_true (by omega)
                          clear c24
                          by_cases c25 : (rd l1 1) = 0
                          · rw [if_pos c25] at H
                            have c25b0 : ((rd l1 1) == 0) = true := beq_iff_eq.mpr c25
                            have c25b1 : ((rd l1 1) != 0) = false := bne_eq_false_iff_eq.mpr c25
                            clear c25
                            simp only [Option.some.injEq, Prod.mk.injEq] at H
                            obtain ⟨rfl, rfl⟩ := H
                            have p225 : 0 ≤ (1 : Int) := (by omega)
                            have q225 : 1 < (l1.length : Int) := of_decide_eq_true (by first | (with_reducible assumption) | assumption)
                            obtain ⟨ad225, e225, hx225_0⟩ := Kd.at_int HR1.out 1 p225 q225
                            cases e225
                            (try simp only [show (1 : Int).toNat = 1 from rfl, Nat.reduceMul, Nat.reduceEqDiff, Go.Addr.add, ↓reduceIte] at hx225_0)
                            have qi225 : (1 < l1.length) = True := eq_true (by omega)
                            (try rw [show ((1 : Int)).toNat = 1 from rfl] at hx225_0)
                            replace p225 := eq_true p225
                            replace q225 := eq_true q225
                            go_wp2
                            repeat (go_quiet (fail); try go_wp2)
                            go_ret2
                            exact ⟨by first | rfl | (simp; done) | (simp [*]; done), by repeat (first | exact Drawn0.refl _ | apply Drawn0.step)⟩
                          · rw [if_neg c25] at H
                            have c25b0 : ((rd l1 1) == 0) = false := beq_eq_false_iff_ne.mpr c25
                            have c25b1 : ((rd l1 1) != 0) = true := bne_iff_ne.mpr c25
                            by_cases c26 : 0 < (l1.length : Int)
                            · rw [if_pos c26] at H
                              have c26b0 : decide (0 < (l1.length : Int)) = true := decide_eq_true c26
                              have c26b1 : decide (0 < l1.length) = true := decide_eq_true (by omega)
                              clear c26
                              replace H := Option.bind_eq_some_iff.mp H
                              obtain ⟨t228, A270, H⟩ := H
                              replace H : (some (t228, 0)) = some (r1, r2) := H
                              have A27 := Aside0.mk A270
                              clear A270
                              simp only [Option.some.injEq, Prod.mk.injEq] at H
                              obtain ⟨rfl, rfl⟩ := H
                              have p225 : 0 ≤ (1 : Int) := (by omega)
                              have q225 : 1 < (l1.length : Int) := of_decide_eq_true (by first | (with_reducible assumption) | assumption)
                              obtain ⟨ad225, e225, hx225_0⟩ := Kd.at_int HR1.out 1 p225 q225
                              cases e225
                              (try simp only [show (1 : Int).toNat = 1 from rfl, Nat.reduceMul, Nat.reduceEqDiff, Go.Addr.add, ↓reduceIte] at hx225_0)
                              have qi225 : (1 < l1.length) = True := eq_true (by omega)
                              (try rw [show ((1 : Int)).toNat = 1 from rfl] at hx225_0)
                              replace p225 := eq_true p225
                              replace q225 := eq_true q225
                              have p226 : 0 ≤ (0 : Int) := (by omega)
                              have q226 : 0 < (l1.length : Int) := of_decide_eq_true (by first | (with_reducible assumption) | assumption)
                              obtain ⟨ad226, e226, hx226_0⟩ := Kd.at_int HR1.out 0 p226 q226
                              obtain rfl : ad225 = ad226 := (by injection e226)
                              have qi226 : (0 < l1.length) = True := eq_true (by omega)
                              (try rw [show ((0 : Int)).toNat = 0 from rfl] at hx226_0)
                              (try rw [Addr.add_zero'] at hx226_0)
                              replace p226 := eq_true p226
                              replace q226 := eq_true q226
                              have p227 : 0 ≤ (1 : Int) := (by omega)
                              have q227 : 1 < (l1.length : Int) := of_decide_eq_true (by first | (with_reducible assumption) | assumption)
                              obtain ⟨ad227, e227, hx227_0⟩ := Kd.at_int HR1.out 1 p227 q227
                              obtain rfl : ad225 = ad227 := (by injection e227)
                              (try simp only [show (1 : Int).toNat = 1 from rfl, Nat.reduceMul, Nat.reduceEqDiff, Go.Addr.add, ↓reduceIte] at hx227_0)
                              have qi227 : (1 < l1.length) = True := eq_true (by omega)
                              (try rw [show ((1 : Int)).toNat = 1 from rfl] at hx227_0)
                              replace p227 := eq_true p227
                              replace q227 := eq_true q227
                              go_wp2_with (first | (go_at_call 154; (with_reducible refine (sorrelref06_two.calls kj10 a0 (rd l1 0) (rd l1 1) t228 _ A27.out).mono ?_); rintro e w' ⟨rfl, ⟨nd, rfl⟩⟩; (try first | exact ⟨rfl, _, World.drewN_drewN _ _ _⟩ | exact ⟨rfl, _, Eq.trans (World.drewN_drewN _ _ _) (congrArg (World.drewN _) (Nat.add_assoc _ _ _))⟩)))
                              repeat (go_quiet (first | (go_at_call 154; (with_reducible refine (sorrelref06_two.calls kj10 a0 (rd l1 0) (rd l1 1) t228 _ A27.out).mono ?_); rintro e w' ⟨rfl, ⟨nd, rfl⟩⟩; (try first | exact ⟨rfl, _, World.drewN_drewN _ _ _⟩ | exact ⟨rfl, _, Eq.trans (World.drewN_drewN _ _ _) (congrArg (World.drewN _) (Nat.add_assoc _ _ _))⟩))); try go_wp2_with (first | (go_at_call 154; (with_reducible refine (sorrelref06_two.calls kj10 a0 (rd l1 0) (rd l1 1) t228 _ A27.out).mono ?_); rintro e w' ⟨rfl, ⟨nd, rfl⟩⟩; (try first | exact ⟨rfl, _, World.drewN_drewN _ _ _⟩ | exact ⟨rfl, _, Eq.trans (World.drewN_drewN _ _ _) (congrArg (World.drewN _) (Nat.add_assoc _ _ _))⟩))))
                              go_ret2
                              exact ⟨by first | rfl | (simp; done) | (simp [*]; done), by repeat (first | exact Drawn0.refl _ | apply Drawn0.step)⟩
                            · rw [if_neg c26] at H
                              exact absurd H (by simp)
                        · rw [if_neg c24] at H
                          exact absurd H (by simp)
                      · rw [if_neg c23] at H
                        have c23b0 : (a0 == 9) = false := beq_eq_false_iff_ne.mpr c23
                        have c23b1 : (a0 != 9) = true := bne_iff_ne.mpr c23
                        by_cases c28 : 0 < (l1.length : Int)
                        · rw [if_pos c28] at H
                          have c28b0 : decide (0 < (l1.length : Int)) = true := decide_eq_true c28
                          have c28b1 : decide (0 < l1.length) = true := decide_eq_true (by omega)
                          clear c28
                          by_cases c29 : 1 < (l1.length : Int)
                          · rw [if_pos c29] at H
                            have c29b0 : decide (1 < (l1.length : Int)) = true := decide_eq_true c29
                            have c29b1 : decide (1 < l1.length) = true := decide_eq_true (by omega)
                            clear c29
                            replace H := Option.bind_eq_some_iff.mp H
                            obtain ⟨t231, A300, H⟩ := H
                            replace H : (some (t231, 0)) = some (r1, r2) := H
                            have A30 := Aside0.mk A300
                            clear A300
                            simp only [Option.some.injEq, Prod.mk.injEq] at H
                            obtain ⟨rfl, rfl⟩ := H
                            have p229 : 0 ≤ (0 : Int) := (by omega)
                            have q229 : 0 < (l1.length : Int) := of_decide_eq_true (by first | (with_reducible assumption) | assumption)
                            obtain ⟨ad229, e229, hx229_0⟩ := Kd.at_int HR1.out 0 p229 q229
                            cases e229
                            have qi229 : (0 < l1.length) = True := eq_true (by omega)
                            (try rw [show ((0 : Int)).toNat = 0 from rfl] at hx229_0)
                            (try rw [Addr.add_zero'] at hx229_0)
                            replace p229 := eq_true p229
                            replace q229 := eq_true q229
                            have p230 : 0 ≤ (1 : Int) := (by omega)
                            have q230 : 1 < (l1.length : Int) := of_decide_eq_true (by first | (with_reducible assumption) | assumption)
                            obtain ⟨ad230, e230, hx230_0⟩ := Kd.at_int HR1.out 1 p230 q230
                            obtain rfl : ad229 = ad230 := (by injection e230)
                            (try simp only [show (1 : Int).toNat = 1 from rfl, Nat.reduceMul, Nat.reduceEqDiff, Go.Addr.add, ↓reduceIte] at hx230_0)
                            have qi230 : (1 < l1.length) = True := eq_true (by omega)
                            (try rw [show ((1 : Int)).toNat = 1 from rfl] at hx230_0)
                            replace p230 := eq_true p230
                            replace q230 := eq_true q230
                            go_wp2_with (first | (go_at_call 154; (with_reducible refine (sorrelref06_two.calls kj10 a0 (rd l1 0) (rd l1 1) t231 _ A30.out).mono ?_); rintro e w' ⟨rfl, ⟨nd, rfl⟩⟩; (try first | exact ⟨rfl, _, World.drewN_drewN _ _ _⟩ | exact ⟨rfl, _, Eq.trans (World.drewN_drewN _ _ _) (congrArg (World.drewN _) (Nat.add_assoc _ _ _))⟩)))
                            repeat (go_quiet (first | (go_at_call 154; (with_reducible refine (sorrelref06_two.calls kj10 a0 (rd l1 0) (rd l1 1) t231 _ A30.out).mono ?_); rintro e w' ⟨rfl, ⟨nd, rfl⟩⟩; (try first | exact ⟨rfl, _, World.drewN_drewN _ _ _⟩ | exact ⟨rfl, _, Eq.trans (World.drewN_drewN _ _ _) (congrArg (World.drewN _) (Nat.add_assoc _ _ _))⟩))); try go_wp2_with (first | (go_at_call 154; (with_reducible refine (sorrelref06_two.calls kj10 a0 (rd l1 0) (rd l1 1) t231 _ A30.out).mono ?_); rintro e w' ⟨rfl, ⟨nd, rfl⟩⟩; (try first | exact ⟨rfl, _, World.drewN_drewN _ _ _⟩ | exact ⟨rfl, _, Eq.trans (World.drewN_drewN _ _ _) (congrArg (World.drewN _) (Nat.add_assoc _ _ _))⟩))))
                            go_ret2
                            exact ⟨by first | rfl | (simp; done) | (simp [*]; done), by repeat (first | exact Drawn0.refl _ | apply Drawn0.step)⟩
                          · rw [if_neg c29] at H
                            exact absurd H (by simp)
                        · rw [if_neg c28] at H
                          exact absurd H (by simp)

/-! ### sorrelref08_Value: function 97 -/
mutual
def sorrelref08_Value.l0 : Nat → List (S45) → List (S70) → List Int → Int → Int → Int → ByteArray → List Int → Option (Int × Bool)
  | 0, _, _, _, _, _, _, _, _ => none
  | k + 1, x0, x2, x9, x10, x234000, x234001, x234002, x234003 => if x10 < (x234003.length : Int) then (if 0 ≤ x10 then ((sorrelref08_Value.f k x0 (rd x234003 x10) x2).bind fun bt236 => (if bt236.2 = true then (if x9.length < 17592186044416 then (sorrelref08_Value.l0 k x0 x2 (x9 ++ [bt236.1]) (wrap64 (x10 + 1)) x234000 x234001 x234002 x234003) else (none)) else (some (0, false)))) else (none)) else ((sorrelref06_Apply.f k x234000 x9).bind fun bt241 => (some (bt241.1, (bt241.2 == 0))))
def sorrelref08_Value.f : Nat → List (S45) → Int → List (S70) → Option (Int × Bool)
  | 0, _, _, _ => none
  | k + 1, l0, a1, l2 => if 0 ≤ a1 then (if a1 < (l0.length : Int) then (if ((rd_T45 l0 a1).f0) = 1 then (some ((rd_T45 l0 a1).f1, true)) else (if ((rd_T45 l0 a1).f0) = 2 then ((sorrelref07_Get.f k l2 ((rd_T45 l0 a1).f2)).bind fun t234 => (some (t234, true))) else (sorrelref08_Value.l0 k l0 l2 ([] : List Int) 0 ((rd_T45 l0 a1).f0) ((rd_T45 l0 a1).f1) ((rd_T45 l0 a1).f2) ((rd_T45 l0 a1).f3)))) else (none)) else (none)
end
theorem sorrelref08_Value.mono_l : ∀ k, (∀ y0 y1 y2, LeO (sorrelref08_Value.f k y0 y1 y2) (sorrelref08_Value.f (k + 1) y0 y1 y2)) ∧ (∀ y0 y1 y2 y3 y4 y5 y6 y7, LeO (sorrelref08_Value.l0 k y0 y1 y2 y3 y4 y5 y6 y7) (sorrelref08_Value.l0 (k + 1) y0 y1 y2 y3 y4 y5 y6 y7))
  | 0 => ⟨fun _ _ _ r h => by simp [sorrelref08_Value.f] at h, fun _ _ _ _ _ _ _ _ r h => by simp [sorrelref08_Value.l0] at h⟩
  | k + 1 => by
    obtain ⟨ih0, ih1⟩ := sorrelref08_Value.mono_l k
    refine ⟨?_, ?_⟩
    · intro y0 y1 y2
      unfold sorrelref08_Value.f
      repeat' first
      | (with_reducible exact ih0 _ _ _)
      | (with_reducible exact ih1 _ _ _ _ _ _ _ _)
      | (with_reducible exact sorrelref06_Apply.mono _ _ _)
      | (with_reducible exact sorrelref07_Get.mono _ _ _)
      | (with_reducible exact LeO.refl _)
      | (with_reducible exact LeO.none _)
      | (with_reducible refine LeO.ite ?_ ?_)
      | (with_reducible refine LeO.bind ?_ (fun _ => ?_))
      | exact ih0 _ _ _
      | exact ih1 _ _ _ _ _ _ _ _
      | exact sorrelref06_Apply.mono _ _ _
      | exact sorrelref07_Get.mono _ _ _
      | exact LeO.none _
      | refine LeO.ite ?_ ?_
      | refine LeO.bind ?_ (fun _ => ?_)
    · intro y0 y1 y2 y3 y4 y5 y6 y7
      unfold sorrelref08_Value.l0
      repeat' first
      | (with_reducible exact ih0 _ _ _)
      | (with_reducible exact ih1 _ _ _ _ _ _ _ _)
      | (with_reducible exact sorrelref06_Apply.mono _ _ _)
      | (with_reducible exact sorrelref07_Get.mono _ _ _)
      | (with_reducible exact LeO.refl _)
      | (with_reducible exact LeO.none _)
      | (with_reducible refine LeO.ite ?_ ?_)
      | (with_reducible refine LeO.bind ?_ (fun _ => ?_))
      | exact ih0 _ _ _
      | exact ih1 _ _ _ _ _ _ _ _
      | exact sorrelref06_Apply.mono _ _ _
      | exact sorrelref07_Get.mono _ _ _
      | exact LeO.none _
      | refine LeO.ite ?_ ?_
      | refine LeO.bind ?_ (fun _ => ?_)
theorem sorrelref08_Value.mono : ∀ a0 a1 a2 k, LeO (sorrelref08_Value.f k a0 a1 a2) (sorrelref08_Value.f (k + 1) a0 a1 a2) := by
  intro a0 a1 a2 k
  obtain ⟨ih0, ih1⟩ := sorrelref08_Value.mono_l k
  exact ih0 a0 a1 a2
set_option maxHeartbeats 8000000 in
set_option maxRecDepth 100000 in
theorem sorrelref08_Value.calls (k : Nat) : ∀ (A0 : Option Addr) (c0 : Nat) (l0 : List (S45)) (a1 : Int) (A2 : Option Addr) (c2 : Nat) (l2 : List (S70)) (r1 : Int) (r2 : Bool) (w : World) (hr0 : Kd.C k45 w A0 l0.length l0) (hc0 : l0.length ≤ c0) (hr2 : Kd.C k70 w A2 l2.length l2) (hc2 : l2.length ≤ c2) (h : sorrelref08_Value.f k l0 a1 l2 = some (r1, r2)),
    Calls Tryd.prog 97 #[.slice A0 l0.length c0, .int .i64 a1, .slice A2 l2.length c2] w fun e w' => e = .returned (.tuple #[.int .i64 r1, .bool r2]) ∧ Below w.heap.size w w' := by
  induction k using Nat.strongRecOn with
  | _ k ih =>
  intro A0 c0 l0 a1 A2 c2 l2 r1 r2 w hr0 hc0 hr2 hc2 h
  cases k with
  | zero => exact absurd h (by simp [sorrelref08_Value.f])
  | succ k =>
  simp only [sorrelref08_Value.f] at h
  have hu45 := Tryd.underlying45
  have HR0 := Aside0.mk hr0
  have HC0 := Aside0.mk hc0
  clear hr0 hc0
  have HR2 := Aside0.mk hr2
  have HC2 := Aside0.mk hc2
  clear hr2 hc2
  have HB := Aside0.mk (Below.refl w.heap.size w)
  have H : (if 0 ≤ a1 then (if a1 < (l0.length : Int) then (if ((rd_T45 l0 a1).f0) = 1 then (some ((rd_T45 l0 a1).f1, true)) else (if ((rd_T45 l0 a1).f0) = 2 then ((sorrelref07_Get.f k l2 ((rd_T45 l0 a1).f2)).bind fun t234 => (some (t234, true))) else (sorrelref08_Value.l0 k l0 l2 ([] : List Int) 0 ((rd_T45 l0 a1).f0) ((rd_T45 l0 a1).f1) ((rd_T45 l0 a1).f2) ((rd_T45 l0 a1).f3)))) else (none)) else (none)) = some (r1, r2) := h
  clear h
  by_cases c4 : 0 ≤ a1
  · rw [if_pos c4] at H
    have c4b0 : decide (0 ≤ a1) = true := decide_eq_true c4
    clear c4
    by_cases c5 : a1 < (l0.length : Int)
    · rw [if_pos c5] at H
      have c5b0 : decide (a1 < (l0.length : Int)) = true := decide_eq_true c5
      clear c5
      by_cases c6 : ((rd_T45 l0 a1).f0) = 1
      · rw [if_pos c6] at H
        have c6b0 : (((rd_T45 l0 a1).f0) == 1) = true := beq_iff_eq.mpr c6
        have c6b1 : (((rd_T45 l0 a1).f0) != 1) = false := bne_eq_false_iff_eq.mpr c6
        clear c6
        simp only [Option.some.injEq, Prod.mk.injEq] at H
        obtain ⟨rfl, rfl⟩ := H
        have p232 : 0 ≤ (a1 : Int) := of_decide_eq_true (by first | (with_reducible assumption) | assumption)
        have q232 : a1 < (l0.length : Int) := of_decide_eq_true (by first | (with_reducible assumption) | assumption)
        obtain ⟨ad232, A232_3, c232_3, e232, hx232_0, hx232_1, hx232_2, hx232_3, hl232_3, hi232_3⟩ := at_T45 HR0.out a1 p232 q232
        cases e232
        have HR232_3 := Aside0.mk hi232_3
        have HC232_3 := Aside0.mk hl232_3
        clear hi232_3 hl232_3
        replace p232 := eq_true p232
        replace q232 := eq_true q232
        go_enter Tryd.func97, Tryd.ntmps97
        go_wp2_with (first | ((with_reducible refine gate_dst (N := 8) rfl ?_); refine box_event ?hg (N := 8) ?hd (cs := #[.int .i64 0, .int .i64 0, .string (⟨#[]⟩ : ByteArray), .slice none 0 0]) (t := 45) ?hr ?_; (case hd => rfl); (case hg => rfl); (case hr => first | (go_simp; done) | (go_simp; rfl)); intro gb233 hg w7 hbox hb; have n0_ := Aside0.mk (below_step (by repeat (first | (with_reducible first | exact HB.out | apply below_alloc | apply pw_below_drewN | apply below_drew1) | exact HB.out)) hb); have n1_ := Aside0.mk (hbox); have n2_ := Aside0.mk ((by rw [hg]; exact (below_size (by repeat (first | (with_reducible first | exact HB.out | apply below_alloc | apply pw_below_drewN | apply below_drew1) | exact HB.out))) : w.heap.size ≤ gb233)); have n3_ := Aside0.mk ((by rw [hg]; exact (below_size (by repeat (first | (with_reducible first | exact HB.out | apply below_alloc | apply pw_below_drewN | apply below_drew1) | exact HB.out))) : w.heap.size ≤ gb233)); clear HB; have HB := n0_; have BK233 := n1_; have GW233 := n2_; have GE233 := n3_; clear n0_ n1_ n2_ n3_; clear hb hbox hg; have hcz8_0 : w7.cell? ⟨gb233, 0, none⟩ = some (.int .i64 0) := (blk_cell BK233.out 0).trans rfl; have hcz8_1 : w7.cell? ⟨gb233, 1, none⟩ = some (.int .i64 0) := (blk_cell BK233.out 1).trans rfl; have hcz8_2 : w7.cell? ⟨gb233, 2, none⟩ = some (.string (⟨#[]⟩ : ByteArray)) := (blk_cell BK233.out 2).trans rfl; have hcz8_3 : w7.cell? ⟨gb233, 3, none⟩ = some (.slice none 0 0) := (blk_cell BK233.out 3).trans rfl; have hfz8_0 := blk_frozen BK233.out 0; have hfz8_1 := blk_frozen BK233.out 1; have hfz8_2 := blk_frozen BK233.out 2; have hfz8_3 := blk_frozen BK233.out 3))
        go_ret2
        exact ⟨by first | rfl | (simp [errW_none, errW_some] <;> rfl) | (simp [*, errW_none, errW_some] <;> rfl), by repeat (first | (with_reducible first | exact HB.out | apply below_alloc | apply pw_below_drewN | apply below_drew1 | refine below_set ?_ GE233.out) | exact HB.out)⟩
      · rw [if_neg c6] at H
        have c6b0 : (((rd_T45 l0 a1).f0) == 1) = false := beq_eq_false_iff_ne.mpr c6
        have c6b1 : (((rd_T45 l0 a1).f0) != 1) = true := bne_iff_ne.mpr c6
        by_cases c9 : ((rd_T45 l0 a1).f0) = 2
        · rw [if_pos c9] at H
          have c9b0 : (((rd_T45 l0 a1).f0) == 2) = true := beq_iff_eq.mpr c9
          have c9b1 : (((rd_T45 l0 a1).f0) != 2) = false := bne_eq_false_iff_eq.mpr c9
          clear c9
          replace H := Option.bind_eq_some_iff.mp H
          obtain ⟨t234, A100, H⟩ := H
          replace H : (some (t234, true)) = some (r1, r2) := H
          have A10 := Aside0.mk A100
          clear A100
          simp only [Option.some.injEq, Prod.mk.injEq] at H
          obtain ⟨rfl, rfl⟩ := H
          have p232 : 0 ≤ (a1 : Int) := of_decide_eq_true (by first | (with_reducible assumption) | assumption)
          have q232 : a1 < (l0.length : Int) := of_decide_eq_true (by first | (with_reducible assumption) | assumption)
          obtain ⟨ad232, A232_3, c232_3, e232, hx232_0, hx232_1, hx232_2, hx232_3, hl232_3, hi232_3⟩ := at_T45 HR0.out a1 p232 q232
          cases e232
          have HR232_3 := Aside0.mk hi232_3
          have HC232_3 := Aside0.mk hl232_3
          clear hi232_3 hl232_3
          replace p232 := eq_true p232
          replace q232 := eq_true q232
          go_enter Tryd.func97, Tryd.ntmps97
          go_wp2_with (first | ((with_reducible refine gate_dst (N := 8) rfl ?_); refine box_event ?hg (N := 8) ?hd (cs := #[.int .i64 0, .int .i64 0, .string (⟨#[]⟩ : ByteArray), .slice none 0 0]) (t := 45) ?hr ?_; (case hd => rfl); (case hg => rfl); (case hr => first | (go_simp; done) | (go_simp; rfl)); intro gb233 hg w11 hbox hb; have n0_ := Aside0.mk (below_step (by repeat (first | (with_reducible first | exact HB.out | apply below_alloc | apply pw_below_drewN | apply below_drew1) | exact HB.out)) hb); have n1_ := Aside0.mk (hbox); have n2_ := Aside0.mk ((by rw [hg]; exact (below_size (by repeat (first | (with_reducible first | exact HB.out | apply below_alloc | apply pw_below_drewN | apply below_drew1) | exact HB.out))) : w.heap.size ≤ gb233)); have n3_ := Aside0.mk ((by rw [hg]; exact (below_size (by repeat (first | (with_reducible first | exact HB.out | apply below_alloc | apply pw_below_drewN | apply below_drew1) | exact HB.out))) : w.heap.size ≤ gb233)); clear HB; have HB := n0_; have BK233 := n1_; have GW233 := n2_; have GE233 := n3_; clear n0_ n1_ n2_ n3_; clear hb hbox hg; have hcz12_0 : w11.cell? ⟨gb233, 0, none⟩ = some (.int .i64 0) := (blk_cell BK233.out 0).trans rfl; have hcz12_1 : w11.cell? ⟨gb233, 1, none⟩ = some (.int .i64 0) := (blk_cell BK233.out 1).trans rfl; have hcz12_2 : w11.cell? ⟨gb233, 2, none⟩ = some (.string (⟨#[]⟩ : ByteArray)) := (blk_cell BK233.out 2).trans rfl; have hcz12_3 : w11.cell? ⟨gb233, 3, none⟩ = some (.slice none 0 0) := (blk_cell BK233.out 3).trans rfl; have hfz12_0 := blk_frozen BK233.out 0; have hfz12_1 := blk_frozen BK233.out 1; have hfz12_2 := blk_frozen BK233.out 2; have hfz12_3 := blk_frozen BK233.out 3) | ((with_reducible refine gate_callee (f := 135) rfl ?_); refine goesL_ (some 30) rfl rfl Tryd.func135 (by kernel_rfl) rfl #[.slice A2 l2.length c2, .string ((rd_T45 l0 a1).f2)] rfl (by (try simp only [List.map_toArray, List.map_cons, List.map_nil]); first | done | rfl | (simp only [List.length_drop, List.length_take]; rfl)) ?_; (with_reducible refine (sorrelref07_Get.calls k _ _ l2 ((rd_T45 l0 a1).f2) t234 _ ?side1 ?side2 A10.out).mono ?_); (case side1 => exact Kd.C_below HR2.out (by repeat (first | (with_reducible first | exact HB.out | apply below_alloc | apply pw_below_drewN | apply below_drew1 | refine below_set ?_ GE233.out) | exact HB.out))); (case side2 => exact HC2.out); rintro e w' ⟨rfl, ⟨nd, rfl⟩⟩; refine ⟨_, rfl, ?_⟩))
          go_ret2
          exact ⟨by first | rfl | (simp [errW_none, errW_some] <;> rfl) | (simp [*, errW_none, errW_some] <;> rfl), by repeat (first | (with_reducible first | exact HB.out | apply below_alloc | apply pw_below_drewN | apply below_drew1 | refine below_set ?_ GE233.out) | exact HB.out)⟩
        · rw [if_neg c9] at H
          have c9b0 : (((rd_T45 l0 a1).f0) == 2) = false := beq_eq_false_iff_ne.mpr c9
          have c9b1 : (((rd_T45 l0 a1).f0) != 2) = true := bne_iff_ne.mpr c9
          have H' := Aside0.mk H
          clear H
          have p232 : 0 ≤ (a1 : Int) := of_decide_eq_true (by first | (with_reducible assumption) | assumption)
          have q232 : a1 < (l0.length : Int) := of_decide_eq_true (by first | (with_reducible assumption) | assumption)
          obtain ⟨ad232, A232_3, c232_3, e232, hx232_0, hx232_1, hx232_2, hx232_3, hl232_3, hi232_3⟩ := at_T45 HR0.out a1 p232 q232
          cases e232
          have HR232_3 := Aside0.mk hi232_3
          have HC232_3 := Aside0.mk hl232_3
          clear hi232_3 hl232_3
          replace p232 := eq_true p232
          replace q232 := eq_true q232
          go_enter Tryd.func97, Tryd.ntmps97
          go_wp2_with (first | ((with_reducible refine gate_dst (N := 8) rfl ?_); refine box_event ?hg (N := 8) ?hd (cs := #[.int .i64 0, .int .i64 0, .string (⟨#[]⟩ : ByteArray), .slice none 0 0]) (t := 45) ?hr ?_; (case hd => rfl); (case hg => rfl); (case hr => first | (go_simp; done) | (go_simp; rfl)); intro gb233 hg w13 hbox hb; have n0_ := Aside0.mk (below_step (by repeat (first | (with_reducible first | exact HB.out | apply below_alloc | apply pw_below_drewN | apply below_drew1) | exact HB.out)) hb); have n1_ := Aside0.mk (hbox); have n2_ := Aside0.mk ((by rw [hg]; exact (below_size (by repeat (first | (with_reducible first | exact HB.out | apply below_alloc | apply pw_below_drewN | apply below_drew1) | exact HB.out))) : w.heap.size ≤ gb233)); have n3_ := Aside0.mk ((by rw [hg]; exact (below_size (by repeat (first | (with_reducible first | exact HB.out | apply below_alloc | apply pw_below_drewN | apply below_drew1) | exact HB.out))) : w.heap.size ≤ gb233)); clear HB; have HB := n0_; have BK233 := n1_; have GW233 := n2_; have GE233 := n3_; clear n0_ n1_ n2_ n3_; clear hb hbox hg; have hcz14_0 : w13.cell? ⟨gb233, 0, none⟩ = some (.int .i64 0) := (blk_cell BK233.out 0).trans rfl; have hcz14_1 : w13.cell? ⟨gb233, 1, none⟩ = some (.int .i64 0) := (blk_cell BK233.out 1).trans rfl; have hcz14_2 : w13.cell? ⟨gb233, 2, none⟩ = some (.string (⟨#[]⟩ : ByteArray)) := (blk_cell BK233.out 2).trans rfl; have hcz14_3 : w13.cell? ⟨gb233, 3, none⟩ = some (.slice none 0 0) := (blk_cell BK233.out 3).trans rfl; have hfz14_0 := blk_frozen BK233.out 0; have hfz14_1 := blk_frozen BK233.out 1; have hfz14_2 := blk_frozen BK233.out 2; have hfz14_3 := blk_frozen BK233.out 3))
          go_loopg [9, 10] k (fun kq v9 v10 w' => ∃ (x9_1 : List Int) (x10_1 : Int), v10 = .int .i64 x10_1 ∧ Aside0 (sorrelref08_Value.l0 kq l0 l2 x9_1 x10_1 ((rd_T45 l0 a1).f0) ((rd_T45 l0 a1).f1) ((rd_T45 l0 a1).f2) ((rd_T45 l0 a1).f3) = some (r1, r2)) ∧ Aside0 (kq ≤ k) ∧ Aside0 (Kd.R (Kd.int .i64) 2 w' w.heap.size (fun _ => True) v9 x9_1) ∧ Aside0 (w'.heap[gb233]? = some (.cells #[.int .i64 ((rd_T45 l0 a1).f0), .int .i64 ((rd_T45 l0 a1).f1), .string ((rd_T45 l0 a1).f2), (.slice A232_3 ((rd_T45 l0 a1).f3).length c232_3)] 45 (0, 0))) ∧ Aside0 (Below w.heap.size w w'))
          case atStart => exact ⟨(([] : List Int)), (0), (by first | rfl | (simp; done) | (simp [*]; done)), H', ⟨Nat.le_refl _⟩, ⟨by first | exact Kd.R_nil _ _ _ _ _ | exact Kd.N_nil _ _ _ _ _ | exact Kd.V_nil _ _ _ _ _ | exact Kd.Q_nil _ _ _ _ _ | exact Kd.S_nil _ _ _ _ _⟩, ⟨by (with_reducible repeat (first | refine blk_drewN ?_ _ | refine blk_drew ?_ | refine blk_alloc ?_ _)); refine blk_put (cs := #[.int .i64 ((rd_T45 l0 a1).f0), .int .i64 ((rd_T45 l0 a1).f1), .string ((rd_T45 l0 a1).f2), .slice none 0 0]) ?_ 3 _ rfl; (with_reducible repeat (first | refine blk_drewN ?_ _ | refine blk_drew ?_ | refine blk_alloc ?_ _)); refine blk_put (cs := #[.int .i64 ((rd_T45 l0 a1).f0), .int .i64 ((rd_T45 l0 a1).f1), .string (⟨#[]⟩ : ByteArray), .slice none 0 0]) ?_ 2 _ rfl; (with_reducible repeat (first | refine blk_drewN ?_ _ | refine blk_drew ?_ | refine blk_alloc ?_ _)); refine blk_put (cs := #[.int .i64 ((rd_T45 l0 a1).f0), .int .i64 0, .string (⟨#[]⟩ : ByteArray), .slice none 0 0]) ?_ 1 _ rfl; (with_reducible repeat (first | refine blk_drewN ?_ _ | refine blk_drew ?_ | refine blk_alloc ?_ _)); refine blk_put (cs := #[.int .i64 0, .int .i64 0, .string (⟨#[]⟩ : ByteArray), .slice none 0 0]) ?_ 0 _ rfl; (with_reducible repeat (first | refine blk_drewN ?_ _ | refine blk_drew ?_ | refine blk_alloc ?_ _)); exact BK233.out⟩, ⟨by repeat (first | (with_reducible first | exact HB.out | apply below_alloc | apply pw_below_drewN | apply below_drew1 | refine below_set ?_ GE233.out) | exact HB.out)⟩⟩
          case round =>
            clear H'
            try clear c1
            try clear c2
            try clear p2
            try clear q2
            try clear hx2
            try clear c4
            try clear c4b0
            try clear c5
            try clear c5b0
            try clear c6
            try clear c6b0
            try clear c6b1
            try clear c9
            try clear c9b0
            try clear c9b1
            try clear c13
            try clear hcz12_0
            try clear hcz12_1
            try clear hcz12_2
            try clear hcz12_3
            try clear hcz14_0
            try clear hcz14_1
            try clear hcz14_2
            try clear hcz14_3
            try clear hcz8_0
            try clear hcz8_1
            try clear hcz8_2
            try clear hcz8_3
            try clear hfz12_0
            try clear hfz12_1
            try clear hfz12_2
            try clear hfz12_3
            try clear hfz14_0
            try clear hfz14_1
            try clear hfz14_2
            try clear hfz14_3
            try clear hfz8_0
            try clear hfz8_1
            try clear hfz8_2
            try clear hfz8_3
            try clear hx232_0
            try clear hx232_1
            try clear hx232_2
            try clear hx232_3
            try clear p232
            try clear q232
            obtain ⟨x9_1, x10_1, rfl, HA, HK1, HO_9, BK233, HB⟩ := hrel
            cases gk with
            | zero => exact absurd HA.out (by simp [sorrelref08_Value.l0])
            | succ k1 =>
              have H := HA.out
              clear HA
              simp only [sorrelref08_Value.l0] at H
              by_cases c15 : x10_1 < (((rd_T45 l0 a1).f3).length : Int)
              · rw [if_pos c15] at H
                have c15b0 : decide (x10_1 < (((rd_T45 l0 a1).f3).length : Int)) = true := decide_eq_true c15
                clear c15
                by_cases c16 : 0 ≤ x10_1
                · rw [if_pos c16] at H
                  have c16b0 : decide (0 ≤ x10_1) = true := decide_eq_true c16
                  clear c16
                  replace H := Option.bind_eq_some_iff.mp H
                  obtain ⟨⟨t236, t237⟩, A170, H⟩ := H
                  replace H : (if t237 = true then (if x9_1.length < 17592186044416 then (sorrelref08_Value.l0 k1 l0 l2 (x9_1 ++ [t236]) (wrap64 (x10_1 + 1)) ((rd_T45 l0 a1).f0) ((rd_T45 l0 a1).f1) ((rd_T45 l0 a1).f2) ((rd_T45 l0 a1).f3)) else (none)) else (some (0, false))) = some (r1, r2) := H
                  have A17 := Aside0.mk A170
                  clear A170
                  by_cases c18 : t237 = true
                  · subst c18
                    have H1 : (if x9_1.length < 17592186044416 then (sorrelref08_Value.l0 k1 l0 l2 (x9_1 ++ [t236]) (wrap64 (x10_1 + 1)) ((rd_T45 l0 a1).f0) ((rd_T45 l0 a1).f1) ((rd_T45 l0 a1).f2) ((rd_T45 l0 a1).f3)) else (none)) = some (r1, r2) := by rw [if_pos rfl] at H; exact H
                    clear H
                    have H := H1
                    clear H1
                    by_cases c19 : x9_1.length < 17592186044416
                    · rw [if_pos c19] at H
                      have LMc19 := Aside0.mk c19
                      clear c19
                      obtain ⟨y238, hy238⟩ : ∃ y_ : List Int, y_ = (x9_1 ++ [t236]) := ⟨_, rfl⟩
                      replace H : (sorrelref08_Value.l0 k1 l0 l2 y238 (wrap64 (x10_1 + 1)) ((rd_T45 l0 a1).f0) ((rd_T45 l0 a1).f1) ((rd_T45 l0 a1).f2) ((rd_T45 l0 a1).f3)) = some (r1, r2) := by first | (rw [hy238]; with_reducible exact H) | (have H2_ := (Option.bind_some _ _).symm.trans H; rw [hy238]; with_reducible exact H2_) | (have H2_ := (Option.bind_some _ _).symm.trans H; with_reducible exact H2_) | with_reducible exact H | (rw [hy238]; exact H) | exact H
                      have Ny238 := Aside0.mk hy238
                      clear hy238
                      have H' := Aside0.mk H
                      clear H
                      have hcz20_0 : wr.cell? ⟨gb233, 0, none⟩ = some (.int .i64 ((rd_T45 l0 a1).f0)) := (blk_cell BK233.out 0).trans rfl
                      have hcz20_1 : wr.cell? ⟨gb233, 1, none⟩ = some (.int .i64 ((rd_T45 l0 a1).f1)) := (blk_cell BK233.out 1).trans rfl
                      have hcz20_2 : wr.cell? ⟨gb233, 2, none⟩ = some (.string ((rd_T45 l0 a1).f2)) := (blk_cell BK233.out 2).trans rfl
                      have hcz20_3 : wr.cell? ⟨gb233, 3, none⟩ = some (.slice A232_3 ((rd_T45 l0 a1).f3).length c232_3) := (blk_cell BK233.out 3).trans rfl
                      have hfz20_0 := blk_frozen BK233.out 0
                      have hfz20_1 := blk_frozen BK233.out 1
                      have hfz20_2 := blk_frozen BK233.out 2
                      have hfz20_3 := blk_frozen BK233.out 3
                      have p235 : 0 ≤ (x10_1 : Int) := of_decide_eq_true (by first | (with_reducible assumption) | assumption)
                      have q235 : x10_1 < (((rd_T45 l0 a1).f3).length : Int) := of_decide_eq_true (by first | (with_reducible assumption) | assumption)
                      obtain ⟨ad235, e235, hx235_0⟩ := Kd.at_int HR232_3.out x10_1 p235 q235
                      cases e235
                      replace hx235_0 := (HB.out.cell (World.block_lt_of_cell? w _ hx235_0)).trans hx235_0
                      replace p235 := eq_true p235
                      replace q235 := eq_true q235
                      go_wp2_with (first | ((with_reducible refine gate_callee (f := 97) rfl ?_); refine goesL_ (some 46) rfl rfl Tryd.func97 (by kernel_rfl) rfl #[.slice (some ad232) l0.length c0, .int .i64 (rd ((rd_T45 l0 a1).f3) x10_1), .slice A2 l2.length c2] rfl (by (try simp only [List.map_toArray, List.map_cons, List.map_nil]); first | done | rfl | (simp only [List.length_drop, List.length_take]; rfl)) ?_; (with_reducible refine (ih k1 (by have := HK1.out; omega) _ _ l0 (rd ((rd_T45 l0 a1).f3) x10_1) _ _ l2 t236 true _ ?side1 ?side2 ?side3 ?side4 A17.out).mono ?_); (case side1 => repeat (first | exact (Kd.C_below HR0.out HB.out) | (with_reducible refine Kd.C_alloc ?_ _) | (with_reducible refine Kd.C_drewN ?_ _) | (with_reducible refine Kd.C_drew ?_))); (case side2 => exact HC0.out); (case side3 => repeat (first | exact (Kd.C_below HR2.out HB.out) | (with_reducible refine Kd.C_alloc ?_ _) | (with_reducible refine Kd.C_drewN ?_ _) | (with_reducible refine Kd.C_drew ?_))); (case side4 => exact HC2.out); rintro e w21 ⟨rfl, hb⟩; refine ⟨_, rfl, ?_⟩; have n0_ := Aside0.mk (Kd.R_below (by (with_reducible repeat (first | apply Kd.R_alloc | apply Kd.R_drewN | apply Kd.R_drew)); exact HO_9.out) hb); have n1_ := Aside0.mk (blk_below (g := gb233) (o := .cells #[.int .i64 ((rd_T45 l0 a1).f0), .int .i64 ((rd_T45 l0 a1).f1), .string ((rd_T45 l0 a1).f2), .slice (some ad235) ((rd_T45 l0 a1).f3).length c232_3] 45 (0, 0)) (by (with_reducible repeat (first | refine blk_drewN ?_ _ | refine blk_drew ?_ | refine blk_alloc ?_ _)); exact BK233.out) hb); have n2_ := Aside0.mk (below_step (by repeat (first | (with_reducible first | exact HB.out | apply below_alloc | apply pw_below_drewN | apply below_drew1 | refine below_set ?_ GE233.out) | exact HB.out)) hb); clear HO_9; clear BK233; clear HB; have HO_9 := n0_; have BK233 := n1_; have HB := n2_; clear n0_ n1_ n2_; (try clear hb); (try clear hb2); (try clear hk); (try clear hi)) | ((with_reducible refine gate_builtin (b := .append) (xs := #[.tmp 51, .tmp 53]) rfl ?_); at_builtin; refine Kd.R_append (Kd.int .i64) (w0 := w) w.heap.size rfl (.tmp 51) (.tmp 53) 73 2 (.int .i64 0) 8 rfl Tryd.underlying73 info2 rfl (by decide) (by omega) u9 x9_1 t236 [.int .i64 t236] (fun _ => True) (fun _ => False) rfl rfl ?aP (fun _ hk => hk.elim) ?aF ?aO ?aB ?aS ?aL ?_; (case aP => exact rfl); (case aB => exact (by repeat (first | (with_reducible first | exact HB.out | apply below_alloc | apply pw_below_drewN | apply below_drew1 | refine below_set ?_ GE233.out) | exact HB.out))); (case aF => exact (fun _ _ => trivial)); (case aO => exact (by (with_reducible repeat (first | apply Kd.R_alloc | apply Kd.R_drewN | apply Kd.R_drew)); exact HO_9.out)); (case aS => exact (below_size (by repeat (first | (with_reducible first | exact HB.out | apply below_alloc | apply pw_below_drewN | apply below_drew1 | refine below_set ?_ GE233.out) | exact HB.out)))); (case aL => have := LMc19.out; omega); intro v239 w22 ho hb hg hat; rw [← Ny238.out] at ho; have n0_ := Aside0.mk (blk_grown (g := gb233) (o := .cells #[.int .i64 ((rd_T45 l0 a1).f0), .int .i64 ((rd_T45 l0 a1).f1), .string ((rd_T45 l0 a1).f2), .slice (some ad235) ((rd_T45 l0 a1).f3).length c232_3] 45 (0, 0)) (by (with_reducible repeat (first | refine blk_drewN ?_ _ | refine blk_drew ?_ | refine blk_alloc ?_ _)); exact BK233.out) hg (Kd.R_ne HO_9.out BK233.out (by decide))); have n1_ := Aside0.mk (hb); have n2_ := Aside0.mk (ho); clear BK233; clear HB; clear HO_9; have BK233 := n0_; have HB := n1_; have HO240 := n2_; clear n0_ n1_ n2_; clear ho hb hg hat))
                      go_roundg k1
                      case measure => have := HK1.out; omega
                      case rel => exact ⟨(y238), (wrap64 (x10_1 + 1)), (by first | rfl | (simp; done) | (simp [*]; done)), H', ⟨by have := HK1.out; omega⟩, ⟨by (with_reducible repeat (first | apply Kd.R_alloc | apply Kd.R_drewN | apply Kd.R_drew)); exact HO240.out⟩, ⟨by (with_reducible repeat (first | refine blk_drewN ?_ _ | refine blk_drew ?_ | refine blk_alloc ?_ _)); exact BK233.out⟩, ⟨by repeat (first | (with_reducible first | exact HB.out | apply below_alloc | apply pw_below_drewN | apply below_drew1 | refine below_set ?_ GE233.out) | exact HB.out)⟩⟩
                    · rw [if_neg c19] at H
                      exact absurd H (by simp)
                  · replace c18 := Bool.eq_false_iff.mpr c18
                    subst c18
                    have H1 : (some (0, false)) = some (r1, r2) := by rw [if_neg (show ¬ (false = true) by decide)] at H; exact H
                    clear H
                    have H := H1
                    clear H1
                    simp only [Option.some.injEq, Prod.mk.injEq] at H
                    obtain ⟨rfl, rfl⟩ := H
                    have hcz23_0 : wr.cell? ⟨gb233, 0, none⟩ = some (.int .i64 ((rd_T45 l0 a1).f0)) := (blk_cell BK233.out 0).trans rfl
                    have hcz23_1 : wr.cell? ⟨gb233, 1, none⟩ = some (.int .i64 ((rd_T45 l0 a1).f1)) := (blk_cell BK233.out 1).trans rfl
                    have hcz23_2 : wr.cell? ⟨gb233, 2, none⟩ = some (.string ((rd_T45 l0 a1).f2)) := (blk_cell BK233.out 2).trans rfl
                    have hcz23_3 : wr.cell? ⟨gb233, 3, none⟩ = some (.slice A232_3 ((rd_T45 l0 a1).f3).length c232_3) := (blk_cell BK233.out 3).trans rfl
                    have hfz23_0 := blk_frozen BK233.out 0
                    have hfz23_1 := blk_frozen BK233.out 1
                    have hfz23_2 := blk_frozen BK233.out 2
                    have hfz23_3 := blk_frozen BK233.out 3
                    have p235 : 0 ≤ (x10_1 : Int) := of_decide_eq_true (by first | (with_reducible assumption) | assumption)
                    have q235 : x10_1 < (((rd_T45 l0 a1).f3).length : Int) := of_decide_eq_true (by first | (with_reducible assumption) | assumption)
                    obtain ⟨ad235, e235, hx235_0⟩ := Kd.at_int HR232_3.out x10_1 p235 q235
                    cases e235
                    replace hx235_0 := (HB.out.cell (World.block_lt_of_cell? w _ hx235_0)).trans hx235_0
                    replace p235 := eq_true p235
                    replace q235 := eq_true q235
                    go_wp2_with (first | ((with_reducible refine gate_callee (f := 97) rfl ?_); refine goesL_ (some 46) rfl rfl Tryd.func97 (by kernel_rfl) rfl #[.slice (some ad232) l0.length c0, .int .i64 (rd ((rd_T45 l0 a1).f3) x10_1), .slice A2 l2.length c2] rfl (by (try simp only [List.map_toArray, List.map_cons, List.map_nil]); first | done | rfl | (simp only [List.length_drop, List.length_take]; rfl)) ?_; (with_reducible refine (ih k1 (by have := HK1.out; omega) _ _ l0 (rd ((rd_T45 l0 a1).f3) x10_1) _ _ l2 t236 false _ ?side1 ?side2 ?side3 ?side4 A17.out).mono ?_); (case side1 => repeat (first | exact (Kd.C_below HR0.out HB.out) | (with_reducible refine Kd.C_alloc ?_ _) | (with_reducible refine Kd.C_drewN ?_ _) | (with_reducible refine Kd.C_drew ?_))); (case side2 => exact HC0.out); (case side3 => repeat (first | exact (Kd.C_below HR2.out HB.out) | (with_reducible refine Kd.C_alloc ?_ _) | (with_reducible refine Kd.C_drewN ?_ _) | (with_reducible refine Kd.C_drew ?_))); (case side4 => exact HC2.out); rintro e w24 ⟨rfl, hb⟩; refine ⟨_, rfl, ?_⟩; have n0_ := Aside0.mk (Kd.R_below (by (with_reducible repeat (first | apply Kd.R_alloc | apply Kd.R_drewN | apply Kd.R_drew)); exact HO_9.out) hb); have n1_ := Aside0.mk (blk_below (g := gb233) (o := .cells #[.int .i64 ((rd_T45 l0 a1).f0), .int .i64 ((rd_T45 l0 a1).f1), .string ((rd_T45 l0 a1).f2), .slice (some ad235) ((rd_T45 l0 a1).f3).length c232_3] 45 (0, 0)) (by (with_reducible repeat (first | refine blk_drewN ?_ _ | refine blk_drew ?_ | refine blk_alloc ?_ _)); exact BK233.out) hb); have n2_ := Aside0.mk (below_step (by repeat (first | (with_reducible first | exact HB.out | apply below_alloc | apply pw_below_drewN | apply below_drew1 | refine below_set ?_ GE233.out) | exact HB.out)) hb); clear HO_9; clear BK233; clear HB; have HO_9 := n0_; have BK233 := n1_; have HB := n2_; clear n0_ n1_ n2_; (try clear hb); (try clear hb2); (try clear hk); (try clear hi)))
                    go_ret2
                    exact ⟨by first | rfl | (simp [errW_none, errW_some] <;> rfl) | (simp [*, errW_none, errW_some] <;> rfl), by repeat (first | (with_reducible first | exact HB.out | apply below_alloc | apply pw_below_drewN | apply below_drew1 | refine below_set ?_ GE233.out) | exact HB.out)⟩
                · rw [if_neg c16] at H
                  exact absurd H (by simp)
              · rw [if_neg c15] at H
                have c15b0 : decide (x10_1 < (((rd_T45 l0 a1).f3).length : Int)) = false := decide_eq_false c15
                clear c15
                replace H := Option.bind_eq_some_iff.mp H
                obtain ⟨⟨t241, t242⟩, A250, H⟩ := H
                replace H : (some (t241, (t242 == 0))) = some (r1, r2) := H
                have A25 := Aside0.mk A250
                clear A250
                simp only [Option.some.injEq, Prod.mk.injEq] at H
                obtain ⟨rfl, rfl⟩ := H
                have hcz26_0 : wr.cell? ⟨gb233, 0, none⟩ = some (.int .i64 ((rd_T45 l0 a1).f0)) := (blk_cell BK233.out 0).trans rfl
                have hcz26_1 : wr.cell? ⟨gb233, 1, none⟩ = some (.int .i64 ((rd_T45 l0 a1).f1)) := (blk_cell BK233.out 1).trans rfl
                have hcz26_2 : wr.cell? ⟨gb233, 2, none⟩ = some (.string ((rd_T45 l0 a1).f2)) := (blk_cell BK233.out 2).trans rfl
                have hcz26_3 : wr.cell? ⟨gb233, 3, none⟩ = some (.slice A232_3 ((rd_T45 l0 a1).f3).length c232_3) := (blk_cell BK233.out 3).trans rfl
                have hfz26_0 := blk_frozen BK233.out 0
                have hfz26_1 := blk_frozen BK233.out 1
                have hfz26_2 := blk_frozen BK233.out 2
                have hfz26_3 := blk_frozen BK233.out 3
                obtain ⟨Ao27, co27, eo27⟩ := Kd.R_slice HO_9.out
                subst eo27
                go_wp2_with (first | ((with_reducible refine gate_callee (f := 136) rfl ?_); refine goesL_ (some 59) rfl rfl Tryd.func136 (by kernel_rfl) rfl #[.int .i64 ((rd_T45 l0 a1).f0), .slice Ao27 x9_1.length co27] rfl (by (try simp only [List.map_toArray, List.map_cons, List.map_nil]); first | done | rfl | (simp only [List.length_drop, List.length_take]; rfl)) ?_; (with_reducible refine (sorrelref06_Apply.calls k1 ((rd_T45 l0 a1).f0) _ _ x9_1 t241 t242 _ ?side1 ?side2 A25.out).mono ?_); (case side1 => repeat (first | exact (Kd.R_reads' HO_9.out).2.2 | (with_reducible refine Kd.C_alloc ?_ _) | (with_reducible refine Kd.C_drewN ?_ _) | (with_reducible refine Kd.C_drew ?_))); (case side2 => exact (Kd.R_reads' HO_9.out).2.1); rintro e w' ⟨rfl, ⟨nd, rfl⟩⟩; refine ⟨_, rfl, ?_⟩))
                go_ret2
                exact ⟨by first | rfl | (simp [errW_none, errW_some] <;> rfl) | (simp [*, errW_none, errW_some] <;> rfl), by repeat (first | (with_reducible first | exact HB.out | apply below_alloc | apply pw_below_drewN | apply below_drew1 | refine below_set ?_ GE233.out) | exact HB.out)⟩
    · rw [if_neg c5] at H
      exact absurd H (by simp)
  · rw [if_neg c4] at H
    exact absurd H (by simp)

end Go.Proofs.YtacjjfoelhckcaaDoor.PEvalPlays
