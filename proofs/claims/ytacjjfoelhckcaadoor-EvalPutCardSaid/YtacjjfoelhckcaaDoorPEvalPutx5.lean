/- Contracts of functions, printed by the session's own changed copy of the print generator (see its notes); the plain functions tell what the calls answer. -/
import Derived.Test.YtacjjfoelhckcaaDoorPEvalPutx0
import Derived.Test.YtacjjfoelhckcaaDoorPEvalPutx1
import Derived.Test.YtacjjfoelhckcaaDoorPEvalPutx4
namespace Go.Proofs.YtacjjfoelhckcaaDoor.PEvalPut
open Go.RowKit Go.Proofs.YtacjjfoelhckcaaDoorW.PrintWords Go.Proofs.YtacjjfoelhckcaaDoorW.PrintLast Go.Proofs.YtacjjfoelhckcaaDoorW.PrintMore
attribute [local go_sem] max2_int min2_int max_two min_two max_three min_three max_four min_four   -- for this text's walks alone
set_option linter.unusedVariables false
set_option linter.unusedSimpArgs false

/-! ### arith_Apply: function 53 -/
mutual
def arith_Apply.j0 : Nat → Int → List Int → Bool → Option (Int × Int)
  | 0, _, _, _ => none
  | k + 1, x0, x1, x24 => if x24 = true then (some (0, 2)) else (if x0 = 3 then (if 0 < (x1.length : Int) then (some (wrap64 (-(rd x1 0)), 0)) else (none)) else (if x0 = 4 then (if 0 < (x1.length : Int) then (some (Go.bits .xor .i64 (-1) (rd x1 0), 0)) else (none)) else (if x0 = 17 then (if 0 < (x1.length : Int) then (arith_Apply.j1 k x0 x1 ((rd x1 0) != 0)) else (none)) else (arith_Apply.j1 k x0 x1 false))))
def arith_Apply.j1 : Nat → Int → List Int → Bool → Option (Int × Int)
  | 0, _, _, _ => none
  | k + 1, x0, x1, x39 => if x39 = true then (if 1 < (x1.length : Int) then (some (rd x1 1, 0)) else (none)) else (if x0 = 17 then (if 2 < (x1.length : Int) then (some (rd x1 2, 0)) else (none)) else ((arith_group.f k x0).bind fun t193 => (if t193 = 1 then (if 1 < (x1.length : Int) then (if (rd x1 1) = 0 then (some (0, 12)) else (if 0 < (x1.length : Int) then ((arith_two.f x0 (rd x1 0) (rd x1 1)).bind fun t197 => (some (t197, 0))) else (none))) else (none)) else (if 0 < (x1.length : Int) then (if 1 < (x1.length : Int) then ((arith_two.f x0 (rd x1 0) (rd x1 1)).bind fun t200 => (some (t200, 0))) else (none)) else (none)))))
end
def arith_Apply.f (k : Nat) (a0 : Int) (l1 : List Int) : Option (Int × Int) := (expr_Arity.f k a0).bind fun bt186 => (if bt186.2 = 0 then (if bt186.1 = 0 then (arith_Apply.j0 k a0 l1 true) else (arith_Apply.j0 k a0 l1 (bt186.1 != (l1.length : Int)))) else (arith_Apply.j0 k a0 l1 true))
theorem arith_Apply.mono_l : ∀ k, (∀ y0 y1 y2, LeO (arith_Apply.j0 k y0 y1 y2) (arith_Apply.j0 (k + 1) y0 y1 y2)) ∧ (∀ y0 y1 y2, LeO (arith_Apply.j1 k y0 y1 y2) (arith_Apply.j1 (k + 1) y0 y1 y2))
  | 0 => ⟨fun _ _ _ r h => by simp [arith_Apply.j0] at h, fun _ _ _ r h => by simp [arith_Apply.j1] at h⟩
  | k + 1 => by
    obtain ⟨ih0, ih1⟩ := arith_Apply.mono_l k
    refine ⟨?_, ?_⟩
    · intro y0 y1 y2
      unfold arith_Apply.j0
      repeat' first
      | (with_reducible exact ih0 _ _ _)
      | (with_reducible exact ih1 _ _ _)
      | (with_reducible exact arith_group.mono _ _)
      | (with_reducible exact expr_Arity.mono _ _)
      | (with_reducible exact LeO.refl _)
      | (with_reducible exact LeO.none _)
      | (with_reducible refine LeO.ite ?_ ?_)
      | (with_reducible refine LeO.bind ?_ (fun _ => ?_))
      | exact ih0 _ _ _
      | exact ih1 _ _ _
      | exact arith_group.mono _ _
      | exact expr_Arity.mono _ _
      | exact LeO.none _
      | refine LeO.ite ?_ ?_
      | refine LeO.bind ?_ (fun _ => ?_)
    · intro y0 y1 y2
      unfold arith_Apply.j1
      repeat' first
      | (with_reducible exact ih0 _ _ _)
      | (with_reducible exact ih1 _ _ _)
      | (with_reducible exact arith_group.mono _ _)
      | (with_reducible exact expr_Arity.mono _ _)
      | (with_reducible exact LeO.refl _)
      | (with_reducible exact LeO.none _)
      | (with_reducible refine LeO.ite ?_ ?_)
      | (with_reducible refine LeO.bind ?_ (fun _ => ?_))
      | exact ih0 _ _ _
      | exact ih1 _ _ _
      | exact arith_group.mono _ _
      | exact expr_Arity.mono _ _
      | exact LeO.none _
      | refine LeO.ite ?_ ?_
      | refine LeO.bind ?_ (fun _ => ?_)
theorem arith_Apply.mono : ∀ a0 a1 k, LeO (arith_Apply.f k a0 a1) (arith_Apply.f (k + 1) a0 a1) := by
  intro a0 a1 k
  obtain ⟨ih0, ih1⟩ := arith_Apply.mono_l k
  unfold arith_Apply.f
  repeat' first
      | (with_reducible exact ih0 _ _ _)
      | (with_reducible exact ih1 _ _ _)
      | (with_reducible exact arith_group.mono _ _)
      | (with_reducible exact expr_Arity.mono _ _)
      | (with_reducible exact LeO.refl _)
      | (with_reducible exact LeO.none _)
      | (with_reducible refine LeO.ite ?_ ?_)
      | (with_reducible refine LeO.bind ?_ (fun _ => ?_))
      | exact ih0 _ _ _
      | exact ih1 _ _ _
      | exact arith_group.mono _ _
      | exact expr_Arity.mono _ _
      | exact LeO.none _
      | refine LeO.ite ?_ ?_
      | refine LeO.bind ?_ (fun _ => ?_)
set_option maxHeartbeats 8000000 in
set_option maxRecDepth 100000 in
theorem arith_Apply.calls (k : Nat) (a0 : Int) (A1 : Option Addr) (c1 : Nat) (l1 : List Int) (r1 : Int) (r2 : Int) (w : World) (hr1 : Kd.C (Kd.int .i64) w A1 l1.length l1) (hc1 : l1.length ≤ c1) (h : arith_Apply.f k a0 l1 = some (r1, r2)) :
    Calls Tryd.prog 53 #[.int .i64 a0, .slice A1 l1.length c1] w fun e w' => e = .returned (.tuple #[.int .i64 r1, .int .i64 r2]) ∧ Drawn0 w w' := by
  have HR1 := Aside0.mk hr1
  have HC1 := Aside0.mk hc1
  clear hr1 hc1
  have H : ((expr_Arity.f k a0).bind fun bt186 => (if bt186.2 = 0 then (if bt186.1 = 0 then (arith_Apply.j0 k a0 l1 true) else (arith_Apply.j0 k a0 l1 (bt186.1 != (l1.length : Int)))) else (arith_Apply.j0 k a0 l1 true))) = some (r1, r2) := h
  clear h
  replace H := Option.bind_eq_some_iff.mp H
  obtain ⟨⟨t186, t187⟩, A30, H⟩ := H
  replace H : (if t187 = 0 then (if t186 = 0 then (arith_Apply.j0 k a0 l1 true) else (arith_Apply.j0 k a0 l1 (t186 != (l1.length : Int)))) else (arith_Apply.j0 k a0 l1 true)) = some (r1, r2) := H
  have A3 := Aside0.mk A30
  clear A30
  have HC4 := Aside0.mk H
  clear H
  go_enter Tryd.func53, Tryd.ntmps53
  go_upto_region 2 with (first | (go_at_call 23; (with_reducible refine (expr_Arity.calls k a0 t186 t187 _ A3.out).mono ?_); rintro e w' ⟨rfl, ⟨nd, rfl⟩⟩; (try first | exact ⟨rfl, _, World.drewN_drewN _ _ _⟩ | exact ⟨rfl, _, Eq.trans (World.drewN_drewN _ _ _) (congrArg (World.drewN _) (Nat.add_assoc _ _ _))⟩)))
  repeat (go_quiet (first | (go_at_call 23; (with_reducible refine (expr_Arity.calls k a0 t186 t187 _ A3.out).mono ?_); rintro e w' ⟨rfl, ⟨nd, rfl⟩⟩; (try first | exact ⟨rfl, _, World.drewN_drewN _ _ _⟩ | exact ⟨rfl, _, Eq.trans (World.drewN_drewN _ _ _) (congrArg (World.drewN _) (Nat.add_assoc _ _ _))⟩))); go_upto_region 2 with (first | (go_at_call 23; (with_reducible refine (expr_Arity.calls k a0 t186 t187 _ A3.out).mono ?_); rintro e w' ⟨rfl, ⟨nd, rfl⟩⟩; (try first | exact ⟨rfl, _, World.drewN_drewN _ _ _⟩ | exact ⟨rfl, _, Eq.trans (World.drewN_drewN _ _ _) (congrArg (World.drewN _) (Nat.add_assoc _ _ _))⟩))))
  (try simp only [Act.put, List.setIfInBounds_toArray, List.set_cons_zero, List.set_cons_succ])
  go_cut [24] (fun v24 wc => ∃ (kq : Nat) (x24_3 : Bool), v24 = .bool x24_3 ∧ Aside0 (arith_Apply.j0 kq a0 l1 x24_3 = some (r1, r2)) ∧ Aside0 (kq ≤ k) ∧ Drawn0 w wc)
  case first =>
    have H := HC4.out
    clear HC4
    by_cases c5 : t187 = 0
    · rw [if_pos c5] at H
      have c5b0 : (t187 == 0) = true := beq_iff_eq.mpr c5
      have c5b1 : (t187 != 0) = false := bne_eq_false_iff_eq.mpr c5
      clear c5
      (first | rw [c5b0] | (simp only [i64_w, i32_w]; rw [c5b0]) | skip)
      by_cases c6 : t186 = 0
      · rw [if_pos c6] at H
        have c6b0 : (t186 == 0) = true := beq_iff_eq.mpr c6
        have c6b1 : (t186 != 0) = false := bne_eq_false_iff_eq.mpr c6
        clear c6
        have H' := Aside0.mk H
        clear H
        go_wp2
        repeat (go_quiet (fail); try go_wp2)
        go_meet
        case rel => exact ⟨_, (true), (by first | rfl | (simp; done) | (simp [*]; done)), H', ⟨by first | omega | exact Nat.le_refl _⟩, by repeat (first | exact Drawn0.refl _ | apply Drawn0.step)⟩
      · rw [if_neg c6] at H
        have c6b0 : (t186 == 0) = false := beq_eq_false_iff_ne.mpr c6
        have c6b1 : (t186 != 0) = true := bne_iff_ne.mpr c6
        have H' := Aside0.mk H
        clear H
        go_wp2
        repeat (go_quiet (fail); try go_wp2)
        go_meet
        case rel => exact ⟨_, ((t186 != (l1.length : Int))), (by first | rfl | (simp; done) | (simp [*]; done)), H', ⟨by first | omega | exact Nat.le_refl _⟩, by repeat (first | exact Drawn0.refl _ | apply Drawn0.step)⟩
    · rw [if_neg c5] at H
      have c5b0 : (t187 == 0) = false := beq_eq_false_iff_ne.mpr c5
      have c5b1 : (t187 != 0) = true := bne_iff_ne.mpr c5
      (first | rw [c5b0] | (simp only [i64_w, i32_w]; rw [c5b0]) | skip)
      have H' := Aside0.mk H
      clear H
      go_wp2
      repeat (go_quiet (fail); try go_wp2)
      go_meet
      case rel => exact ⟨_, (true), (by first | rfl | (simp; done) | (simp [*]; done)), H', ⟨by first | omega | exact Nat.le_refl _⟩, by repeat (first | exact Drawn0.refl _ | apply Drawn0.step)⟩
  case rest =>
    clear HC4
    try clear c1
    try clear p2
    try clear c5
    try clear c5b0
    try clear c5b1
    try clear c6
    try clear c6b0
    try clear c6b1
    obtain ⟨kq, x24_3, rfl, HA, HJ3, ⟨mc3, rfl⟩⟩ := hcut
    cases kq with
    | zero => exact absurd HA.out (by simp [arith_Apply.j0])
    | succ kj3 =>
      have H := HA.out
      clear HA
      simp only [arith_Apply.j0] at H
      by_cases c7 : x24_3 = true
      · subst c7
        have H1 : (some (0, 2)) = some (r1, r2) := by rw [if_pos rfl] at H; exact H
        clear H
        have H := H1
        clear H1
        simp only [Option.some.injEq, Prod.mk.injEq] at H
        obtain ⟨rfl, rfl⟩ := H
        go_wp2
        repeat (go_quiet (fail); try go_wp2)
        go_ret2
        exact ⟨by first | rfl | (simp; done) | (simp [*]; done), by repeat (first | exact Drawn0.refl _ | apply Drawn0.step)⟩
      · replace c7 := Bool.eq_false_iff.mpr c7
        subst c7
        have H1 : (if a0 = 3 then (if 0 < (l1.length : Int) then (some (wrap64 (-(rd l1 0)), 0)) else (none)) else (if a0 = 4 then (if 0 < (l1.length : Int) then (some (Go.bits .xor .i64 (-1) (rd l1 0), 0)) else (none)) else (if a0 = 17 then (if 0 < (l1.length : Int) then (arith_Apply.j1 kj3 a0 l1 ((rd l1 0) != 0)) else (none)) else (arith_Apply.j1 kj3 a0 l1 false)))) = some (r1, r2) := by rw [if_neg (show ¬ (false = true) by decide)] at H; exact H
        clear H
        have H := H1
        clear H1
        by_cases c8 : a0 = 3
        · rw [if_pos c8] at H
          have c8b0 : (a0 == 3) = true := beq_iff_eq.mpr c8
          have c8b1 : (a0 != 3) = false := bne_eq_false_iff_eq.mpr c8
          clear c8
          by_cases c9 : 0 < (l1.length : Int)
          · rw [if_pos c9] at H
            have c9b0 : decide (0 < (l1.length : Int)) = true := decide_eq_true c9
            have c9b1 : decide (0 < l1.length) = true := decide_eq_true (by omega)
            clear c9
            simp only [Option.some.injEq, Prod.mk.injEq] at H
            obtain ⟨rfl, rfl⟩ := H
            have p188 : 0 ≤ (0 : Int) := (by omega)
            have q188 : 0 < (l1.length : Int) := of_decide_eq_true (by first | (with_reducible assumption) | assumption)
            obtain ⟨ad188, e188, hx188_0⟩ := Kd.at_int HR1.out 0 p188 q188
            cases e188
            have qi188 : (0 < l1.length) = True := eq_true (by omega)
            (try rw [show ((0 : Int)).toNat = 0 from rfl] at hx188_0)
            (try rw [Addr.add_zero'] at hx188_0)
            replace p188 := eq_true p188
            replace q188 := eq_true q188
            go_wp2
            repeat (go_quiet (fail); try go_wp2)
            go_ret2
            exact ⟨by first | rfl | (simp; done) | (simp [*]; done), by repeat (first | exact Drawn0.refl _ | apply Drawn0.step)⟩
          · rw [if_neg c9] at H
            exact absurd H (by simp)
        · rw [if_neg c8] at H
          have c8b0 : (a0 == 3) = false := beq_eq_false_iff_ne.mpr c8
          have c8b1 : (a0 != 3) = true := bne_iff_ne.mpr c8
          by_cases c10 : a0 = 4
          · rw [if_pos c10] at H
            have c10b0 : (a0 == 4) = true := beq_iff_eq.mpr c10
            have c10b1 : (a0 != 4) = false := bne_eq_false_iff_eq.mpr c10
            clear c10
            by_cases c11 : 0 < (l1.length : Int)
            · rw [if_pos c11] at H
              have c11b0 : decide (0 < (l1.length : Int)) = true := decide_eq_true c11
              have c11b1 : decide (0 < l1.length) = true := decide_eq_true (by omega)
              clear c11
              simp only [Option.some.injEq, Prod.mk.injEq] at H
              obtain ⟨rfl, rfl⟩ := H
              have p189 : 0 ≤ (0 : Int) := (by omega)
              have q189 : 0 < (l1.length : Int) := of_decide_eq_true (by first | (with_reducible assumption) | assumption)
              obtain ⟨ad189, e189, hx189_0⟩ := Kd.at_int HR1.out 0 p189 q189
              cases e189
              have qi189 : (0 < l1.length) = True := eq_true (by omega)
              (try rw [show ((0 : Int)).toNat = 0 from rfl] at hx189_0)
              (try rw [Addr.add_zero'] at hx189_0)
              replace p189 := eq_true p189
              replace q189 := eq_true q189
              go_wp2
              repeat (go_quiet (fail); try go_wp2)
              go_ret2
              exact ⟨by first | rfl | (simp; done) | (simp [*]; done), by repeat (first | exact Drawn0.refl _ | apply Drawn0.step)⟩
            · rw [if_neg c11] at H
              exact absurd H (by simp)
          · rw [if_neg c10] at H
            have c10b0 : (a0 == 4) = false := beq_eq_false_iff_ne.mpr c10
            have c10b1 : (a0 != 4) = true := bne_iff_ne.mpr c10
            have HC12 := Aside0.mk H
            clear H
            go_upto_region 8 with (fail)
            repeat (go_quiet (fail); go_upto_region 8 with (fail))
            go_cut [39] (fun v39 wc => ∃ (kq : Nat) (x39_11 : Bool), v39 = .bool x39_11 ∧ Aside0 (arith_Apply.j1 kq a0 l1 x39_11 = some (r1, r2)) ∧ Aside0 (kq ≤ kj3) ∧ Drawn0 w wc)
            case first =>
              have H := HC12.out
              clear HC12
              by_cases c13 : a0 = 17
              · rw [if_pos c13] at H
                have c13b0 : (a0 == 17) = true := beq_iff_eq.mpr c13
                have c13b1 : (a0 != 17) = false := bne_eq_false_iff_eq.mpr c13
                clear c13
                (first | rw [c13b0] | (simp only [i64_w, i32_w]; rw [c13b0]) | skip)
                by_cases c14 : 0 < (l1.length : Int)
                · rw [if_pos c14] at H
                  have c14b0 : decide (0 < (l1.length : Int)) = true := decide_eq_true c14
                  have c14b1 : decide (0 < l1.length) = true := decide_eq_true (by omega)
                  clear c14
                  have H' := Aside0.mk H
                  clear H
                  have p190 : 0 ≤ (0 : Int) := (by omega)
                  have q190 : 0 < (l1.length : Int) := of_decide_eq_true (by first | (with_reducible assumption) | assumption)
                  obtain ⟨ad190, e190, hx190_0⟩ := Kd.at_int HR1.out 0 p190 q190
                  cases e190
                  have qi190 : (0 < l1.length) = True := eq_true (by omega)
                  (try rw [show ((0 : Int)).toNat = 0 from rfl] at hx190_0)
                  (try rw [Addr.add_zero'] at hx190_0)
                  replace p190 := eq_true p190
                  replace q190 := eq_true q190
                  go_wp2
                  repeat (go_quiet (fail); try go_wp2)
                  go_meet
                  case rel => exact ⟨_, (((rd l1 0) != 0)), (by first | rfl | (simp; done) | (simp [*]; done)), H', ⟨by have := HJ3.out; first | omega | exact Nat.le_refl _⟩, by repeat (first | exact Drawn0.refl _ | apply Drawn0.step)⟩
                · rw [if_neg c14] at H
                  exact absurd H (by simp)
              · rw [if_neg c13] at H
                have c13b0 : (a0 == 17) = false := beq_eq_false_iff_ne.mpr c13
                have c13b1 : (a0 != 17) = true := bne_iff_ne.mpr c13
                (first | rw [c13b0] | (simp only [i64_w, i32_w]; rw [c13b0]) | skip)
                have H' := Aside0.mk H
                clear H
                go_wp2
                repeat (go_quiet (fail); try go_wp2)
                go_meet
                case rel => exact ⟨_, (false), (by first | rfl | (simp; done) | (simp [*]; done)), H', ⟨by have := HJ3.out; first | omega | exact Nat.le_refl _⟩, by repeat (first | exact Drawn0.refl _ | apply Drawn0.step)⟩
            case rest =>
              clear HC12
              try clear c1
              try clear p1
              try clear q1
              try clear hx1
              try clear qi1
              try clear p2
              try clear c3
              try clear c5
              try clear c5b0
              try clear c5b1
              try clear c6
              try clear c6b0
              try clear c6b1
              try clear p6
              try clear c7
              try clear c8
              try clear c8b0
              try clear c8b1
              try clear c9
              try clear c9b0
              try clear c9b1
              try clear c10
              try clear c10b0
              try clear c10b1
              try clear c11
              try clear c11b0
              try clear c11b1
              try clear c13
              try clear c13b0
              try clear c13b1
              try clear c14
              try clear c14b0
              try clear c14b1
              try clear hx188_0
              try clear hx189_0
              try clear hx190_0
              try clear p188
              try clear p189
              try clear p190
              try clear p2
              try clear q188
              try clear q189
              try clear q190
              obtain ⟨kq, x39_11, rfl, HA, HJ11, ⟨mc11, rfl⟩⟩ := hcut
              cases kq with
              | zero => exact absurd HA.out (by simp [arith_Apply.j1])
              | succ kj11 =>
                have H := HA.out
                clear HA
                simp only [arith_Apply.j1] at H
                by_cases c15 : x39_11 = true
                · subst c15
                  have H1 : (if 1 < (l1.length : Int) then (some (rd l1 1, 0)) else (none)) = some (r1, r2) := by rw [if_pos rfl] at H; exact H
                  clear H
                  have H := H1
                  clear H1
                  by_cases c16 : 1 < (l1.length : Int)
                  · rw [if_pos c16] at H
                    have c16b0 : decide (1 < (l1.length : Int)) = true := decide_eq_true c16
                    have c16b1 : decide (1 < l1.length) = true := decide_eq_true (by omega)
                    clear c16
                    simp only [Option.some.injEq, Prod.mk.injEq] at H
                    obtain ⟨rfl, rfl⟩ := H
                    have p191 : 0 ≤ (1 : Int) := (by omega)
                    have q191 : 1 < (l1.length : Int) := of_decide_eq_true (by first | (with_reducible assumption) | assumption)
                    obtain ⟨ad191, e191, hx191_0⟩ := Kd.at_int HR1.out 1 p191 q191
                    cases e191
                    (try simp only [show (1 : Int).toNat = 1 from rfl, Nat.reduceMul, Nat.reduceEqDiff, Go.Addr.add, ↓reduceIte] at hx191_0)
                    have qi191 : (1 < l1.length) = True := eq_true (by omega)
                    (try rw [show ((1 : Int)).toNat = 1 from rfl] at hx191_0)
                    replace p191 := eq_true p191
                    replace q191 := eq_true q191
                    go_wp2
                    repeat (go_quiet (fail); try go_wp2)
                    go_ret2
                    exact ⟨by first | rfl | (simp; done) | (simp [*]; done), by repeat (first | exact Drawn0.refl _ | apply Drawn0.step)⟩
                  · rw [if_neg c16] at H
                    exact absurd H (by simp)
                · replace c15 := Bool.eq_false_iff.mpr c15
                  subst c15
                  have H1 : (if a0 = 17 then (if 2 < (l1.length : Int) then (some (rd l1 2, 0)) else (none)) else ((arith_group.f kj11 a0).bind fun t193 => (if t193 = 1 then (if 1 < (l1.length : Int) then (if (rd l1 1) = 0 then (some (0, 12)) else (if 0 < (l1.length : Int) then ((arith_two.f a0 (rd l1 0) (rd l1 1)).bind fun t197 => (some (t197, 0))) else (none))) else (none)) else (if 0 < (l1.length : Int) then (if 1 < (l1.length : Int) then ((arith_two.f a0 (rd l1 0) (rd l1 1)).bind fun t200 => (some (t200, 0))) else (none)) else (none))))) = some (r1, r2) := by rw [if_neg (show ¬ (false = true) by decide)] at H; exact H
                  clear H
                  have H := H1
                  clear H1
                  by_cases c17 : a0 = 17
                  · rw [if_pos c17] at H
                    have c17b0 : (a0 == 17) = true := beq_iff_eq.mpr c17
                    have c17b1 : (a0 != 17) = false := bne_eq_false_iff_eq.mpr c17
                    clear c17
                    by_cases c18 : 2 < (l1.length : Int)
                    · rw [if_pos c18] at H
                      have c18b0 : decide (2 < (l1.length : Int)) = true := decide_eq_true c18
                      have c18b1 : decide (2 < l1.length) = true := decide_eq_true (by omega)
                      clear c18
                      simp only [Option.some.injEq, Prod.mk.injEq] at H
                      obtain ⟨rfl, rfl⟩ := H
                      have p192 : 0 ≤ (2 : Int) := (by omega)
                      have q192 : 2 < (l1.length : Int) := of_decide_eq_true (by first | (with_reducible assumption) | assumption)
                      obtain ⟨ad192, e192, hx192_0⟩ := Kd.at_int HR1.out 2 p192 q192
                      cases e192
                      (try simp only [show (2 : Int).toNat = 2 from rfl, Nat.reduceMul, Nat.reduceEqDiff, Go.Addr.add, ↓reduceIte] at hx192_0)
                      have qi192 : (2 < l1.length) = True := eq_true (by omega)
                      (try rw [show ((2 : Int)).toNat = 2 from rfl] at hx192_0)
                      replace p192 := eq_true p192
                      replace q192 := eq_true q192
                      go_wp2
                      repeat (go_quiet (fail); try go_wp2)
                      go_ret2
                      exact ⟨by first | rfl | (simp; done) | (simp [*]; done), by repeat (first | exact Drawn0.refl _ | apply Drawn0.step)⟩
                    · rw [if_neg c18] at H
                      exact absurd H (by simp)
                  · rw [if_neg c17] at H
                    have c17b0 : (a0 == 17) = false := beq_eq_false_iff_ne.mpr c17
                    have c17b1 : (a0 != 17) = true := bne_iff_ne.mpr c17
                    replace H := Option.bind_eq_some_iff.mp H
                    obtain ⟨t193, A190, H⟩ := H
                    replace H : (if t193 = 1 then (if 1 < (l1.length : Int) then (if (rd l1 1) = 0 then (some (0, 12)) else (if 0 < (l1.length : Int) then ((arith_two.f a0 (rd l1 0) (rd l1 1)).bind fun t197 => (some (t197, 0))) else (none))) else (none)) else (if 0 < (l1.length : Int) then (if 1 < (l1.length : Int) then ((arith_two.f a0 (rd l1 0) (rd l1 1)).bind fun t200 => (some (t200, 0))) else (none)) else (none))) = some (r1, r2) := H
                    have A19 := Aside0.mk A190
                    clear A190
                    by_cases c20 : t193 = 1
                    · rw [if_pos c20] at H
                      have c20b0 : (t193 == 1) = true := beq_iff_eq.mpr c20
                      have c20b1 : (t193 != 1) = false := bne_eq_false_iff_eq.mpr c20
                      clear c20
                      by_cases c21 : 1 < (l1.length : Int)
                      · rw [if_pos c21] at H
                        have c21b0 : decide (1 < (l1.length : Int)) = true := decide_eq_true c21
                        have c21b1 : decide (1 < l1.length) = true := decide_eq_true (by omega)
                        clear c21
                        by_cases c22 : (rd l1 1) = 0
                        · rw [if_pos c22] at H
                          have c22b0 : ((rd l1 1) == 0) = true := beq_iff_eq.mpr c22
                          have c22b1 : ((rd l1 1) != 0) = false := bne_eq_false_iff_eq.mpr c22
                          clear c22
                          simp only [Option.some.injEq, Prod.mk.injEq] at H
                          obtain ⟨rfl, rfl⟩ := H
                          go_wp2_with (first | (go_at_call 100; (with_reducible refine (arith_group.calls kj11 a0 t193 _ A19.out).mono ?_); rintro e w' ⟨rfl, ⟨nd, rfl⟩⟩; (try first | exact ⟨rfl, _, World.drewN_drewN _ _ _⟩ | exact ⟨rfl, _, Eq.trans (World.drewN_drewN _ _ _) (congrArg (World.drewN _) (Nat.add_assoc _ _ _))⟩); have p194 : 0 ≤ (1 : Int) := (by omega); have q194 : 1 < (l1.length : Int) := of_decide_eq_true (by first | (with_reducible assumption) | assumption); obtain ⟨ad194, e194, hx194_0⟩ := Kd.at_int HR1.out 1 p194 q194; cases e194; (try simp only [show (1 : Int).toNat = 1 from rfl, Nat.reduceMul, Nat.reduceEqDiff, Go.Addr.add, ↓reduceIte] at hx194_0); have qi194 : (1 < l1.length) = True := eq_true (by omega); (try rw [show ((1 : Int)).toNat = 1 from rfl] at hx194_0); replace p194 := eq_true p194; replace q194 := eq_true q194))
                          repeat (go_quiet (first | (go_at_call 100; (with_reducible refine (arith_group.calls kj11 a0 t193 _ A19.out).mono ?_); rintro e w' ⟨rfl, ⟨nd, rfl⟩⟩; (try first | exact ⟨rfl, _, World.drewN_drewN _ _ _⟩ | exact ⟨rfl, _, Eq.trans (World.drewN_drewN _ _ _) (congrArg (World.drewN _) (Nat.add_assoc _ _ _))⟩); have p194 : 0 ≤ (1 : Int) := (by omega); have q194 : 1 < (l1.length : Int) := of_decide_eq_true (by first | (with_reducible assumption) | assumption); obtain ⟨ad194, e194, hx194_0⟩ := Kd.at_int HR1.out 1 p194 q194; cases e194; (try simp only [show (1 : Int).toNat = 1 from rfl, Nat.reduceMul, Nat.reduceEqDiff, Go.Addr.add, ↓reduceIte] at hx194_0); have qi194 : (1 < l1.length) = True := eq_true (by omega); (try rw [show ((1 : Int)).toNat = 1 from rfl] at hx194_0); replace p194 := eq_true p194; replace q194 := eq_true q194)); try go_wp2_with (first | (go_at_call 100; (with_reducible refine (arith_group.calls kj11 a0 t193 _ A19.out).mono ?_); rintro e w' ⟨rfl, ⟨nd, rfl⟩⟩; (try first | exact ⟨rfl, _, World.drewN_drewN _ _ _⟩ | exact ⟨rfl, _, Eq.trans (World.drewN_drewN _ _ _) (congrArg (World.drewN _) (Nat.add_assoc _ _ _))⟩); have p194 : 0 ≤ (1 : Int) := (by omega); have q194 : 1 < (l1.length : Int) := of_decide_eq_true (by first | (with_reducible assumption) | assumption); obtain ⟨ad194, e194, hx194_0⟩ := Kd.at_int HR1.out 1 p194 q194; cases e194; (try simp only [show (1 : Int).toNat = 1 from rfl, Nat.reduceMul, Nat.reduceEqDiff, Go.Addr.add, ↓reduceIte] at hx194_0); have qi194 : (1 < l1.length) = True := eq_true (by omega); (try rw [show ((1 : Int)).toNat = 1 from rfl] at hx194_0); replace p194 := eq_true p194; replace q194 := eq_true q194)))
                          go_ret2
                          exact ⟨by first | rfl | (simp; done) | (simp [*]; done), by repeat (first | exact Drawn0.refl _ | apply Drawn0.step)⟩
                        · rw [if_neg c22] at H
                          have c22b0 : ((rd l1 1) == 0) = false := beq_eq_false_iff_ne.mpr c22
                          have c22b1 : ((rd l1 1) != 0) = true := bne_iff_ne.mpr c22
                          by_cases c23 : 0 < (l1.length : Int)
                          · rw [if_pos c23] at H
                            have c23b0 : decide (0 < (l1.length : Int)) = true := decide_eq_true c23
                            have c23b1 : decide (0 < l1.length) = true := decide_eq_true (by omega)
                            clear c23
                            replace H := Option.bind_eq_some_iff.mp H
                            obtain ⟨t197, A240, H⟩ := H
                            replace H : (some (t197, 0)) = some (r1, r2) := H
                            have A24 := Aside0.mk A240
                            clear A240
                            simp only [Option.some.injEq, Prod.mk.injEq] at H
                            obtain ⟨rfl, rfl⟩ := H
                            go_wp2_with (first | (go_at_call 100; (with_reducible refine (arith_group.calls kj11 a0 t193 _ A19.out).mono ?_); rintro e w' ⟨rfl, ⟨nd, rfl⟩⟩; (try first | exact ⟨rfl, _, World.drewN_drewN _ _ _⟩ | exact ⟨rfl, _, Eq.trans (World.drewN_drewN _ _ _) (congrArg (World.drewN _) (Nat.add_assoc _ _ _))⟩); have p194 : 0 ≤ (1 : Int) := (by omega); have q194 : 1 < (l1.length : Int) := of_decide_eq_true (by first | (with_reducible assumption) | assumption); obtain ⟨ad194, e194, hx194_0⟩ := Kd.at_int HR1.out 1 p194 q194; cases e194; (try simp only [show (1 : Int).toNat = 1 from rfl, Nat.reduceMul, Nat.reduceEqDiff, Go.Addr.add, ↓reduceIte] at hx194_0); have qi194 : (1 < l1.length) = True := eq_true (by omega); (try rw [show ((1 : Int)).toNat = 1 from rfl] at hx194_0); replace p194 := eq_true p194; replace q194 := eq_true q194; have p195 : 0 ≤ (0 : Int) := (by omega); have q195 : 0 < (l1.length : Int) := of_decide_eq_true (by first | (with_reducible assumption) | assumption); obtain ⟨ad195, e195, hx195_0⟩ := Kd.at_int HR1.out 0 p195 q195; obtain rfl : ad194 = ad195 := (by injection e195); have qi195 : (0 < l1.length) = True := eq_true (by omega); (try rw [show ((0 : Int)).toNat = 0 from rfl] at hx195_0); (try rw [Addr.add_zero'] at hx195_0); replace p195 := eq_true p195; replace q195 := eq_true q195; have p196 : 0 ≤ (1 : Int) := (by omega); have q196 : 1 < (l1.length : Int) := of_decide_eq_true (by first | (with_reducible assumption) | assumption); obtain ⟨ad196, e196, hx196_0⟩ := Kd.at_int HR1.out 1 p196 q196; obtain rfl : ad194 = ad196 := (by injection e196); (try simp only [show (1 : Int).toNat = 1 from rfl, Nat.reduceMul, Nat.reduceEqDiff, Go.Addr.add, ↓reduceIte] at hx196_0); have qi196 : (1 < l1.length) = True := eq_true (by omega); (try rw [show ((1 : Int)).toNat = 1 from rfl] at hx196_0); replace p196 := eq_true p196; replace q196 := eq_true q196) | (go_at_call 101; (with_reducible refine (arith_two.calls a0 (rd l1 0) (rd l1 1) t197 _ A24.out).mono ?_); rintro e w' ⟨rfl, ⟨nd, rfl⟩⟩; (try first | exact ⟨rfl, _, World.drewN_drewN _ _ _⟩ | exact ⟨rfl, _, Eq.trans (World.drewN_drewN _ _ _) (congrArg (World.drewN _) (Nat.add_assoc _ _ _))⟩)))
                            repeat (go_quiet (first | (go_at_call 100; (with_reducible refine (arith_group.calls kj11 a0 t193 _ A19.out).mono ?_); rintro e w' ⟨rfl, ⟨nd, rfl⟩⟩; (try first | exact ⟨rfl, _, World.drewN_drewN _ _ _⟩ | exact ⟨rfl, _, Eq.trans (World.drewN_drewN _ _ _) (congrArg (World.drewN _) (Nat.add_assoc _ _ _))⟩); have p194 : 0 ≤ (1 : Int) := (by omega); have q194 : 1 < (l1.length : Int) := of_decide_eq_true (by first | (with_reducible assumption) | assumption); obtain ⟨ad194, e194, hx194_0⟩ := Kd.at_int HR1.out 1 p194 q194; cases e194; (try simp only [show (1 : Int).toNat = 1 from rfl, Nat.reduceMul, Nat.reduceEqDiff, Go.Addr.add, ↓reduceIte] at hx194_0); have qi194 : (1 < l1.length) = True := eq_true (by omega); (try rw [show ((1 : Int)).toNat = 1 from rfl] at hx194_0); replace p194 := eq_true p194; replace q194 := eq_true q194; have p195 : 0 ≤ (0 : Int) := (by omega); have q195 : 0 < (l1.length : Int) := of_decide_eq_true (by first | (with_reducible assumption) | assumption); obtain ⟨ad195, e195, hx195_0⟩ := Kd.at_int HR1.out 0 p195 q195; obtain rfl : ad194 = ad195 := (by injection e195); have qi195 : (0 < l1.length) = True := eq_true (by omega); (try rw [show ((0 : Int)).toNat = 0 from rfl] at hx195_0); (try rw [Addr.add_zero'] at hx195_0); replace p195 := eq_true p195; replace q195 := eq_true q195; have p196 : 0 ≤ (1 : Int) := (by omega); have q196 : 1 < (l1.length : Int) := of_decide_eq_true (by first | (with_reducible assumption) | assumption); obtain ⟨ad196, e196, hx196_0⟩ := Kd.at_int HR1.out 1 p196 q196; obtain rfl : ad194 = ad196 := (by injection e196); (try simp only [show (1 : Int).toNat = 1 from rfl, Nat.reduceMul, Nat.reduceEqDiff, Go.Addr.add, ↓reduceIte] at hx196_0); have qi196 : (1 < l1.length) = True := eq_true (by omega); (try rw [show ((1 : Int)).toNat = 1 from rfl] at hx196_0); replace p196 := eq_true p196; replace q196 := eq_true q196) | (go_at_call 101; (with_reducible refine (arith_two.calls a0 (rd l1 0) (rd l1 1) t197 _ A24.out).mono ?_); rintro e w' ⟨rfl, ⟨nd, rfl⟩⟩; (try first | exact ⟨rfl, _, World.drewN_drewN _ _ _⟩ | exact ⟨rfl, _, Eq.trans (World.drewN_drewN _ _ _) (congrArg (World.drewN _) (Nat.add_assoc _ _ _))⟩))); try go_wp2_with (first | (go_at_call 100; (with_reducible refine (arith_group.calls kj11 a0 t193 _ A19.out).mono ?_); rintro e w' ⟨rfl, ⟨nd, rfl⟩⟩; (try first | exact ⟨rfl, _, World.drewN_drewN _ _ _⟩ | exact ⟨rfl, _, Eq.trans (World.drewN_drewN _ _ _) (congrArg (World.drewN _) (Nat.add_assoc _ _ _))⟩); have p194 : 0 ≤ (1 : Int) := (by omega); have q194 : 1 < (l1.length : Int) := of_decide_eq_true (by first | (with_reducible assumption) | assumption); obtain ⟨ad194, e194, hx194_0⟩ := Kd.at_int HR1.out 1 p194 q194; cases e194; (try simp only [show (1 : Int).toNat = 1 from rfl, Nat.reduceMul, Nat.reduceEqDiff, Go.Addr.add, ↓reduceIte] at hx194_0); have qi194 : (1 < l1.length) = True := eq_true (by omega); (try rw [show ((1 : Int)).toNat = 1 from rfl] at hx194_0); replace p194 := eq_true p194; replace q194 := eq_true q194; have p195 : 0 ≤ (0 : Int) := (by omega); have q195 : 0 < (l1.length : Int) := of_decide_eq_true (by first | (with_reducible assumption) | assumption); obtain ⟨ad195, e195, hx195_0⟩ := Kd.at_int HR1.out 0 p195 q195; obtain rfl : ad194 = ad195 := (by injection e195); have qi195 : (0 < l1.length) = True := eq_true (by omega); (try rw [show ((0 : Int)).toNat = 0 from rfl] at hx195_0); (try rw [Addr.add_zero'] at hx195_0); replace p195 := eq_true p195; replace q195 := eq_true q195; have p196 : 0 ≤ (1 : Int) := (by omega); have q196 : 1 < (l1.length : Int) := of_decide_eq_true (by first | (with_reducible assumption) | assumption); obtain ⟨ad196, e196, hx196_0⟩ := Kd.at_int HR1.out 1 p196 q196; obtain rfl : ad194 = ad196 := (by injection e196); (try simp only [show (1 : Int).toNat = 1 from rfl, Nat.reduceMul, Nat.reduceEqDiff, Go.Addr.add, ↓reduceIte] at hx196_0); have qi196 : (1 < l1.length) = True := eq_true (by omega); (try rw [show ((1 : Int)).toNat = 1 from rfl] at hx196_0); replace p196 := eq_true p196; replace q196 := eq_true q196) | (go_at_call 101; (with_reducible refine (arith_two.calls a0 (rd l1 0) (rd l1 1) t197 _ A24.out).mono ?_); rintro e w' ⟨rfl, ⟨nd, rfl⟩⟩; (try first | exact ⟨rfl, _, World.drewN_drewN _ _ _⟩ | exact ⟨rfl, _, Eq.trans (World.drewN_drewN _ _ _) (congrArg (World.drewN _) (Nat.add_assoc _ _ _))⟩))))
                            go_ret2
                            exact ⟨by first | rfl | (simp; done) | (simp [*]; done), by repeat (first | exact Drawn0.refl _ | apply Drawn0.step)⟩
                          · rw [if_neg c23] at H
                            exact absurd H (by simp)
                      · rw [if_neg c21] at H
                        exact absurd H (by simp)
                    · rw [if_neg c20] at H
                      have c20b0 : (t193 == 1) = false := beq_eq_false_iff_ne.mpr c20
                      have c20b1 : (t193 != 1) = true := bne_iff_ne.mpr c20
                      by_cases c25 : 0 < (l1.length : Int)
                      · rw [if_pos c25] at H
                        have c25b0 : decide (0 < (l1.length : Int)) = true := decide_eq_true c25
                        have c25b1 : decide (0 < l1.length) = true := decide_eq_true (by omega)
                        clear c25
                        by_cases c26 : 1 < (l1.length : Int)
                        · rw [if_pos c26] at H
                          have c26b0 : decide (1 < (l1.length : Int)) = true := decide_eq_true c26
                          have c26b1 : decide (1 < l1.length) = true := decide_eq_true (by omega)
                          clear c26
                          replace H := Option.bind_eq_some_iff.mp H
                          obtain ⟨t200, A270, H⟩ := H
                          replace H : (some (t200, 0)) = some (r1, r2) := H
                          have A27 := Aside0.mk A270
                          clear A270
                          simp only [Option.some.injEq, Prod.mk.injEq] at H
                          obtain ⟨rfl, rfl⟩ := H
                          go_wp2_with (first | (go_at_call 100; (with_reducible refine (arith_group.calls kj11 a0 t193 _ A19.out).mono ?_); rintro e w' ⟨rfl, ⟨nd, rfl⟩⟩; (try first | exact ⟨rfl, _, World.drewN_drewN _ _ _⟩ | exact ⟨rfl, _, Eq.trans (World.drewN_drewN _ _ _) (congrArg (World.drewN _) (Nat.add_assoc _ _ _))⟩); have p198 : 0 ≤ (0 : Int) := (by omega); have q198 : 0 < (l1.length : Int) := of_decide_eq_true (by first | (with_reducible assumption) | assumption); obtain ⟨ad198, e198, hx198_0⟩ := Kd.at_int HR1.out 0 p198 q198; cases e198; have qi198 : (0 < l1.length) = True := eq_true (by omega); (try rw [show ((0 : Int)).toNat = 0 from rfl] at hx198_0); (try rw [Addr.add_zero'] at hx198_0); replace p198 := eq_true p198; replace q198 := eq_true q198; have p199 : 0 ≤ (1 : Int) := (by omega); have q199 : 1 < (l1.length : Int) := of_decide_eq_true (by first | (with_reducible assumption) | assumption); obtain ⟨ad199, e199, hx199_0⟩ := Kd.at_int HR1.out 1 p199 q199; obtain rfl : ad198 = ad199 := (by injection e199); (try simp only [show (1 : Int).toNat = 1 from rfl, Nat.reduceMul, Nat.reduceEqDiff, Go.Addr.add, ↓reduceIte] at hx199_0); have qi199 : (1 < l1.length) = True := eq_true (by omega); (try rw [show ((1 : Int)).toNat = 1 from rfl] at hx199_0); replace p199 := eq_true p199; replace q199 := eq_true q199) | (go_at_call 101; (with_reducible refine (arith_two.calls a0 (rd l1 0) (rd l1 1) t200 _ A27.out).mono ?_); rintro e w' ⟨rfl, ⟨nd, rfl⟩⟩; (try first | exact ⟨rfl, _, World.drewN_drewN _ _ _⟩ | exact ⟨rfl, _, Eq.trans (World.drewN_drewN _ _ _) (congrArg (World.drewN _) (Nat.add_assoc _ _ _))⟩)))
                          repeat (go_quiet (first | (go_at_call 100; (with_reducible refine (arith_group.calls kj11 a0 t193 _ A19.out).mono ?_); rintro e w' ⟨rfl, ⟨nd, rfl⟩⟩; (try first | exact ⟨rfl, _, World.drewN_drewN _ _ _⟩ | exact ⟨rfl, _, Eq.trans (World.drewN_drewN _ _ _) (congrArg (World.drewN _) (Nat.add_assoc _ _ _))⟩); have p198 : 0 ≤ (0 : Int) := (by omega); have q198 : 0 < (l1.length : Int) := of_decide_eq_true (by first | (with_reducible assumption) | assumption); obtain ⟨ad198, e198, hx198_0⟩ := Kd.at_int HR1.out 0 p198 q198; cases e198; have qi198 : (0 < l1.length) = True := eq_true (by omega); (try rw [show ((0 : Int)).toNat = 0 from rfl] at hx198_0); (try rw [Addr.add_zero'] at hx198_0); replace p198 := eq_true p198; replace q198 := eq_true q198; have p199 : 0 ≤ (1 : Int) := (by omega); have q199 : 1 < (l1.length : Int) := of_decide_eq_true (by first | (with_reducible assumption) | assumption); obtain ⟨ad199, e199, hx199_0⟩ := Kd.at_int HR1.out 1 p199 q199; obtain rfl : ad198 = ad199 := (by injection e199); (try simp only [show (1 : Int).toNat = 1 from rfl, Nat.reduceMul, Nat.reduceEqDiff, Go.Addr.add, ↓reduceIte] at hx199_0); have qi199 : (1 < l1.length) = True := eq_true (by omega); (try rw [show ((1 : Int)).toNat = 1 from rfl] at hx199_0); replace p199 := eq_true p199; replace q199 := eq_true q199) | (go_at_call 101; (with_reducible refine (arith_two.calls a0 (rd l1 0) (rd l1 1) t200 _ A27.out).mono ?_); rintro e w' ⟨rfl, ⟨nd, rfl⟩⟩; (try first | exact ⟨rfl, _, World.drewN_drewN _ _ _⟩ | exact ⟨rfl, _, Eq.trans (World.drewN_drewN _ _ _) (congrArg (World.drewN _) (Nat.add_assoc _ _ _))⟩))); try go_wp2_with (first | (go_at_call 100; (with_reducible refine (arith_group.calls kj11 a0 t193 _ A19.out).mono ?_); rintro e w' ⟨rfl, ⟨nd, rfl⟩⟩; (try first | exact ⟨rfl, _, World.drewN_drewN _ _ _⟩ | exact ⟨rfl, _, Eq.trans (World.drewN_drewN _ _ _) (congrArg (World.drewN _) (Nat.add_assoc _ _ _))⟩); have p198 : 0 ≤ (0 : Int) := (by omega); have q198 : 0 < (l1.length : Int) := of_decide_eq_true (by first | (with_reducible assumption) | assumption); obtain ⟨ad198, e198, hx198_0⟩ := Kd.at_int HR1.out 0 p198 q198; cases e198; have qi198 : (0 < l1.length) = True := eq_true (by omega); (try rw [show ((0 : Int)).toNat = 0 from rfl] at hx198_0); (try rw [Addr.add_zero'] at hx198_0); replace p198 := eq_true p198; replace q198 := eq_true q198; have p199 : 0 ≤ (1 : Int) := (by omega); have q199 : 1 < (l1.length : Int) := of_decide_eq_true (by first | (with_reducible assumption) | assumption); obtain ⟨ad199, e199, hx199_0⟩ := Kd.at_int HR1.out 1 p199 q199; obtain rfl : ad198 = ad199 := (by injection e199); (try simp only [show (1 : Int).toNat = 1 from rfl, Nat.reduceMul, Nat.reduceEqDiff, Go.Addr.add, ↓reduceIte] at hx199_0); have qi199 : (1 < l1.length) = True := eq_true (by omega); (try rw [show ((1 : Int)).toNat = 1 from rfl] at hx199_0); replace p199 := eq_true p199; replace q199 := eq_true q199) | (go_at_call 101; (with_reducible refine (arith_two.calls a0 (rd l1 0) (rd l1 1) t200 _ A27.out).mono ?_); rintro e w' ⟨rfl, ⟨nd, rfl⟩⟩; (try first | exact ⟨rfl, _, World.drewN_drewN _ _ _⟩ | exact ⟨rfl, _, Eq.trans (World.drewN_drewN _ _ _) (congrArg (World.drewN _) (Nat.add_assoc _ _ _))⟩))))
                          go_ret2
                          exact ⟨by first | rfl | (simp; done) | (simp [*]; done), by repeat (first | exact Drawn0.refl _ | apply Drawn0.step)⟩
                        · rw [if_neg c26] at H
                          exact absurd H (by simp)
                      · rw [if_neg c25] at H
                        exact absurd H (by simp)

/-! ### eval_values: function 96 -/
mutual
def eval_values.l0 : Nat → List (S70) → List Int → List (S45) → Int → Int → Option (List Int)
  | 0, _, _, _, _, _ => none
  | k + 1, x1, x5, x13, x14, x15 => if x15 < x14 then (if 0 ≤ x15 then (if x15 < (x13.length : Int) then (eval_values.l1 k x1 x5 ([] : List Int) x13 x14 x15 ((rd_T45 x13 x15).f3) (((rd_T45 x13 x15).f3).length : Int) 0 ((rd_T45 x13 x15).f0) ((rd_T45 x13 x15).f1) ((rd_T45 x13 x15).f2) ((rd_T45 x13 x15).f3)) else (none)) else (none)) else (some x5)
def eval_values.l1 : Nat → List (S70) → List Int → List Int → List (S45) → Int → Int → List Int → Int → Int → Int → Int → ByteArray → List Int → Option (List Int)
  | 0, _, _, _, _, _, _, _, _, _, _, _, _, _ => none
  | k + 1, x1, x5, x8, x13, x14, x15, x20, x21, x22, x203000, x203001, x203002, x203003 => if x22 < x21 then (if 0 ≤ x22 then (if x22 < (x20.length : Int) then (if 0 ≤ (rd x20 x22) then (if (rd x20 x22) < (x5.length : Int) then (if x8.length < 17592186044416 then (eval_values.l1 k x1 x5 (x8 ++ [rd x5 (rd x20 x22)]) x13 x14 x15 x20 x21 (wrap64 (x22 + 1)) x203000 x203001 x203002 x203003) else (none)) else (none)) else (none)) else (none)) else (none)) else (if x203000 = 1 then (if x5.length < 17592186044416 then (eval_values.l0 k x1 (x5 ++ [x203001]) x13 x14 (wrap64 (x15 + 1))) else (none)) else (if x203000 = 2 then ((env_Get.f k x1 x203002).bind fun t211 => (if x5.length < 17592186044416 then (eval_values.l0 k x1 (x5 ++ [t211]) x13 x14 (wrap64 (x15 + 1))) else (none))) else ((arith_Apply.f k x203000 x8).bind fun bt215 => (if bt215.2 = 0 then (if x5.length < 17592186044416 then (eval_values.l0 k x1 (x5 ++ [bt215.1]) x13 x14 (wrap64 (x15 + 1))) else (none)) else (some x5)))))
end
def eval_values.f (k : Nat) (l0 : List (S45)) (l1 : List (S70)) : Option (List Int) := eval_values.l0 k l1 ([] : List Int) l0 (l0.length : Int) 0
theorem eval_values.mono_l : ∀ k, (∀ y0 y1 y2 y3 y4, LeO (eval_values.l0 k y0 y1 y2 y3 y4) (eval_values.l0 (k + 1) y0 y1 y2 y3 y4)) ∧ (∀ y0 y1 y2 y3 y4 y5 y6 y7 y8 y9 y10 y11 y12, LeO (eval_values.l1 k y0 y1 y2 y3 y4 y5 y6 y7 y8 y9 y10 y11 y12) (eval_values.l1 (k + 1) y0 y1 y2 y3 y4 y5 y6 y7 y8 y9 y10 y11 y12))
  | 0 => ⟨fun _ _ _ _ _ r h => by simp [eval_values.l0] at h, fun _ _ _ _ _ _ _ _ _ _ _ _ _ r h => by simp [eval_values.l1] at h⟩
  | k + 1 => by
    obtain ⟨ih0, ih1⟩ := eval_values.mono_l k
    refine ⟨?_, ?_⟩
    · intro y0 y1 y2 y3 y4
      unfold eval_values.l0
      repeat' first
      | (with_reducible exact ih0 _ _ _ _ _)
      | (with_reducible exact ih1 _ _ _ _ _ _ _ _ _ _ _ _ _)
      | (with_reducible exact arith_Apply.mono _ _ _)
      | (with_reducible exact env_Get.mono _ _ _)
      | (with_reducible exact LeO.refl _)
      | (with_reducible exact LeO.none _)
      | (with_reducible refine LeO.ite ?_ ?_)
      | (with_reducible refine LeO.bind ?_ (fun _ => ?_))
      | exact ih0 _ _ _ _ _
      | exact ih1 _ _ _ _ _ _ _ _ _ _ _ _ _
      | exact arith_Apply.mono _ _ _
      | exact env_Get.mono _ _ _
      | exact LeO.none _
      | refine LeO.ite ?_ ?_
      | refine LeO.bind ?_ (fun _ => ?_)
    · intro y0 y1 y2 y3 y4 y5 y6 y7 y8 y9 y10 y11 y12
      unfold eval_values.l1
      repeat' first
      | (with_reducible exact ih0 _ _ _ _ _)
      | (with_reducible exact ih1 _ _ _ _ _ _ _ _ _ _ _ _ _)
      | (with_reducible exact arith_Apply.mono _ _ _)
      | (with_reducible exact env_Get.mono _ _ _)
      | (with_reducible exact LeO.refl _)
      | (with_reducible exact LeO.none _)
      | (with_reducible refine LeO.ite ?_ ?_)
      | (with_reducible refine LeO.bind ?_ (fun _ => ?_))
      | exact ih0 _ _ _ _ _
      | exact ih1 _ _ _ _ _ _ _ _ _ _ _ _ _
      | exact arith_Apply.mono _ _ _
      | exact env_Get.mono _ _ _
      | exact LeO.none _
      | refine LeO.ite ?_ ?_
      | refine LeO.bind ?_ (fun _ => ?_)
theorem eval_values.mono : ∀ a0 a1 k, LeO (eval_values.f k a0 a1) (eval_values.f (k + 1) a0 a1) := by
  intro a0 a1 k
  obtain ⟨ih0, ih1⟩ := eval_values.mono_l k
  unfold eval_values.f
  repeat' first
      | (with_reducible exact ih0 _ _ _ _ _)
      | (with_reducible exact ih1 _ _ _ _ _ _ _ _ _ _ _ _ _)
      | (with_reducible exact arith_Apply.mono _ _ _)
      | (with_reducible exact env_Get.mono _ _ _)
      | (with_reducible exact LeO.refl _)
      | (with_reducible exact LeO.none _)
      | (with_reducible refine LeO.ite ?_ ?_)
      | (with_reducible refine LeO.bind ?_ (fun _ => ?_))
      | exact ih0 _ _ _ _ _
      | exact ih1 _ _ _ _ _ _ _ _ _ _ _ _ _
      | exact arith_Apply.mono _ _ _
      | exact env_Get.mono _ _ _
      | exact LeO.none _
      | refine LeO.ite ?_ ?_
      | refine LeO.bind ?_ (fun _ => ?_)
set_option maxHeartbeats 8000000 in
set_option maxRecDepth 100000 in
theorem eval_values.calls (k : Nat) (A0 : Option Addr) (c0 : Nat) (l0 : List (S45)) (A1 : Option Addr) (c1 : Nat) (l1 : List (S70)) (r : List Int) (w : World) (hr0 : Kd.C k45 w A0 l0.length l0) (hc0 : l0.length ≤ c0) (hr1 : Kd.C k70 w A1 l1.length l1) (hc1 : l1.length ≤ c1) (h : eval_values.f k l0 l1 = some r) :
    Calls Tryd.prog 96 #[.slice A0 l0.length c0, .slice A1 l1.length c1] w fun e w' => ∃ v0_ : Value, e = .returned (v0_) ∧ Kd.R (Kd.int .i64) 2 w' w.heap.size (fun _ => True) v0_ r ∧ Below w.heap.size w w' := by
  have hu45 := Tryd.underlying45
  have HR0 := Aside0.mk hr0
  have HC0 := Aside0.mk hc0
  clear hr0 hc0
  have HR1 := Aside0.mk hr1
  have HC1 := Aside0.mk hc1
  clear hr1 hc1
  have HB := Aside0.mk (Below.refl w.heap.size w)
  have H : (eval_values.l0 k l1 ([] : List Int) l0 (l0.length : Int) 0) = some r := h
  clear h
  have H' := Aside0.mk H
  clear H
  go_enter Tryd.func96, Tryd.ntmps96
  go_wp2
  go_loopg [5, 15] k (fun kq v5 v15 w' => ∃ (x5_1 : List Int) (x15_1 : Int), v15 = .int .i64 x15_1 ∧ Aside0 (eval_values.l0 kq l1 x5_1 l0 (l0.length : Int) x15_1 = some r) ∧ Aside0 (kq ≤ k) ∧ Aside0 (Kd.R (Kd.int .i64) 2 w' w.heap.size (fun _ => True) v5 x5_1) ∧ Aside0 (Below w.heap.size w w'))
  case atStart => exact ⟨(([] : List Int)), (0), (by first | rfl | (simp; done) | (simp [*]; done)), H', ⟨Nat.le_refl _⟩, ⟨by first | exact Kd.R_nil _ _ _ _ _ | exact Kd.N_nil _ _ _ _ _ | exact Kd.V_nil _ _ _ _ _ | exact Kd.Q_nil _ _ _ _ _ | exact Kd.S_nil _ _ _ _ _⟩, ⟨by repeat (first | (with_reducible first | exact HB.out | apply below_alloc | apply pw_below_drewN | apply below_drew1) | exact HB.out)⟩⟩
  case round =>
    clear H'
    try clear c1
    try clear p2
    obtain ⟨x5_1, x15_1, rfl, HA, HK1, HO_5, HB⟩ := hrel
    cases gk with
    | zero => exact absurd HA.out (by simp [eval_values.l0])
    | succ k1 =>
      have H := HA.out
      clear HA
      simp only [eval_values.l0] at H
      by_cases c3 : x15_1 < (l0.length : Int)
      · rw [if_pos c3] at H
        have c3b0 : decide (x15_1 < (l0.length : Int)) = true := decide_eq_true c3
        clear c3
        by_cases c4 : 0 ≤ x15_1
        · rw [if_pos c4] at H
          have c4b0 : decide (0 ≤ x15_1) = true := decide_eq_true c4
          clear c4
          by_cases c5 : x15_1 < (l0.length : Int)
          · rw [if_pos c5] at H
            have c5b0 : decide (x15_1 < (l0.length : Int)) = true := decide_eq_true c5
            clear c5
            have H' := Aside0.mk H
            clear H
            have p201 : 0 ≤ (x15_1 : Int) := of_decide_eq_true (by first | (with_reducible assumption) | assumption)
            have q201 : x15_1 < (l0.length : Int) := of_decide_eq_true (by first | (with_reducible assumption) | assumption)
            obtain ⟨ad201, A201_3, c201_3, e201, hx201_0, hx201_1, hx201_2, hx201_3, hl201_3, hi201_3⟩ := at_T45 HR0.out x15_1 p201 q201
            cases e201
            replace hx201_0 := (HB.out.cell (World.block_lt_of_cell? w _ hx201_0)).trans hx201_0
            replace hx201_1 := (HB.out.cell (World.block_lt_of_cell? w _ hx201_1)).trans hx201_1
            replace hx201_2 := (HB.out.cell (World.block_lt_of_cell? w _ hx201_2)).trans hx201_2
            replace hx201_3 := (HB.out.cell (World.block_lt_of_cell? w _ hx201_3)).trans hx201_3
            have HR201_3 := Aside0.mk hi201_3
            have HC201_3 := Aside0.mk hl201_3
            clear hi201_3 hl201_3
            replace p201 := eq_true p201
            replace q201 := eq_true q201
            go_wp2_with (first | ((with_reducible refine gate_dst (N := 7) rfl ?_); refine box_event ?hg (N := 7) ?hd (cs := #[.int .i64 0, .int .i64 0, .string (⟨#[]⟩ : ByteArray), .slice none 0 0]) (t := 45) ?hr ?_; (case hd => rfl); (case hg => rfl); (case hr => first | (go_simp; done) | (go_simp; rfl)); intro gb202 hg w6 hbox hb; have n0_ := Aside0.mk (Kd.R_below (by (with_reducible repeat (first | apply Kd.R_alloc | apply Kd.R_drewN | apply Kd.R_drew)); exact HO_5.out) hb); have n1_ := Aside0.mk (below_step (by repeat (first | (with_reducible first | exact HB.out | apply below_alloc | apply pw_below_drewN | apply below_drew1) | exact HB.out)) hb); have n2_ := Aside0.mk (hbox); have n3_ := Aside0.mk ((by rw [hg]; exact (below_size (by repeat (first | (with_reducible first | exact HB.out | apply below_alloc | apply pw_below_drewN | apply below_drew1) | exact HB.out))) : w.heap.size ≤ gb202)); have n4_ := Aside0.mk ((by rw [hg]; exact (below_size (by repeat (first | (with_reducible first | exact HB.out | apply below_alloc | apply pw_below_drewN | apply below_drew1) | exact HB.out))) : w.heap.size ≤ gb202)); clear HO_5; clear HB; have HO_5 := n0_; have HB := n1_; have BK202 := n2_; have GW202 := n3_; have GE202 := n4_; clear n0_ n1_ n2_ n3_ n4_; clear hb hbox hg; have hcz7_0 : w6.cell? ⟨gb202, 0, none⟩ = some (.int .i64 0) := (blk_cell BK202.out 0).trans rfl; have hcz7_1 : w6.cell? ⟨gb202, 1, none⟩ = some (.int .i64 0) := (blk_cell BK202.out 1).trans rfl; have hcz7_2 : w6.cell? ⟨gb202, 2, none⟩ = some (.string (⟨#[]⟩ : ByteArray)) := (blk_cell BK202.out 2).trans rfl; have hcz7_3 : w6.cell? ⟨gb202, 3, none⟩ = some (.slice none 0 0) := (blk_cell BK202.out 3).trans rfl; have hfz7_0 := blk_frozen BK202.out 0; have hfz7_1 := blk_frozen BK202.out 1; have hfz7_2 := blk_frozen BK202.out 2; have hfz7_3 := blk_frozen BK202.out 3))
            go_loopg [8, 22] k1 (fun kq v8 v22 w' => ∃ (x8_2 : List Int) (x22_2 : Int), v22 = .int .i64 x22_2 ∧ Aside0 (eval_values.l1 kq l1 x5_1 x8_2 l0 (l0.length : Int) x15_1 ((rd_T45 l0 x15_1).f3) (((rd_T45 l0 x15_1).f3).length : Int) x22_2 ((rd_T45 l0 x15_1).f0) ((rd_T45 l0 x15_1).f1) ((rd_T45 l0 x15_1).f2) ((rd_T45 l0 x15_1).f3) = some r) ∧ Aside0 (kq ≤ k1) ∧ Aside0 (Kd.R (Kd.int .i64) 2 w' w.heap.size (fun k_ => some k_ ≠ (v8 : Value).ownBlock) u5 x5_1) ∧ Aside0 (Kd.R (Kd.int .i64) 2 w' w.heap.size (fun k_ => some k_ ≠ (u5 : Value).ownBlock) v8 x8_2) ∧ Aside0 (w'.heap[gb202]? = some (.cells #[.int .i64 ((rd_T45 l0 x15_1).f0), .int .i64 ((rd_T45 l0 x15_1).f1), .string ((rd_T45 l0 x15_1).f2), (.slice A201_3 ((rd_T45 l0 x15_1).f3).length c201_3)] 45 (0, 0))) ∧ Aside0 (Below w.heap.size w w'))
            case atStart => exact ⟨(([] : List Int)), (0), (by first | rfl | (simp; done) | (simp [*]; done)), H', ⟨Nat.le_refl _⟩, ⟨by (with_reducible repeat (first | apply Kd.R_alloc | apply Kd.R_drewN | apply Kd.R_drew)); exact Kd.R_mono (Kd.R_far (p := ⟨gb202, 3, none⟩) (Kd.R_far (p := ⟨gb202, 2, none⟩) (Kd.R_far (p := ⟨gb202, 1, none⟩) (Kd.R_far (p := ⟨gb202, 0, none⟩) (Kd.R_types HO_5.out BK202.out (by decide)) (fun _ hk => hk.2) (.int .i64 ((rd_T45 l0 x15_1).f0))) (fun _ hk => hk.2) (.int .i64 ((rd_T45 l0 x15_1).f1))) (fun _ hk => hk.2) (.string ((rd_T45 l0 x15_1).f2))) (fun _ hk => hk.2) (.slice A201_3 ((rd_T45 l0 x15_1).f3).length c201_3)) (fun _ hk => (by simp [Value.ownBlock]))⟩, ⟨by first | exact Kd.R_nil _ _ _ _ _ | exact Kd.N_nil _ _ _ _ _ | exact Kd.V_nil _ _ _ _ _ | exact Kd.Q_nil _ _ _ _ _ | exact Kd.S_nil _ _ _ _ _⟩, ⟨by (with_reducible repeat (first | refine blk_drewN ?_ _ | refine blk_drew ?_ | refine blk_alloc ?_ _)); refine blk_put (cs := #[.int .i64 ((rd_T45 l0 x15_1).f0), .int .i64 ((rd_T45 l0 x15_1).f1), .string ((rd_T45 l0 x15_1).f2), .slice none 0 0]) ?_ 3 _ rfl; (with_reducible repeat (first | refine blk_drewN ?_ _ | refine blk_drew ?_ | refine blk_alloc ?_ _)); refine blk_put (cs := #[.int .i64 ((rd_T45 l0 x15_1).f0), .int .i64 ((rd_T45 l0 x15_1).f1), .string (⟨#[]⟩ : ByteArray), .slice none 0 0]) ?_ 2 _ rfl; (with_reducible repeat (first | refine blk_drewN ?_ _ | refine blk_drew ?_ | refine blk_alloc ?_ _)); refine blk_put (cs := #[.int .i64 ((rd_T45 l0 x15_1).f0), .int .i64 0, .string (⟨#[]⟩ : ByteArray), .slice none 0 0]) ?_ 1 _ rfl; (with_reducible repeat (first | refine blk_drewN ?_ _ | refine blk_drew ?_ | refine blk_alloc ?_ _)); refine blk_put (cs := #[.int .i64 0, .int .i64 0, .string (⟨#[]⟩ : ByteArray), .slice none 0 0]) ?_ 0 _ rfl; (with_reducible repeat (first | refine blk_drewN ?_ _ | refine blk_drew ?_ | refine blk_alloc ?_ _)); exact BK202.out⟩, ⟨by repeat (first | (with_reducible first | exact HB.out | apply below_alloc | apply pw_below_drewN | apply below_drew1 | refine below_set ?_ GE202.out) | exact HB.out)⟩⟩
            case round =>
              clear H'
              try clear c1
              try clear c2
              try clear p2
              try clear q2
              try clear hx2
              try clear c3
              try clear c3b0
              try clear c4
              try clear c4b0
              try clear c5
              try clear c5b0
              try clear hcz7_0
              try clear hcz7_1
              try clear hcz7_2
              try clear hcz7_3
              try clear hfz7_0
              try clear hfz7_1
              try clear hfz7_2
              try clear hfz7_3
              try clear hx201_0
              try clear hx201_1
              try clear hx201_2
              try clear hx201_3
              try clear p2
              try clear p201
              try clear q201
              obtain ⟨x8_2, x22_2, rfl, HA, HK2, HO_5, HO_8, BK202, HB⟩ := hrel
              cases gk with
              | zero => exact absurd HA.out (by simp [eval_values.l1])
              | succ k2 =>
                have H := HA.out
                clear HA
                simp only [eval_values.l1] at H
                by_cases c8 : x22_2 < (((rd_T45 l0 x15_1).f3).length : Int)
                · rw [if_pos c8] at H
                  have c8b0 : decide (x22_2 < (((rd_T45 l0 x15_1).f3).length : Int)) = true := decide_eq_true c8
                  clear c8
                  by_cases c9 : 0 ≤ x22_2
                  · rw [if_pos c9] at H
                    have c9b0 : decide (0 ≤ x22_2) = true := decide_eq_true c9
                    clear c9
                    by_cases c10 : x22_2 < (((rd_T45 l0 x15_1).f3).length : Int)
                    · rw [if_pos c10] at H
                      have c10b0 : decide (x22_2 < (((rd_T45 l0 x15_1).f3).length : Int)) = true := decide_eq_true c10
                      clear c10
                      by_cases c11 : 0 ≤ (rd ((rd_T45 l0 x15_1).f3) x22_2)
                      · rw [if_pos c11] at H
                        have c11b0 : decide (0 ≤ (rd ((rd_T45 l0 x15_1).f3) x22_2)) = true := decide_eq_true c11
                        clear c11
                        by_cases c12 : (rd ((rd_T45 l0 x15_1).f3) x22_2) < (x5_1.length : Int)
                        · rw [if_pos c12] at H
                          have c12b0 : decide ((rd ((rd_T45 l0 x15_1).f3) x22_2) < (x5_1.length : Int)) = true := decide_eq_true c12
                          clear c12
                          by_cases c13 : x8_2.length < 17592186044416
                          · rw [if_pos c13] at H
                            have LMc13 := Aside0.mk c13
                            clear c13
                            obtain ⟨y205, hy205⟩ : ∃ y_ : List Int, y_ = (x8_2 ++ [rd x5_1 (rd ((rd_T45 l0 x15_1).f3) x22_2)]) := ⟨_, rfl⟩
                            replace H : (eval_values.l1 k2 l1 x5_1 y205 l0 (l0.length : Int) x15_1 ((rd_T45 l0 x15_1).f3) (((rd_T45 l0 x15_1).f3).length : Int) (wrap64 (x22_2 + 1)) ((rd_T45 l0 x15_1).f0) ((rd_T45 l0 x15_1).f1) ((rd_T45 l0 x15_1).f2) ((rd_T45 l0 x15_1).f3)) = some r := by first | (rw [hy205]; with_reducible exact H) | (have H2_ := (Option.bind_some _ _).symm.trans H; rw [hy205]; with_reducible exact H2_) | (have H2_ := (Option.bind_some _ _).symm.trans H; with_reducible exact H2_) | with_reducible exact H | (rw [hy205]; exact H) | exact H
                            have Ny205 := Aside0.mk hy205
                            clear hy205
                            have H' := Aside0.mk H
                            clear H
                            have p203 : 0 ≤ (x22_2 : Int) := of_decide_eq_true (by first | (with_reducible assumption) | assumption)
                            have q203 : x22_2 < (((rd_T45 l0 x15_1).f3).length : Int) := of_decide_eq_true (by first | (with_reducible assumption) | assumption)
                            obtain ⟨ad203, e203, hx203_0⟩ := Kd.at_int HR201_3.out x22_2 p203 q203
                            cases e203
                            replace hx203_0 := (HB.out.cell (World.block_lt_of_cell? w _ hx203_0)).trans hx203_0
                            replace p203 := eq_true p203
                            replace q203 := eq_true q203
                            obtain ⟨Ao14, co14, eo14⟩ := Kd.R_slice HO_5.out
                            subst eo14
                            have p204 : 0 ≤ ((rd ((rd_T45 l0 x15_1).f3) x22_2) : Int) := of_decide_eq_true (by first | (with_reducible assumption) | assumption)
                            have q204 : (rd ((rd_T45 l0 x15_1).f3) x22_2) < (x5_1.length : Int) := of_decide_eq_true (by first | (with_reducible assumption) | assumption)
                            obtain ⟨ad204, e204, hx204_0⟩ := Kd.at_int (Kd.R_reads' HO_5.out).2.2 (rd ((rd_T45 l0 x15_1).f3) x22_2) p204 q204
                            cases e204
                            replace p204 := eq_true p204
                            replace q204 := eq_true q204
                            go_wp2_with (first | ((with_reducible refine gate_builtin (b := .append) (xs := #[.tmp 26, .tmp 31]) rfl ?_); at_builtin; refine Kd.R_append (Kd.int .i64) (w0 := w) w.heap.size rfl (.tmp 26) (.tmp 31) 73 2 (.int .i64 0) 8 rfl Tryd.underlying73 info2 rfl (by decide) (by omega) u8 x8_2 (rd x5_1 (rd ((rd_T45 l0 x15_1).f3) x22_2)) [.int .i64 (rd x5_1 (rd ((rd_T45 l0 x15_1).f3) x22_2))] (fun k_ => some k_ ≠ (.slice (some ad204) x5_1.length co14 : Value).ownBlock) (fun _ => False) rfl rfl ?aP (fun _ hk => hk.elim) ?aF ?aO ?aB ?aS ?aL ?_; (case aP => exact rfl); (case aB => exact (by repeat (first | (with_reducible first | exact HB.out | apply below_alloc | apply pw_below_drewN | apply below_drew1 | refine below_set ?_ GE202.out) | exact HB.out))); (case aF => exact (fun k_ hk => Kd.fresh' (Kd.R_lt (by (with_reducible repeat (first | apply Kd.R_alloc | apply Kd.R_drewN | apply Kd.R_drew)); exact HO_5.out)) k_ hk)); (case aO => exact (by (with_reducible repeat (first | apply Kd.R_alloc | apply Kd.R_drewN | apply Kd.R_drew)); exact HO_8.out)); (case aS => exact (below_size (by repeat (first | (with_reducible first | exact HB.out | apply below_alloc | apply pw_below_drewN | apply below_drew1 | refine below_set ?_ GE202.out) | exact HB.out)))); (case aL => have := LMc13.out; omega); intro v206 w15 ho hb hg hat; rw [← Ny205.out] at ho; have n0_ := Aside0.mk (Kd.R_after (ok := (fun _ => True)) (by (with_reducible repeat (first | apply Kd.R_alloc | apply Kd.R_drewN | apply Kd.R_drew)); exact Kd.R_mono HO_5.out (fun _ hk => ⟨trivial, hk⟩)) hg hat); have n1_ := Aside0.mk (blk_grown (g := gb202) (o := .cells #[.int .i64 ((rd_T45 l0 x15_1).f0), .int .i64 ((rd_T45 l0 x15_1).f1), .string ((rd_T45 l0 x15_1).f2), .slice (some ad203) ((rd_T45 l0 x15_1).f3).length c201_3] 45 (0, 0)) (by (with_reducible repeat (first | refine blk_drewN ?_ _ | refine blk_drew ?_ | refine blk_alloc ?_ _)); exact BK202.out) hg (Kd.R_ne HO_8.out BK202.out (by decide))); have n2_ := Aside0.mk (hb); have n3_ := Aside0.mk (ho); clear HO_5; clear BK202; clear HB; clear HO_8; have HO_5 := n0_; have BK202 := n1_; have HB := n2_; have HO207 := n3_; clear n0_ n1_ n2_ n3_; clear ho hb hg hat))
                            go_roundg k2
                            case measure => have := HK1.out; have := HK2.out; omega
                            case rel => exact ⟨(y205), (wrap64 (x22_2 + 1)), (by first | rfl | (simp; done) | (simp [*]; done)), H', ⟨by have := HK1.out; have := HK2.out; omega⟩, ⟨by (with_reducible repeat (first | apply Kd.R_alloc | apply Kd.R_drewN | apply Kd.R_drew)); exact Kd.R_mono HO_5.out (fun _ hk => hk.2)⟩, ⟨by (with_reducible repeat (first | apply Kd.R_alloc | apply Kd.R_drewN | apply Kd.R_drew)); exact HO207.out⟩, ⟨by (with_reducible repeat (first | refine blk_drewN ?_ _ | refine blk_drew ?_ | refine blk_alloc ?_ _)); exact BK202.out⟩, ⟨by repeat (first | (with_reducible first | exact HB.out | apply below_alloc | apply pw_below_drewN | apply below_drew1 | refine below_set ?_ GE202.out) | exact HB.out)⟩⟩
                          · rw [if_neg c13] at H
                            exact absurd H (by simp)
                        · rw [if_neg c12] at H
                          exact absurd H (by simp)
                      · rw [if_neg c11] at H
                        exact absurd H (by simp)
                    · rw [if_neg c10] at H
                      exact absurd H (by simp)
                  · rw [if_neg c9] at H
                    exact absurd H (by simp)
                · rw [if_neg c8] at H
                  have c8b0 : decide (x22_2 < (((rd_T45 l0 x15_1).f3).length : Int)) = false := decide_eq_false c8
                  clear c8
                  by_cases c16 : ((rd_T45 l0 x15_1).f0) = 1
                  · rw [if_pos c16] at H
                    have c16b0 : (((rd_T45 l0 x15_1).f0) == 1) = true := beq_iff_eq.mpr c16
                    have c16b1 : (((rd_T45 l0 x15_1).f0) != 1) = false := bne_eq_false_iff_eq.mpr c16
                    clear c16
                    by_cases c17 : x5_1.length < 17592186044416
                    · rw [if_pos c17] at H
                      have LMc17 := Aside0.mk c17
                      clear c17
                      obtain ⟨y208, hy208⟩ : ∃ y_ : List Int, y_ = (x5_1 ++ [((rd_T45 l0 x15_1).f1)]) := ⟨_, rfl⟩
                      replace H : (eval_values.l0 k2 l1 y208 l0 (l0.length : Int) (wrap64 (x15_1 + 1))) = some r := by first | (rw [hy208]; with_reducible exact H) | (have H2_ := (Option.bind_some _ _).symm.trans H; rw [hy208]; with_reducible exact H2_) | (have H2_ := (Option.bind_some _ _).symm.trans H; with_reducible exact H2_) | with_reducible exact H | (rw [hy208]; exact H) | exact H
                      have Ny208 := Aside0.mk hy208
                      clear hy208
                      have H' := Aside0.mk H
                      clear H
                      have hcz18_0 : wr.cell? ⟨gb202, 0, none⟩ = some (.int .i64 ((rd_T45 l0 x15_1).f0)) := (blk_cell BK202.out 0).trans rfl
                      have hcz18_1 : wr.cell? ⟨gb202, 1, none⟩ = some (.int .i64 ((rd_T45 l0 x15_1).f1)) := (blk_cell BK202.out 1).trans rfl
                      have hcz18_2 : wr.cell? ⟨gb202, 2, none⟩ = some (.string ((rd_T45 l0 x15_1).f2)) := (blk_cell BK202.out 2).trans rfl
                      have hcz18_3 : wr.cell? ⟨gb202, 3, none⟩ = some (.slice A201_3 ((rd_T45 l0 x15_1).f3).length c201_3) := (blk_cell BK202.out 3).trans rfl
                      have hfz18_0 := blk_frozen BK202.out 0
                      have hfz18_1 := blk_frozen BK202.out 1
                      have hfz18_2 := blk_frozen BK202.out 2
                      have hfz18_3 := blk_frozen BK202.out 3
                      go_wp2_with (first | ((with_reducible refine gate_builtin (b := .append) (xs := #[.tmp 56, .tmp 58]) rfl ?_); at_builtin; refine Kd.R_append (Kd.int .i64) (w0 := w) w.heap.size rfl (.tmp 56) (.tmp 58) 73 2 (.int .i64 0) 8 rfl Tryd.underlying73 info2 rfl (by decide) (by omega) u5 x5_1 ((rd_T45 l0 x15_1).f1) [.int .i64 ((rd_T45 l0 x15_1).f1)] (fun k_ => some k_ ≠ (u8 : Value).ownBlock) (fun _ => False) rfl rfl ?aP (fun _ hk => hk.elim) ?aF ?aO ?aB ?aS ?aL ?_; (case aP => exact rfl); (case aB => exact (by repeat (first | (with_reducible first | exact HB.out | apply below_alloc | apply pw_below_drewN | apply below_drew1 | refine below_set ?_ GE202.out) | exact HB.out))); (case aF => exact (fun k_ hk => Kd.fresh' (Kd.R_lt (by (with_reducible repeat (first | apply Kd.R_alloc | apply Kd.R_drewN | apply Kd.R_drew)); exact HO_8.out)) k_ hk)); (case aO => exact (by (with_reducible repeat (first | apply Kd.R_alloc | apply Kd.R_drewN | apply Kd.R_drew)); exact HO_5.out)); (case aS => exact (below_size (by repeat (first | (with_reducible first | exact HB.out | apply below_alloc | apply pw_below_drewN | apply below_drew1 | refine below_set ?_ GE202.out) | exact HB.out)))); (case aL => have := LMc17.out; omega); intro v209 w19 ho hb hg hat; rw [← Ny208.out] at ho; have n0_ := Aside0.mk (Kd.R_after (ok := (fun _ => True)) (by (with_reducible repeat (first | apply Kd.R_alloc | apply Kd.R_drewN | apply Kd.R_drew)); exact Kd.R_mono HO_8.out (fun _ hk => ⟨trivial, hk⟩)) hg hat); have n1_ := Aside0.mk (blk_grown (g := gb202) (o := .cells #[.int .i64 ((rd_T45 l0 x15_1).f0), .int .i64 ((rd_T45 l0 x15_1).f1), .string ((rd_T45 l0 x15_1).f2), .slice A201_3 ((rd_T45 l0 x15_1).f3).length c201_3] 45 (0, 0)) (by (with_reducible repeat (first | refine blk_drewN ?_ _ | refine blk_drew ?_ | refine blk_alloc ?_ _)); exact BK202.out) hg (Kd.R_ne HO_5.out BK202.out (by decide))); have n2_ := Aside0.mk (hb); have n3_ := Aside0.mk (ho); clear HO_8; clear BK202; clear HB; clear HO_5; have HO_8 := n0_; have BK202 := n1_; have HB := n2_; have HO210 := n3_; clear n0_ n1_ n2_ n3_; clear ho hb hg hat))
                      go_roundg k2
                      case measure => have := HK1.out; have := HK2.out; omega
                      case rel => exact ⟨(y208), (wrap64 (x15_1 + 1)), (by first | rfl | (simp; done) | (simp [*]; done)), H', ⟨by have := HK1.out; have := HK2.out; omega⟩, ⟨by (with_reducible repeat (first | apply Kd.R_alloc | apply Kd.R_drewN | apply Kd.R_drew)); exact Kd.R_mono HO210.out (fun _ hk => trivial)⟩, ⟨by repeat (first | (with_reducible first | exact HB.out | apply below_alloc | apply pw_below_drewN | apply below_drew1 | refine below_set ?_ GE202.out) | exact HB.out)⟩⟩
                    · rw [if_neg c17] at H
                      exact absurd H (by simp)
                  · rw [if_neg c16] at H
                    have c16b0 : (((rd_T45 l0 x15_1).f0) == 1) = false := beq_eq_false_iff_ne.mpr c16
                    have c16b1 : (((rd_T45 l0 x15_1).f0) != 1) = true := bne_iff_ne.mpr c16
                    by_cases c20 : ((rd_T45 l0 x15_1).f0) = 2
                    · rw [if_pos c20] at H
                      have c20b0 : (((rd_T45 l0 x15_1).f0) == 2) = true := beq_iff_eq.mpr c20
                      have c20b1 : (((rd_T45 l0 x15_1).f0) != 2) = false := bne_eq_false_iff_eq.mpr c20
                      clear c20
                      replace H := Option.bind_eq_some_iff.mp H
                      obtain ⟨t211, A210, H⟩ := H
                      replace H : (if x5_1.length < 17592186044416 then (eval_values.l0 k2 l1 (x5_1 ++ [t211]) l0 (l0.length : Int) (wrap64 (x15_1 + 1))) else (none)) = some r := H
                      have A21 := Aside0.mk A210
                      clear A210
                      by_cases c22 : x5_1.length < 17592186044416
                      · rw [if_pos c22] at H
                        have LMc22 := Aside0.mk c22
                        clear c22
                        obtain ⟨y212, hy212⟩ : ∃ y_ : List Int, y_ = (x5_1 ++ [t211]) := ⟨_, rfl⟩
                        replace H : (eval_values.l0 k2 l1 y212 l0 (l0.length : Int) (wrap64 (x15_1 + 1))) = some r := by first | (rw [hy212]; with_reducible exact H) | (have H2_ := (Option.bind_some _ _).symm.trans H; rw [hy212]; with_reducible exact H2_) | (have H2_ := (Option.bind_some _ _).symm.trans H; with_reducible exact H2_) | with_reducible exact H | (rw [hy212]; exact H) | exact H
                        have Ny212 := Aside0.mk hy212
                        clear hy212
                        have H' := Aside0.mk H
                        clear H
                        have hcz23_0 : wr.cell? ⟨gb202, 0, none⟩ = some (.int .i64 ((rd_T45 l0 x15_1).f0)) := (blk_cell BK202.out 0).trans rfl
                        have hcz23_1 : wr.cell? ⟨gb202, 1, none⟩ = some (.int .i64 ((rd_T45 l0 x15_1).f1)) := (blk_cell BK202.out 1).trans rfl
                        have hcz23_2 : wr.cell? ⟨gb202, 2, none⟩ = some (.string ((rd_T45 l0 x15_1).f2)) := (blk_cell BK202.out 2).trans rfl
                        have hcz23_3 : wr.cell? ⟨gb202, 3, none⟩ = some (.slice A201_3 ((rd_T45 l0 x15_1).f3).length c201_3) := (blk_cell BK202.out 3).trans rfl
                        have hfz23_0 := blk_frozen BK202.out 0
                        have hfz23_1 := blk_frozen BK202.out 1
                        have hfz23_2 := blk_frozen BK202.out 2
                        have hfz23_3 := blk_frozen BK202.out 3
                        go_wp2_with (first | ((with_reducible refine gate_callee (f := 52) rfl ?_); refine goesL_ (some 55) rfl rfl Tryd.func52 (by kernel_rfl) rfl #[.slice A1 l1.length c1, .string ((rd_T45 l0 x15_1).f2)] rfl (by (try simp only [List.map_toArray, List.map_cons, List.map_nil]); first | done | rfl | (simp only [List.length_drop, List.length_take]; rfl)) ?_; (with_reducible refine (env_Get.calls k2 _ _ l1 ((rd_T45 l0 x15_1).f2) t211 _ ?side1 ?side2 A21.out).mono ?_); (case side1 => repeat (first | exact (Kd.C_below HR1.out HB.out) | (with_reducible refine Kd.C_alloc ?_ _) | (with_reducible refine Kd.C_drewN ?_ _) | (with_reducible refine Kd.C_drew ?_))); (case side2 => exact HC1.out); rintro e w' ⟨rfl, ⟨nd, rfl⟩⟩; refine ⟨_, rfl, ?_⟩) | ((with_reducible refine gate_builtin (b := .append) (xs := #[.tmp 56, .tmp 58]) rfl ?_); at_builtin; refine Kd.R_append (Kd.int .i64) (w0 := w) w.heap.size rfl (.tmp 56) (.tmp 58) 73 2 (.int .i64 0) 8 rfl Tryd.underlying73 info2 rfl (by decide) (by omega) u5 x5_1 t211 [.int .i64 t211] (fun k_ => some k_ ≠ (u8 : Value).ownBlock) (fun _ => False) rfl rfl ?aP (fun _ hk => hk.elim) ?aF ?aO ?aB ?aS ?aL ?_; (case aP => exact rfl); (case aB => exact (by repeat (first | (with_reducible first | exact HB.out | apply below_alloc | apply pw_below_drewN | apply below_drew1 | refine below_set ?_ GE202.out) | exact HB.out))); (case aF => exact (fun k_ hk => Kd.fresh' (Kd.R_lt (by (with_reducible repeat (first | apply Kd.R_alloc | apply Kd.R_drewN | apply Kd.R_drew)); exact HO_8.out)) k_ hk)); (case aO => exact (by (with_reducible repeat (first | apply Kd.R_alloc | apply Kd.R_drewN | apply Kd.R_drew)); exact HO_5.out)); (case aS => exact (below_size (by repeat (first | (with_reducible first | exact HB.out | apply below_alloc | apply pw_below_drewN | apply below_drew1 | refine below_set ?_ GE202.out) | exact HB.out)))); (case aL => have := LMc22.out; omega); intro v213 w24 ho hb hg hat; rw [← Ny212.out] at ho; have n0_ := Aside0.mk (Kd.R_after (ok := (fun _ => True)) (by (with_reducible repeat (first | apply Kd.R_alloc | apply Kd.R_drewN | apply Kd.R_drew)); exact Kd.R_mono HO_8.out (fun _ hk => ⟨trivial, hk⟩)) hg hat); have n1_ := Aside0.mk (blk_grown (g := gb202) (o := .cells #[.int .i64 ((rd_T45 l0 x15_1).f0), .int .i64 ((rd_T45 l0 x15_1).f1), .string ((rd_T45 l0 x15_1).f2), .slice A201_3 ((rd_T45 l0 x15_1).f3).length c201_3] 45 (0, 0)) (by (with_reducible repeat (first | refine blk_drewN ?_ _ | refine blk_drew ?_ | refine blk_alloc ?_ _)); exact BK202.out) hg (Kd.R_ne HO_5.out BK202.out (by decide))); have n2_ := Aside0.mk (hb); have n3_ := Aside0.mk (ho); clear HO_8; clear BK202; clear HB; clear HO_5; have HO_8 := n0_; have BK202 := n1_; have HB := n2_; have HO214 := n3_; clear n0_ n1_ n2_ n3_; clear ho hb hg hat))
                        go_roundg k2
                        case measure => have := HK1.out; have := HK2.out; omega
                        case rel => exact ⟨(y212), (wrap64 (x15_1 + 1)), (by first | rfl | (simp; done) | (simp [*]; done)), H', ⟨by have := HK1.out; have := HK2.out; omega⟩, ⟨by (with_reducible repeat (first | apply Kd.R_alloc | apply Kd.R_drewN | apply Kd.R_drew)); exact Kd.R_mono HO214.out (fun _ hk => trivial)⟩, ⟨by repeat (first | (with_reducible first | exact HB.out | apply below_alloc | apply pw_below_drewN | apply below_drew1 | refine below_set ?_ GE202.out) | exact HB.out)⟩⟩
                      · rw [if_neg c22] at H
                        exact absurd H (by simp)
                    · rw [if_neg c20] at H
                      have c20b0 : (((rd_T45 l0 x15_1).f0) == 2) = false := beq_eq_false_iff_ne.mpr c20
                      have c20b1 : (((rd_T45 l0 x15_1).f0) != 2) = true := bne_iff_ne.mpr c20
                      replace H := Option.bind_eq_some_iff.mp H
                      obtain ⟨⟨t215, t216⟩, A250, H⟩ := H
                      replace H : (if t216 = 0 then (if x5_1.length < 17592186044416 then (eval_values.l0 k2 l1 (x5_1 ++ [t215]) l0 (l0.length : Int) (wrap64 (x15_1 + 1))) else (none)) else (some x5_1)) = some r := H
                      have A25 := Aside0.mk A250
                      clear A250
                      by_cases c26 : t216 = 0
                      · rw [if_pos c26] at H
                        have c26b0 : (t216 == 0) = true := beq_iff_eq.mpr c26
                        have c26b1 : (t216 != 0) = false := bne_eq_false_iff_eq.mpr c26
                        clear c26
                        by_cases c27 : x5_1.length < 17592186044416
                        · rw [if_pos c27] at H
                          have LMc27 := Aside0.mk c27
                          clear c27
                          obtain ⟨y217, hy217⟩ : ∃ y_ : List Int, y_ = (x5_1 ++ [t215]) := ⟨_, rfl⟩
                          replace H : (eval_values.l0 k2 l1 y217 l0 (l0.length : Int) (wrap64 (x15_1 + 1))) = some r := by first | (rw [hy217]; with_reducible exact H) | (have H2_ := (Option.bind_some _ _).symm.trans H; rw [hy217]; with_reducible exact H2_) | (have H2_ := (Option.bind_some _ _).symm.trans H; with_reducible exact H2_) | with_reducible exact H | (rw [hy217]; exact H) | exact H
                          have Ny217 := Aside0.mk hy217
                          clear hy217
                          have H' := Aside0.mk H
                          clear H
                          have hcz28_0 : wr.cell? ⟨gb202, 0, none⟩ = some (.int .i64 ((rd_T45 l0 x15_1).f0)) := (blk_cell BK202.out 0).trans rfl
                          have hcz28_1 : wr.cell? ⟨gb202, 1, none⟩ = some (.int .i64 ((rd_T45 l0 x15_1).f1)) := (blk_cell BK202.out 1).trans rfl
                          have hcz28_2 : wr.cell? ⟨gb202, 2, none⟩ = some (.string ((rd_T45 l0 x15_1).f2)) := (blk_cell BK202.out 2).trans rfl
                          have hcz28_3 : wr.cell? ⟨gb202, 3, none⟩ = some (.slice A201_3 ((rd_T45 l0 x15_1).f3).length c201_3) := (blk_cell BK202.out 3).trans rfl
                          have hfz28_0 := blk_frozen BK202.out 0
                          have hfz28_1 := blk_frozen BK202.out 1
                          have hfz28_2 := blk_frozen BK202.out 2
                          have hfz28_3 := blk_frozen BK202.out 3
                          obtain ⟨Ao29, co29, eo29⟩ := Kd.R_slice HO_8.out
                          subst eo29
                          go_wp2_with (first | ((with_reducible refine gate_callee (f := 53) rfl ?_); refine goesL_ (some 42) rfl rfl Tryd.func53 (by kernel_rfl) rfl #[.int .i64 ((rd_T45 l0 x15_1).f0), .slice Ao29 x8_2.length co29] rfl (by (try simp only [List.map_toArray, List.map_cons, List.map_nil]); first | done | rfl | (simp only [List.length_drop, List.length_take]; rfl)) ?_; (with_reducible refine (arith_Apply.calls k2 ((rd_T45 l0 x15_1).f0) _ _ x8_2 t215 t216 _ ?side1 ?side2 A25.out).mono ?_); (case side1 => repeat (first | exact (Kd.R_reads' HO_8.out).2.2 | (with_reducible refine Kd.C_alloc ?_ _) | (with_reducible refine Kd.C_drewN ?_ _) | (with_reducible refine Kd.C_drew ?_))); (case side2 => exact (Kd.R_reads' HO_8.out).2.1); rintro e w' ⟨rfl, ⟨nd, rfl⟩⟩; refine ⟨_, rfl, ?_⟩) | ((with_reducible refine gate_builtin (b := .append) (xs := #[.tmp 56, .tmp 58]) rfl ?_); at_builtin; refine Kd.R_append (Kd.int .i64) (w0 := w) w.heap.size rfl (.tmp 56) (.tmp 58) 73 2 (.int .i64 0) 8 rfl Tryd.underlying73 info2 rfl (by decide) (by omega) u5 x5_1 t215 [.int .i64 t215] (fun k_ => some k_ ≠ (.slice Ao29 x8_2.length co29 : Value).ownBlock) (fun _ => False) rfl rfl ?aP (fun _ hk => hk.elim) ?aF ?aO ?aB ?aS ?aL ?_; (case aP => exact rfl); (case aB => exact (by repeat (first | (with_reducible first | exact HB.out | apply below_alloc | apply pw_below_drewN | apply below_drew1 | refine below_set ?_ GE202.out) | exact HB.out))); (case aF => exact (fun k_ hk => Kd.fresh' (Kd.R_lt (by (with_reducible repeat (first | apply Kd.R_alloc | apply Kd.R_drewN | apply Kd.R_drew)); exact HO_8.out)) k_ hk)); (case aO => exact (by (with_reducible repeat (first | apply Kd.R_alloc | apply Kd.R_drewN | apply Kd.R_drew)); exact HO_5.out)); (case aS => exact (below_size (by repeat (first | (with_reducible first | exact HB.out | apply below_alloc | apply pw_below_drewN | apply below_drew1 | refine below_set ?_ GE202.out) | exact HB.out)))); (case aL => have := LMc27.out; omega); intro v218 w30 ho hb hg hat; rw [← Ny217.out] at ho; have n0_ := Aside0.mk (Kd.R_after (ok := (fun _ => True)) (by (with_reducible repeat (first | apply Kd.R_alloc | apply Kd.R_drewN | apply Kd.R_drew)); exact Kd.R_mono HO_8.out (fun _ hk => ⟨trivial, hk⟩)) hg hat); have n1_ := Aside0.mk (blk_grown (g := gb202) (o := .cells #[.int .i64 ((rd_T45 l0 x15_1).f0), .int .i64 ((rd_T45 l0 x15_1).f1), .string ((rd_T45 l0 x15_1).f2), .slice A201_3 ((rd_T45 l0 x15_1).f3).length c201_3] 45 (0, 0)) (by (with_reducible repeat (first | refine blk_drewN ?_ _ | refine blk_drew ?_ | refine blk_alloc ?_ _)); exact BK202.out) hg (Kd.R_ne HO_5.out BK202.out (by decide))); have n2_ := Aside0.mk (hb); have n3_ := Aside0.mk (ho); clear HO_8; clear BK202; clear HB; clear HO_5; have HO_8 := n0_; have BK202 := n1_; have HB := n2_; have HO219 := n3_; clear n0_ n1_ n2_ n3_; clear ho hb hg hat))
                          go_roundg k2
                          case measure => have := HK1.out; have := HK2.out; omega
                          case rel => exact ⟨(y217), (wrap64 (x15_1 + 1)), (by first | rfl | (simp; done) | (simp [*]; done)), H', ⟨by have := HK1.out; have := HK2.out; omega⟩, ⟨by (with_reducible repeat (first | apply Kd.R_alloc | apply Kd.R_drewN | apply Kd.R_drew)); exact Kd.R_mono HO219.out (fun _ hk => trivial)⟩, ⟨by repeat (first | (with_reducible first | exact HB.out | apply below_alloc | apply pw_below_drewN | apply below_drew1 | refine below_set ?_ GE202.out) | exact HB.out)⟩⟩
                        · rw [if_neg c27] at H
                          exact absurd H (by simp)
                      · rw [if_neg c26] at H
                        have c26b0 : (t216 == 0) = false := beq_eq_false_iff_ne.mpr c26
                        have c26b1 : (t216 != 0) = true := bne_iff_ne.mpr c26
                        obtain rfl := Option.some.inj H
                        have hcz31_0 : wr.cell? ⟨gb202, 0, none⟩ = some (.int .i64 ((rd_T45 l0 x15_1).f0)) := (blk_cell BK202.out 0).trans rfl
                        have hcz31_1 : wr.cell? ⟨gb202, 1, none⟩ = some (.int .i64 ((rd_T45 l0 x15_1).f1)) := (blk_cell BK202.out 1).trans rfl
                        have hcz31_2 : wr.cell? ⟨gb202, 2, none⟩ = some (.string ((rd_T45 l0 x15_1).f2)) := (blk_cell BK202.out 2).trans rfl
                        have hcz31_3 : wr.cell? ⟨gb202, 3, none⟩ = some (.slice A201_3 ((rd_T45 l0 x15_1).f3).length c201_3) := (blk_cell BK202.out 3).trans rfl
                        have hfz31_0 := blk_frozen BK202.out 0
                        have hfz31_1 := blk_frozen BK202.out 1
                        have hfz31_2 := blk_frozen BK202.out 2
                        have hfz31_3 := blk_frozen BK202.out 3
                        obtain ⟨Ao32, co32, eo32⟩ := Kd.R_slice HO_8.out
                        subst eo32
                        go_wp2_with (first | ((with_reducible refine gate_callee (f := 53) rfl ?_); refine goesL_ (some 42) rfl rfl Tryd.func53 (by kernel_rfl) rfl #[.int .i64 ((rd_T45 l0 x15_1).f0), .slice Ao32 x8_2.length co32] rfl (by (try simp only [List.map_toArray, List.map_cons, List.map_nil]); first | done | rfl | (simp only [List.length_drop, List.length_take]; rfl)) ?_; (with_reducible refine (arith_Apply.calls k2 ((rd_T45 l0 x15_1).f0) _ _ x8_2 t215 t216 _ ?side1 ?side2 A25.out).mono ?_); (case side1 => repeat (first | exact (Kd.R_reads' HO_8.out).2.2 | (with_reducible refine Kd.C_alloc ?_ _) | (with_reducible refine Kd.C_drewN ?_ _) | (with_reducible refine Kd.C_drew ?_))); (case side2 => exact (Kd.R_reads' HO_8.out).2.1); rintro e w' ⟨rfl, ⟨nd, rfl⟩⟩; refine ⟨_, rfl, ?_⟩))
                        go_ret
                        exact ⟨_, by first | rfl | (simp [errW_none, errW_some] <;> rfl) | (simp [*, errW_none, errW_some] <;> rfl), by (with_reducible repeat (first | apply Kd.R_alloc | apply Kd.R_drewN | apply Kd.R_drew)); exact Kd.R_mono HO_5.out (fun _ hk => trivial), by repeat (first | (with_reducible first | exact HB.out | apply below_alloc | apply pw_below_drewN | apply below_drew1 | refine below_set ?_ GE202.out) | exact HB.out)⟩
          · rw [if_neg c5] at H
            exact absurd H (by simp)
        · rw [if_neg c4] at H
          exact absurd H (by simp)
      · rw [if_neg c3] at H
        have c3b0 : decide (x15_1 < (l0.length : Int)) = false := decide_eq_false c3
        clear c3
        obtain rfl := Option.some.inj H
        go_wp2
        go_ret
        exact ⟨_, by first | rfl | (simp [errW_none, errW_some] <;> rfl) | (simp [*, errW_none, errW_some] <;> rfl), by (with_reducible repeat (first | apply Kd.R_alloc | apply Kd.R_drewN | apply Kd.R_drew)); exact HO_5.out, by repeat (first | (with_reducible first | exact HB.out | apply below_alloc | apply pw_below_drewN | apply below_drew1) | exact HB.out)⟩

end Go.Proofs.YtacjjfoelhckcaaDoor.PEvalPut
