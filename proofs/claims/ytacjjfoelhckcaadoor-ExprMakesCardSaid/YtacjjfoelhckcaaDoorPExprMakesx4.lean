/- Contracts of functions, printed by the session's own changed copy of the print generator (see its notes); the plain functions tell what the calls answer. -/
import Derived.Test.YtacjjfoelhckcaaDoorPExprMakesx0
namespace Go.Proofs.YtacjjfoelhckcaaDoor.PExprMakes
open Go.RowKit Go.Proofs.YtacjjfoelhckcaaDoorW.PrintWords Go.Proofs.YtacjjfoelhckcaaDoorW.PrintLast Go.Proofs.YtacjjfoelhckcaaDoorW.PrintMore
attribute [local go_sem] max2_int min2_int max_two min_two max_three min_three max_four min_four   -- for this text's walks alone
set_option linter.unusedVariables false
set_option linter.unusedSimpArgs false

/-! ### sorrelref02_walk: function 84 -/
mutual
def sorrelref02_walk.l0 : Nat → List (S45) → Int → List Int → Int → Option (Int)
  | 0, _, _, _, _ => none
  | k + 1, x0, x5, x6, x7 => if x7 ≥ 0 then (if 0 ≤ x7 then (if x7 < (x6.length : Int) then (if (rd x6 x7) = x5 then ((sorrelref02_walk.f k x0 x5).bind fun t172 => (if t172 = (-2) then (some (-2)) else (sorrelref02_walk.l0 k x0 t172 x6 (wrap64 (x7 - 1))))) else (some (-2))) else (none)) else (none)) else (some x5)
def sorrelref02_walk.f : Nat → List (S45) → Int → Option (Int)
  | 0, _, _ => none
  | k + 1, l0, a1 => if a1 < 0 then (some (-2)) else (if 0 ≤ a1 then (if a1 < (l0.length : Int) then (sorrelref02_walk.l0 k l0 (wrap64 (a1 - 1)) ((rd_T45 l0 a1).f3) (wrap64 ((((rd_T45 l0 a1).f3).length : Int) - 1))) else (none)) else (none))
end
theorem sorrelref02_walk.mono_l : ∀ k, (∀ y0 y1, LeO (sorrelref02_walk.f k y0 y1) (sorrelref02_walk.f (k + 1) y0 y1)) ∧ (∀ y0 y1 y2 y3, LeO (sorrelref02_walk.l0 k y0 y1 y2 y3) (sorrelref02_walk.l0 (k + 1) y0 y1 y2 y3))
  | 0 => ⟨fun _ _ r h => by simp [sorrelref02_walk.f] at h, fun _ _ _ _ r h => by simp [sorrelref02_walk.l0] at h⟩
  | k + 1 => by
    obtain ⟨ih0, ih1⟩ := sorrelref02_walk.mono_l k
    refine ⟨?_, ?_⟩
    · intro y0 y1
      unfold sorrelref02_walk.f
      repeat' first
      | (with_reducible exact ih0 _ _)
      | (with_reducible exact ih1 _ _ _ _)
      | (with_reducible exact LeO.refl _)
      | (with_reducible exact LeO.none _)
      | (with_reducible refine LeO.ite ?_ ?_)
      | (with_reducible refine LeO.bind ?_ (fun _ => ?_))
      | exact ih0 _ _
      | exact ih1 _ _ _ _
      | exact LeO.none _
      | refine LeO.ite ?_ ?_
      | refine LeO.bind ?_ (fun _ => ?_)
    · intro y0 y1 y2 y3
      unfold sorrelref02_walk.l0
      repeat' first
      | (with_reducible exact ih0 _ _)
      | (with_reducible exact ih1 _ _ _ _)
      | (with_reducible exact LeO.refl _)
      | (with_reducible exact LeO.none _)
      | (with_reducible refine LeO.ite ?_ ?_)
      | (with_reducible refine LeO.bind ?_ (fun _ => ?_))
      | exact ih0 _ _
      | exact ih1 _ _ _ _
      | exact LeO.none _
      | refine LeO.ite ?_ ?_
      | refine LeO.bind ?_ (fun _ => ?_)
theorem sorrelref02_walk.mono : ∀ a0 a1 k, LeO (sorrelref02_walk.f k a0 a1) (sorrelref02_walk.f (k + 1) a0 a1) := by
  intro a0 a1 k
  obtain ⟨ih0, ih1⟩ := sorrelref02_walk.mono_l k
  exact ih0 a0 a1
set_option maxHeartbeats 8000000 in
set_option maxRecDepth 100000 in
theorem sorrelref02_walk.calls (k : Nat) : ∀ (A0 : Option Addr) (c0 : Nat) (l0 : List (S45)) (a1 : Int) (r : Int) (w : World) (hr0 : Kd.C k45 w A0 l0.length l0) (hc0 : l0.length ≤ c0) (h : sorrelref02_walk.f k l0 a1 = some r),
    Calls Tryd.prog 84 #[.slice A0 l0.length c0, .int .i64 a1] w fun e w' => e = .returned (.int .i64 r) ∧ Drawn0 w w' := by
  induction k using Nat.strongRecOn with
  | _ k ih =>
  intro A0 c0 l0 a1 r w hr0 hc0 h
  cases k with
  | zero => exact absurd h (by simp [sorrelref02_walk.f])
  | succ k =>
  simp only [sorrelref02_walk.f] at h
  have HR0 := Aside0.mk hr0
  have HC0 := Aside0.mk hc0
  clear hr0 hc0
  have H : (if a1 < 0 then (some (-2)) else (if 0 ≤ a1 then (if a1 < (l0.length : Int) then (sorrelref02_walk.l0 k l0 (wrap64 (a1 - 1)) ((rd_T45 l0 a1).f3) (wrap64 ((((rd_T45 l0 a1).f3).length : Int) - 1))) else (none)) else (none))) = some r := h
  clear h
  by_cases c3 : a1 < 0
  · rw [if_pos c3] at H
    have c3b0 : decide (a1 < 0) = true := decide_eq_true c3
    clear c3
    obtain rfl := Option.some.inj H
    go_enter Tryd.func84, Tryd.ntmps84
    go_wp2
    go_ret
    exact ⟨by first | rfl | (simp; done) | (simp [*]; done), by repeat (first | exact Drawn0.refl _ | apply Drawn0.step)⟩
  · rw [if_neg c3] at H
    have c3b0 : decide (a1 < 0) = false := decide_eq_false c3
    clear c3
    by_cases c4 : 0 ≤ a1
    · rw [if_pos c4] at H
      have c4b0 : decide (0 ≤ a1) = true := decide_eq_true c4
      clear c4
      by_cases c5 : a1 < (l0.length : Int)
      · rw [if_pos c5] at H
        have c5b0 : decide (a1 < (l0.length : Int)) = true := decide_eq_true c5
        clear c5
        have H' := Aside0.mk H
        clear H
        have p170 : 0 ≤ (a1 : Int) := of_decide_eq_true (by first | (with_reducible assumption) | assumption)
        have q170 : a1 < (l0.length : Int) := of_decide_eq_true (by first | (with_reducible assumption) | assumption)
        obtain ⟨ad170, A170_3, c170_3, e170, hx170_0, hx170_1, hx170_2, hx170_3, hl170_3, hi170_3⟩ := at_T45 HR0.out a1 p170 q170
        cases e170
        have HR170_3 := Aside0.mk hi170_3
        have HC170_3 := Aside0.mk hl170_3
        clear hi170_3 hl170_3
        replace p170 := eq_true p170
        replace q170 := eq_true q170
        go_enter Tryd.func84, Tryd.ntmps84
        go_wp2
        go_loopg [5, 7] k (fun kq v5 v7 w' => ∃ (x5_1 : Int) (x7_1 : Int), v5 = .int .i64 x5_1 ∧ v7 = .int .i64 x7_1 ∧ Aside0 (sorrelref02_walk.l0 kq l0 x5_1 ((rd_T45 l0 a1).f3) x7_1 = some r) ∧ Aside0 (kq ≤ k) ∧ Drawn0 w w')
        case atStart => exact ⟨(wrap64 (a1 - 1)), (wrap64 ((((rd_T45 l0 a1).f3).length : Int) - 1)), (by first | rfl | (simp; done) | (simp [*]; done)), (by first | rfl | (simp; done) | (simp [*]; done)), H', ⟨Nat.le_refl _⟩, by repeat (first | exact Drawn0.refl _ | apply Drawn0.step)⟩
        case round =>
          clear H'
          try clear c1
          try clear p1
          try clear q1
          try clear hx1
          try clear p2
          try clear c3
          try clear c3b0
          try clear c4
          try clear c4b0
          try clear c5
          try clear c5b0
          try clear hx170_0
          try clear hx170_1
          try clear hx170_2
          try clear hx170_3
          try clear p170
          try clear q170
          obtain ⟨x5_1, x7_1, rfl, rfl, HA, HK1, ⟨m1, rfl⟩⟩ := hrel
          cases gk with
          | zero => exact absurd HA.out (by simp [sorrelref02_walk.l0])
          | succ k1 =>
            have H := HA.out
            clear HA
            simp only [sorrelref02_walk.l0] at H
            by_cases c6 : x7_1 ≥ 0
            · rw [if_pos c6] at H
              have c6b0 : decide (0 ≤ x7_1) = true := decide_eq_true c6
              clear c6
              by_cases c7 : 0 ≤ x7_1
              · rw [if_pos c7] at H
                have c7b0 : decide (0 ≤ x7_1) = true := decide_eq_true c7
                clear c7
                by_cases c8 : x7_1 < (((rd_T45 l0 a1).f3).length : Int)
                · rw [if_pos c8] at H
                  have c8b0 : decide (x7_1 < (((rd_T45 l0 a1).f3).length : Int)) = true := decide_eq_true c8
                  clear c8
                  by_cases c9 : (rd ((rd_T45 l0 a1).f3) x7_1) = x5_1
                  · rw [if_pos c9] at H
                    have c9b0 : ((rd ((rd_T45 l0 a1).f3) x7_1) == x5_1) = true := beq_iff_eq.mpr c9
                    have c9b1 : ((rd ((rd_T45 l0 a1).f3) x7_1) != x5_1) = false := bne_eq_false_iff_eq.mpr c9
                    clear c9
                    replace H := Option.bind_eq_some_iff.mp H
                    obtain ⟨t172, A100, H⟩ := H
                    replace H : (if t172 = (-2) then (some (-2)) else (sorrelref02_walk.l0 k1 l0 t172 ((rd_T45 l0 a1).f3) (wrap64 (x7_1 - 1)))) = some r := H
                    have A10 := Aside0.mk A100
                    clear A100
                    by_cases c11 : t172 = (-2)
                    · rw [if_pos c11] at H
                      have c11b0 : (t172 == (-2)) = true := beq_iff_eq.mpr c11
                      have c11b1 : (t172 != (-2)) = false := bne_eq_false_iff_eq.mpr c11
                      clear c11
                      obtain rfl := Option.some.inj H
                      have p171 : 0 ≤ (x7_1 : Int) := of_decide_eq_true (by first | (with_reducible assumption) | assumption)
                      have q171 : x7_1 < (((rd_T45 l0 a1).f3).length : Int) := of_decide_eq_true (by first | (with_reducible assumption) | assumption)
                      obtain ⟨ad171, e171, hx171_0⟩ := Kd.at_int HR170_3.out x7_1 p171 q171
                      cases e171
                      replace p171 := eq_true p171
                      replace q171 := eq_true q171
                      go_wp2_with (first | ((with_reducible refine gate_callee (f := 84) rfl ?_); refine goesL_ (some 32) rfl rfl Tryd.func84 (by kernel_rfl) rfl #[.slice (some ad170) l0.length c0, .int .i64 x5_1] rfl (by (try simp only [List.map_toArray, List.map_cons, List.map_nil]); first | done | rfl | (simp only [List.length_drop, List.length_take]; rfl)) ?_; (with_reducible refine (ih k1 (by have := HK1.out; omega) _ _ l0 x5_1 t172 _ ?side1 ?side2 A10.out).mono ?_); (case side1 => repeat (first | exact HR0.out | (with_reducible refine Kd.C_alloc ?_ _) | (with_reducible refine Kd.C_drewN ?_ _) | (with_reducible refine Kd.C_drew ?_))); (case side2 => exact HC0.out); rintro e w' ⟨rfl, ⟨nd, rfl⟩⟩; refine ⟨_, rfl, ?_⟩))
                      go_ret
                      exact ⟨by first | rfl | (simp; done) | (simp [*]; done), by repeat (first | exact Drawn0.refl _ | apply Drawn0.step)⟩
                    · rw [if_neg c11] at H
                      have c11b0 : (t172 == (-2)) = false := beq_eq_false_iff_ne.mpr c11
                      have c11b1 : (t172 != (-2)) = true := bne_iff_ne.mpr c11
                      have H' := Aside0.mk H
                      clear H
                      have p171 : 0 ≤ (x7_1 : Int) := of_decide_eq_true (by first | (with_reducible assumption) | assumption)
                      have q171 : x7_1 < (((rd_T45 l0 a1).f3).length : Int) := of_decide_eq_true (by first | (with_reducible assumption) | assumption)
                      obtain ⟨ad171, e171, hx171_0⟩ := Kd.at_int HR170_3.out x7_1 p171 q171
                      cases e171
                      replace p171 := eq_true p171
                      replace q171 := eq_true q171
                      go_wp2_with (first | ((with_reducible refine gate_callee (f := 84) rfl ?_); refine goesL_ (some 32) rfl rfl Tryd.func84 (by kernel_rfl) rfl #[.slice (some ad170) l0.length c0, .int .i64 x5_1] rfl (by (try simp only [List.map_toArray, List.map_cons, List.map_nil]); first | done | rfl | (simp only [List.length_drop, List.length_take]; rfl)) ?_; (with_reducible refine (ih k1 (by have := HK1.out; omega) _ _ l0 x5_1 t172 _ ?side1 ?side2 A10.out).mono ?_); (case side1 => repeat (first | exact HR0.out | (with_reducible refine Kd.C_alloc ?_ _) | (with_reducible refine Kd.C_drewN ?_ _) | (with_reducible refine Kd.C_drew ?_))); (case side2 => exact HC0.out); rintro e w' ⟨rfl, ⟨nd, rfl⟩⟩; refine ⟨_, rfl, ?_⟩))
                      go_roundg k1
                      case measure => have := HK1.out; omega
                      case rel => exact ⟨(t172), (wrap64 (x7_1 - 1)), (by first | rfl | (simp; done) | (simp [*]; done)), (by first | rfl | (simp; done) | (simp [*]; done)), H', ⟨by have := HK1.out; omega⟩, by repeat (first | exact Drawn0.refl _ | apply Drawn0.step)⟩
                  · rw [if_neg c9] at H
                    have c9b0 : ((rd ((rd_T45 l0 a1).f3) x7_1) == x5_1) = false := beq_eq_false_iff_ne.mpr c9
                    have c9b1 : ((rd ((rd_T45 l0 a1).f3) x7_1) != x5_1) = true := bne_iff_ne.mpr c9
                    obtain rfl := Option.some.inj H
                    have p171 : 0 ≤ (x7_1 : Int) := of_decide_eq_true (by first | (with_reducible assumption) | assumption)
                    have q171 : x7_1 < (((rd_T45 l0 a1).f3).length : Int) := of_decide_eq_true (by first | (with_reducible assumption) | assumption)
                    obtain ⟨ad171, e171, hx171_0⟩ := Kd.at_int HR170_3.out x7_1 p171 q171
                    cases e171
                    replace p171 := eq_true p171
                    replace q171 := eq_true q171
                    go_wp2
                    go_ret
                    exact ⟨by first | rfl | (simp; done) | (simp [*]; done), by repeat (first | exact Drawn0.refl _ | apply Drawn0.step)⟩
                · rw [if_neg c8] at H
                  exact absurd H (by simp)
              · rw [if_neg c7] at H
                exact absurd H (by simp)
            · rw [if_neg c6] at H
              have c6b0 : decide (0 ≤ x7_1) = false := decide_eq_false c6
              clear c6
              obtain rfl := Option.some.inj H
              go_wp2
              go_ret
              exact ⟨by first | rfl | (simp; done) | (simp [*]; done), by repeat (first | exact Drawn0.refl _ | apply Drawn0.step)⟩
      · rw [if_neg c5] at H
        exact absurd H (by simp)
    · rw [if_neg c4] at H
      exact absurd H (by simp)

/-! ### sorrelref02_Check: function 32 -/
mutual
def sorrelref02_Check.j0 : Nat → List (S45) → Bool → Option (Int)
  | 0, _, _ => none
  | k + 1, x0, x11 => if x11 = true then (some 1) else (sorrelref02_Check.l0 k x0 0)
def sorrelref02_Check.l0 : Nat → List (S45) → Int → Option (Int)
  | 0, _, _ => none
  | k + 1, x0, x3 => if x3 < (x0.length : Int) then (if 0 ≤ x3 then ((sorrelref02_Form.f ((rd_T45 x0 x3).f0) ((rd_T45 x0 x3).f1) ((rd_T45 x0 x3).f2) ((rd_T45 x0 x3).f3)).bind fun t174 => (if t174 = true then (sorrelref02_Check.l0 k x0 (wrap64 (x3 + 1))) else (some 1))) else (none)) else ((sorrelref02_walk.f k x0 (wrap64 ((x0.length : Int) - 1))).bind fun t175 => (if t175 = (-1) then (some 0) else (some 1)))
end
def sorrelref02_Check.f (k : Nat) (l0 : List (S45)) : Option (Int) := if (l0.length : Int) = 0 then (sorrelref02_Check.j0 k l0 true) else (sorrelref02_Check.j0 k l0 (decide ((l0.length : Int) > 64)))
theorem sorrelref02_Check.mono_l : ∀ k, (∀ y0 y1, LeO (sorrelref02_Check.j0 k y0 y1) (sorrelref02_Check.j0 (k + 1) y0 y1)) ∧ (∀ y0 y1, LeO (sorrelref02_Check.l0 k y0 y1) (sorrelref02_Check.l0 (k + 1) y0 y1))
  | 0 => ⟨fun _ _ r h => by simp [sorrelref02_Check.j0] at h, fun _ _ r h => by simp [sorrelref02_Check.l0] at h⟩
  | k + 1 => by
    obtain ⟨ih0, ih1⟩ := sorrelref02_Check.mono_l k
    refine ⟨?_, ?_⟩
    · intro y0 y1
      unfold sorrelref02_Check.j0
      repeat' first
      | (with_reducible exact ih0 _ _)
      | (with_reducible exact ih1 _ _)
      | (with_reducible exact sorrelref02_walk.mono _ _ _)
      | (with_reducible exact LeO.refl _)
      | (with_reducible exact LeO.none _)
      | (with_reducible refine LeO.ite ?_ ?_)
      | (with_reducible refine LeO.bind ?_ (fun _ => ?_))
      | exact ih0 _ _
      | exact ih1 _ _
      | exact sorrelref02_walk.mono _ _ _
      | exact LeO.none _
      | refine LeO.ite ?_ ?_
      | refine LeO.bind ?_ (fun _ => ?_)
    · intro y0 y1
      unfold sorrelref02_Check.l0
      repeat' first
      | (with_reducible exact ih0 _ _)
      | (with_reducible exact ih1 _ _)
      | (with_reducible exact sorrelref02_walk.mono _ _ _)
      | (with_reducible exact LeO.refl _)
      | (with_reducible exact LeO.none _)
      | (with_reducible refine LeO.ite ?_ ?_)
      | (with_reducible refine LeO.bind ?_ (fun _ => ?_))
      | exact ih0 _ _
      | exact ih1 _ _
      | exact sorrelref02_walk.mono _ _ _
      | exact LeO.none _
      | refine LeO.ite ?_ ?_
      | refine LeO.bind ?_ (fun _ => ?_)
theorem sorrelref02_Check.mono : ∀ a0 k, LeO (sorrelref02_Check.f k a0) (sorrelref02_Check.f (k + 1) a0) := by
  intro a0 k
  obtain ⟨ih0, ih1⟩ := sorrelref02_Check.mono_l k
  unfold sorrelref02_Check.f
  repeat' first
      | (with_reducible exact ih0 _ _)
      | (with_reducible exact ih1 _ _)
      | (with_reducible exact sorrelref02_walk.mono _ _ _)
      | (with_reducible exact LeO.refl _)
      | (with_reducible exact LeO.none _)
      | (with_reducible refine LeO.ite ?_ ?_)
      | (with_reducible refine LeO.bind ?_ (fun _ => ?_))
      | exact ih0 _ _
      | exact ih1 _ _
      | exact sorrelref02_walk.mono _ _ _
      | exact LeO.none _
      | refine LeO.ite ?_ ?_
      | refine LeO.bind ?_ (fun _ => ?_)
set_option maxHeartbeats 8000000 in
set_option maxRecDepth 100000 in
theorem sorrelref02_Check.calls (k : Nat) (A0 : Option Addr) (c0 : Nat) (l0 : List (S45)) (r : Int) (w : World) (hr0 : Kd.C k45 w A0 l0.length l0) (hc0 : l0.length ≤ c0) (h : sorrelref02_Check.f k l0 = some r) :
    Calls Tryd.prog 32 #[.slice A0 l0.length c0] w fun e w' => e = .returned (.int .i64 r) ∧ Below w.heap.size w w' := by
  have hu45 := Tryd.underlying45
  have HR0 := Aside0.mk hr0
  have HC0 := Aside0.mk hc0
  clear hr0 hc0
  have HB := Aside0.mk (Below.refl w.heap.size w)
  have H : (if (l0.length : Int) = 0 then (sorrelref02_Check.j0 k l0 true) else (sorrelref02_Check.j0 k l0 (decide ((l0.length : Int) > 64)))) = some r := h
  clear h
  have HC2 := Aside0.mk H
  clear H
  go_enter Tryd.func32, Tryd.ntmps32
  go_upto_region 1 with (fail)
  go_cut [11] (fun v11 wc => ∃ (kq : Nat) (x11_1 : Bool), v11 = .bool x11_1 ∧ Aside0 (sorrelref02_Check.j0 kq l0 x11_1 = some r) ∧ Aside0 (kq ≤ k) ∧ Aside0 (Below w.heap.size w wc))
  case first =>
    have H := HC2.out
    clear HC2
    by_cases c3 : (l0.length : Int) = 0
    · rw [if_pos c3] at H
      have c3b0 : ((l0.length : Int) == 0) = true := beq_iff_eq.mpr c3
      have c3b1 : ((l0.length : Int) != 0) = false := bne_eq_false_iff_eq.mpr c3
      clear c3
      (first | rw [c3b0] | (simp only [i64_w, i32_w]; rw [c3b0]) | skip)
      have H' := Aside0.mk H
      clear H
      go_wp2
      go_meet
      case rel => exact ⟨_, (true), (by first | rfl | (simp; done) | (simp [*]; done)), H', ⟨by first | omega | exact Nat.le_refl _⟩, ⟨by repeat (first | (with_reducible first | exact HB.out | apply below_alloc | apply pw_below_drewN | apply below_drew1) | exact HB.out)⟩⟩
    · rw [if_neg c3] at H
      have c3b0 : ((l0.length : Int) == 0) = false := beq_eq_false_iff_ne.mpr c3
      have c3b1 : ((l0.length : Int) != 0) = true := bne_iff_ne.mpr c3
      have c3b2 : ¬ (l0 = []) := fun h_ => c3 (by rw [h_]; rfl)
      (first | rw [c3b0] | (simp only [i64_w, i32_w]; rw [c3b0]) | skip)
      have H' := Aside0.mk H
      clear H
      go_wp2
      go_meet
      case rel => exact ⟨_, (decide ((l0.length : Int) > 64)), (by first | rfl | (simp; done) | (simp [*]; done)), H', ⟨by first | omega | exact Nat.le_refl _⟩, ⟨by repeat (first | (with_reducible first | exact HB.out | apply below_alloc | apply pw_below_drewN | apply below_drew1) | exact HB.out)⟩⟩
  case rest =>
    clear HC2
    try clear p2
    try clear c3
    try clear c3b0
    try clear c3b1
    try clear c3b2
    obtain ⟨kq, x11_1, rfl, HA, HJ1, HB⟩ := hcut
    cases kq with
    | zero => exact absurd HA.out (by simp [sorrelref02_Check.j0])
    | succ kj1 =>
      have H := HA.out
      clear HA
      simp only [sorrelref02_Check.j0] at H
      by_cases c4 : x11_1 = true
      · subst c4
        have H1 : (some 1) = some r := by rw [if_pos rfl] at H; exact H
        clear H
        have H := H1
        clear H1
        obtain rfl := Option.some.inj H
        go_wp2
        go_ret
        exact ⟨by first | rfl | (simp [errW_none, errW_some] <;> rfl) | (simp [*, errW_none, errW_some] <;> rfl), by repeat (first | (with_reducible first | exact HB.out | apply below_alloc | apply pw_below_drewN | apply below_drew1) | exact HB.out)⟩
      · replace c4 := Bool.eq_false_iff.mpr c4
        subst c4
        have H1 : (sorrelref02_Check.l0 kj1 l0 0) = some r := by rw [if_neg (show ¬ (false = true) by decide)] at H; exact H
        clear H
        have H := H1
        clear H1
        have H' := Aside0.mk H
        clear H
        go_wp2
        go_loopg [3] kj1 (fun kq v3 w' => ∃ (x3_2 : Int), v3 = .int .i64 x3_2 ∧ Aside0 (sorrelref02_Check.l0 kq l0 x3_2 = some r) ∧ Aside0 (kq ≤ kj1) ∧ Aside0 (Below w.heap.size w w'))
        case atStart => exact ⟨(0), (by first | rfl | (simp; done) | (simp [*]; done)), H', ⟨Nat.le_refl _⟩, ⟨by repeat (first | (with_reducible first | exact HB.out | apply below_alloc | apply pw_below_drewN | apply below_drew1) | exact HB.out)⟩⟩
        case round =>
          clear H'
          try clear p2
          try clear c3
          try clear c3b0
          try clear c3b1
          try clear c3b2
          try clear c4
          try clear p2
          obtain ⟨x3_2, rfl, HA, HK2, HB⟩ := hrel
          cases gk with
          | zero => exact absurd HA.out (by simp [sorrelref02_Check.l0])
          | succ k2 =>
            have H := HA.out
            clear HA
            simp only [sorrelref02_Check.l0] at H
            by_cases c5 : x3_2 < (l0.length : Int)
            · rw [if_pos c5] at H
              have c5b0 : decide (x3_2 < (l0.length : Int)) = true := decide_eq_true c5
              clear c5
              by_cases c6 : 0 ≤ x3_2
              · rw [if_pos c6] at H
                have c6b0 : decide (0 ≤ x3_2) = true := decide_eq_true c6
                clear c6
                replace H := Option.bind_eq_some_iff.mp H
                obtain ⟨t174, A70, H⟩ := H
                replace H : (if t174 = true then (sorrelref02_Check.l0 k2 l0 (wrap64 (x3_2 + 1))) else (some 1)) = some r := H
                have A7 := Aside0.mk A70
                clear A70
                by_cases c8 : t174 = true
                · subst c8
                  have H1 : (sorrelref02_Check.l0 k2 l0 (wrap64 (x3_2 + 1))) = some r := by rw [if_pos rfl] at H; exact H
                  clear H
                  have H := H1
                  clear H1
                  have H' := Aside0.mk H
                  clear H
                  have p173 : 0 ≤ (x3_2 : Int) := of_decide_eq_true (by first | (with_reducible assumption) | assumption)
                  have q173 : x3_2 < (l0.length : Int) := of_decide_eq_true (by first | (with_reducible assumption) | assumption)
                  obtain ⟨ad173, A173_3, c173_3, e173, hx173_0, hx173_1, hx173_2, hx173_3, hl173_3, hi173_3⟩ := at_T45 HR0.out x3_2 p173 q173
                  cases e173
                  replace hx173_0 := (HB.out.cell (World.block_lt_of_cell? w _ hx173_0)).trans hx173_0
                  replace hx173_1 := (HB.out.cell (World.block_lt_of_cell? w _ hx173_1)).trans hx173_1
                  replace hx173_2 := (HB.out.cell (World.block_lt_of_cell? w _ hx173_2)).trans hx173_2
                  replace hx173_3 := (HB.out.cell (World.block_lt_of_cell? w _ hx173_3)).trans hx173_3
                  have HR173_3 := Aside0.mk hi173_3
                  have HC173_3 := Aside0.mk hl173_3
                  clear hi173_3 hl173_3
                  replace p173 := eq_true p173
                  replace q173 := eq_true q173
                  go_wp2_with (first | ((with_reducible refine gate_callee (f := 78) rfl ?_); refine goesL_ (some 22) rfl rfl Tryd.func78 (by kernel_rfl) rfl #[.agg #[.int .i64 ((rd_T45 l0 x3_2).f0), .int .i64 ((rd_T45 l0 x3_2).f1), .string ((rd_T45 l0 x3_2).f2), .slice A173_3 ((rd_T45 l0 x3_2).f3).length c173_3]] rfl (by (try simp only [List.map_toArray, List.map_cons, List.map_nil]); first | done | rfl | (simp only [List.length_drop, List.length_take]; rfl)) ?_; (with_reducible refine (sorrelref02_Form.calls ((rd_T45 l0 x3_2).f0) ((rd_T45 l0 x3_2).f1) ((rd_T45 l0 x3_2).f2) _ _ ((rd_T45 l0 x3_2).f3) true _ ?side1 ?side2 A7.out).mono ?_); (case side1 => repeat (first | exact (Kd.C_below HR173_3.out HB.out) | (with_reducible refine Kd.C_alloc ?_ _) | (with_reducible refine Kd.C_drewN ?_ _) | (with_reducible refine Kd.C_drew ?_))); (case side2 => exact HC173_3.out); rintro e w9 ⟨rfl, hb⟩; refine ⟨_, rfl, ?_⟩; have n0_ := Aside0.mk (below_step (by repeat (first | (with_reducible first | exact HB.out | apply below_alloc | apply pw_below_drewN | apply below_drew1) | exact HB.out)) hb); clear HB; have HB := n0_; clear n0_; (try clear hb); (try clear hb2); (try clear hk); (try clear hi)))
                  go_roundg k2
                  case measure => have := HJ1.out; have := HK2.out; omega
                  case rel => exact ⟨(wrap64 (x3_2 + 1)), (by first | rfl | (simp; done) | (simp [*]; done)), H', ⟨by have := HJ1.out; have := HK2.out; omega⟩, ⟨by repeat (first | (with_reducible first | exact HB.out | apply below_alloc | apply pw_below_drewN | apply below_drew1) | exact HB.out)⟩⟩
                · replace c8 := Bool.eq_false_iff.mpr c8
                  subst c8
                  have H1 : (some 1) = some r := by rw [if_neg (show ¬ (false = true) by decide)] at H; exact H
                  clear H
                  have H := H1
                  clear H1
                  obtain rfl := Option.some.inj H
                  have p173 : 0 ≤ (x3_2 : Int) := of_decide_eq_true (by first | (with_reducible assumption) | assumption)
                  have q173 : x3_2 < (l0.length : Int) := of_decide_eq_true (by first | (with_reducible assumption) | assumption)
                  obtain ⟨ad173, A173_3, c173_3, e173, hx173_0, hx173_1, hx173_2, hx173_3, hl173_3, hi173_3⟩ := at_T45 HR0.out x3_2 p173 q173
                  cases e173
                  replace hx173_0 := (HB.out.cell (World.block_lt_of_cell? w _ hx173_0)).trans hx173_0
                  replace hx173_1 := (HB.out.cell (World.block_lt_of_cell? w _ hx173_1)).trans hx173_1
                  replace hx173_2 := (HB.out.cell (World.block_lt_of_cell? w _ hx173_2)).trans hx173_2
                  replace hx173_3 := (HB.out.cell (World.block_lt_of_cell? w _ hx173_3)).trans hx173_3
                  have HR173_3 := Aside0.mk hi173_3
                  have HC173_3 := Aside0.mk hl173_3
                  clear hi173_3 hl173_3
                  replace p173 := eq_true p173
                  replace q173 := eq_true q173
                  go_wp2_with (first | ((with_reducible refine gate_callee (f := 78) rfl ?_); refine goesL_ (some 22) rfl rfl Tryd.func78 (by kernel_rfl) rfl #[.agg #[.int .i64 ((rd_T45 l0 x3_2).f0), .int .i64 ((rd_T45 l0 x3_2).f1), .string ((rd_T45 l0 x3_2).f2), .slice A173_3 ((rd_T45 l0 x3_2).f3).length c173_3]] rfl (by (try simp only [List.map_toArray, List.map_cons, List.map_nil]); first | done | rfl | (simp only [List.length_drop, List.length_take]; rfl)) ?_; (with_reducible refine (sorrelref02_Form.calls ((rd_T45 l0 x3_2).f0) ((rd_T45 l0 x3_2).f1) ((rd_T45 l0 x3_2).f2) _ _ ((rd_T45 l0 x3_2).f3) false _ ?side1 ?side2 A7.out).mono ?_); (case side1 => repeat (first | exact (Kd.C_below HR173_3.out HB.out) | (with_reducible refine Kd.C_alloc ?_ _) | (with_reducible refine Kd.C_drewN ?_ _) | (with_reducible refine Kd.C_drew ?_))); (case side2 => exact HC173_3.out); rintro e w10 ⟨rfl, hb⟩; refine ⟨_, rfl, ?_⟩; have n0_ := Aside0.mk (below_step (by repeat (first | (with_reducible first | exact HB.out | apply below_alloc | apply pw_below_drewN | apply below_drew1) | exact HB.out)) hb); clear HB; have HB := n0_; clear n0_; (try clear hb); (try clear hb2); (try clear hk); (try clear hi)))
                  go_ret
                  exact ⟨by first | rfl | (simp [errW_none, errW_some] <;> rfl) | (simp [*, errW_none, errW_some] <;> rfl), by repeat (first | (with_reducible first | exact HB.out | apply below_alloc | apply pw_below_drewN | apply below_drew1) | exact HB.out)⟩
              · rw [if_neg c6] at H
                exact absurd H (by simp)
            · rw [if_neg c5] at H
              have c5b0 : decide (x3_2 < (l0.length : Int)) = false := decide_eq_false c5
              clear c5
              replace H := Option.bind_eq_some_iff.mp H
              obtain ⟨t175, A110, H⟩ := H
              replace H : (if t175 = (-1) then (some 0) else (some 1)) = some r := H
              have A11 := Aside0.mk A110
              clear A110
              by_cases c12 : t175 = (-1)
              · rw [if_pos c12] at H
                have c12b0 : (t175 == (-1)) = true := beq_iff_eq.mpr c12
                have c12b1 : (t175 != (-1)) = false := bne_eq_false_iff_eq.mpr c12
                clear c12
                obtain rfl := Option.some.inj H
                go_wp2_with (first | ((with_reducible refine gate_callee (f := 84) rfl ?_); refine goesL_ (some 28) rfl rfl Tryd.func84 (by kernel_rfl) rfl #[.slice A0 l0.length c0, .int .i64 (wrap64 ((l0.length : Int) - 1))] rfl (by (try simp only [List.map_toArray, List.map_cons, List.map_nil]); first | done | rfl | (simp only [List.length_drop, List.length_take]; rfl)) ?_; (with_reducible refine (sorrelref02_walk.calls k2 _ _ l0 (wrap64 ((l0.length : Int) - 1)) t175 _ ?side1 ?side2 A11.out).mono ?_); (case side1 => repeat (first | exact (Kd.C_below HR0.out HB.out) | (with_reducible refine Kd.C_alloc ?_ _) | (with_reducible refine Kd.C_drewN ?_ _) | (with_reducible refine Kd.C_drew ?_))); (case side2 => exact HC0.out); rintro e w' ⟨rfl, ⟨nd, rfl⟩⟩; refine ⟨_, rfl, ?_⟩))
                go_ret
                exact ⟨by first | rfl | (simp [errW_none, errW_some] <;> rfl) | (simp [*, errW_none, errW_some] <;> rfl), by repeat (first | (with_reducible first | exact HB.out | apply below_alloc | apply pw_below_drewN | apply below_drew1) | exact HB.out)⟩
              · rw [if_neg c12] at H
                have c12b0 : (t175 == (-1)) = false := beq_eq_false_iff_ne.mpr c12
                have c12b1 : (t175 != (-1)) = true := bne_iff_ne.mpr c12
                obtain rfl := Option.some.inj H
                go_wp2_with (first | ((with_reducible refine gate_callee (f := 84) rfl ?_); refine goesL_ (some 28) rfl rfl Tryd.func84 (by kernel_rfl) rfl #[.slice A0 l0.length c0, .int .i64 (wrap64 ((l0.length : Int) - 1))] rfl (by (try simp only [List.map_toArray, List.map_cons, List.map_nil]); first | done | rfl | (simp only [List.length_drop, List.length_take]; rfl)) ?_; (with_reducible refine (sorrelref02_walk.calls k2 _ _ l0 (wrap64 ((l0.length : Int) - 1)) t175 _ ?side1 ?side2 A11.out).mono ?_); (case side1 => repeat (first | exact (Kd.C_below HR0.out HB.out) | (with_reducible refine Kd.C_alloc ?_ _) | (with_reducible refine Kd.C_drewN ?_ _) | (with_reducible refine Kd.C_drew ?_))); (case side2 => exact HC0.out); rintro e w' ⟨rfl, ⟨nd, rfl⟩⟩; refine ⟨_, rfl, ?_⟩))
                go_ret
                exact ⟨by first | rfl | (simp [errW_none, errW_some] <;> rfl) | (simp [*, errW_none, errW_some] <;> rfl), by repeat (first | (with_reducible first | exact HB.out | apply below_alloc | apply pw_below_drewN | apply below_drew1) | exact HB.out)⟩

/-! ### sorrelref02_behind: function 122 -/
mutual
def sorrelref02_behind.l0 : Nat → List (S45) → List (S45) → Int → Int → Option ((List (S45)))
  | 0, _, _, _, _ => none
  | k + 1, x0, x1, x5, x6 => if x6 < (x1.length : Int) then (if 0 ≤ x6 then (if 0 ≤ (((rd_T45 x1 x6).f3).length : Int) then (if ((((rd_T45 x1 x6).f3).length : Int) : Int).toNat ≤ 35184372088832 then (sorrelref02_behind.l1 k x0 x1 x5 x6 (List.replicate ((((rd_T45 x1 x6).f3).length : Int) : Int).toNat 0) 0 ((rd_T45 x1 x6).f0) ((rd_T45 x1 x6).f1) ((rd_T45 x1 x6).f2) ((rd_T45 x1 x6).f3)) else (none)) else (none)) else (none)) else (some x0)
def sorrelref02_behind.l1 : Nat → List (S45) → List (S45) → Int → Int → List Int → Int → Int → Int → ByteArray → List Int → Option ((List (S45)))
  | 0, _, _, _, _, _, _, _, _, _, _ => none
  | k + 1, x0, x1, x5, x6, x8, x9, x178000, x178001, x178002, x178003 => if x9 < (x178003.length : Int) then (if 0 ≤ x9 then (if x9 < (x8.length : Int) then (sorrelref02_behind.l1 k x0 x1 x5 x6 (x8.set (x9 : Int).toNat (wrap64 ((rd x178003 x9) + x5))) (wrap64 (x9 + 1)) x178000 x178001 x178002 x178003) else (none)) else (none)) else (if x0.length < 2513169434916 then (sorrelref02_behind.l0 k (x0 ++ [(⟨x178000, x178001, x178002, x8⟩ : S45)]) x1 x5 (wrap64 (x6 + 1))) else (none))
end
def sorrelref02_behind.f (k : Nat) (l0 : List (S45)) (l1 : List (S45)) : Option ((List (S45))) := sorrelref02_behind.l0 k l0 l1 (l0.length : Int) 0
theorem sorrelref02_behind.mono_l : ∀ k, (∀ y0 y1 y2 y3, LeO (sorrelref02_behind.l0 k y0 y1 y2 y3) (sorrelref02_behind.l0 (k + 1) y0 y1 y2 y3)) ∧ (∀ y0 y1 y2 y3 y4 y5 y6 y7 y8 y9, LeO (sorrelref02_behind.l1 k y0 y1 y2 y3 y4 y5 y6 y7 y8 y9) (sorrelref02_behind.l1 (k + 1) y0 y1 y2 y3 y4 y5 y6 y7 y8 y9))
  | 0 => ⟨fun _ _ _ _ r h => by simp [sorrelref02_behind.l0] at h, fun _ _ _ _ _ _ _ _ _ _ r h => by simp [sorrelref02_behind.l1] at h⟩
  | k + 1 => by
    obtain ⟨ih0, ih1⟩ := sorrelref02_behind.mono_l k
    refine ⟨?_, ?_⟩
    · intro y0 y1 y2 y3
      unfold sorrelref02_behind.l0
      repeat' first
      | (with_reducible exact ih0 _ _ _ _)
      | (with_reducible exact ih1 _ _ _ _ _ _ _ _ _ _)
      | (with_reducible exact LeO.refl _)
      | (with_reducible exact LeO.none _)
      | (with_reducible refine LeO.ite ?_ ?_)
      | (with_reducible refine LeO.bind ?_ (fun _ => ?_))
      | exact ih0 _ _ _ _
      | exact ih1 _ _ _ _ _ _ _ _ _ _
      | exact LeO.none _
      | refine LeO.ite ?_ ?_
      | refine LeO.bind ?_ (fun _ => ?_)
    · intro y0 y1 y2 y3 y4 y5 y6 y7 y8 y9
      unfold sorrelref02_behind.l1
      repeat' first
      | (with_reducible exact ih0 _ _ _ _)
      | (with_reducible exact ih1 _ _ _ _ _ _ _ _ _ _)
      | (with_reducible exact LeO.refl _)
      | (with_reducible exact LeO.none _)
      | (with_reducible refine LeO.ite ?_ ?_)
      | (with_reducible refine LeO.bind ?_ (fun _ => ?_))
      | exact ih0 _ _ _ _
      | exact ih1 _ _ _ _ _ _ _ _ _ _
      | exact LeO.none _
      | refine LeO.ite ?_ ?_
      | refine LeO.bind ?_ (fun _ => ?_)
theorem sorrelref02_behind.mono : ∀ a0 a1 k, LeO (sorrelref02_behind.f k a0 a1) (sorrelref02_behind.f (k + 1) a0 a1) := by
  intro a0 a1 k
  obtain ⟨ih0, ih1⟩ := sorrelref02_behind.mono_l k
  unfold sorrelref02_behind.f
  repeat' first
      | (with_reducible exact ih0 _ _ _ _)
      | (with_reducible exact ih1 _ _ _ _ _ _ _ _ _ _)
      | (with_reducible exact LeO.refl _)
      | (with_reducible exact LeO.none _)
      | (with_reducible refine LeO.ite ?_ ?_)
      | (with_reducible refine LeO.bind ?_ (fun _ => ?_))
      | exact ih0 _ _ _ _
      | exact ih1 _ _ _ _ _ _ _ _ _ _
      | exact LeO.none _
      | refine LeO.ite ?_ ?_
      | refine LeO.bind ?_ (fun _ => ?_)
set_option maxHeartbeats 8000000 in
set_option maxRecDepth 100000 in
theorem sorrelref02_behind.calls (k : Nat) (P0_ : Nat → Prop) (u9000_ : Value) (l0 : List (S45)) (A1 : Option Addr) (c1 : Nat) (l1 : List (S45)) (r : List (S45)) (w0 w : World) (hB : Below w0.heap.size w0 w) (ho0 : Kd.S k45 45 w w0.heap.size P0_ u9000_ l0) (hr1 : Kd.C k45 w0 A1 l1.length l1) (hc1 : l1.length ≤ c1) (h : sorrelref02_behind.f k l0 l1 = some r) :
    Calls Tryd.prog 122 #[u9000_, .slice A1 l1.length c1] w fun e w' => ∃ v0_ : Value, e = .returned (v0_) ∧ Kd.S k45 45 w' w0.heap.size (fun k_ => (P0_ k_ ∨ w.heap.size ≤ k_)) v0_ r ∧ Below w0.heap.size w0 w' ∧ Kept w w' (fun k_ => P0_ k_) := by
  have hu45 := Tryd.underlying45
  have HO0 := Aside0.mk (show Kd.S k45 45 w w0.heap.size (fun k_ => (P0_ k_ ∨ w.heap.size ≤ k_)) u9000_ l0 from Kd.S_mono ho0 (fun k_ hk => (.inl hk)))
  have HR1 := Aside0.mk hr1
  have HC1 := Aside0.mk hc1
  clear hr1 hc1
  have HK := Aside0.mk (Kept.refl w (fun k_ => P0_ k_))
  have HW0 := Aside0.mk hB.size
  have HB := Aside0.mk hB
  clear hB
  have H : (sorrelref02_behind.l0 k l0 l1 (l0.length : Int) 0) = some r := h
  clear h
  have H' := Aside0.mk H
  clear H
  obtain ⟨Ao3, co3, eo3⟩ := Kd.S_slice HO0.out
  subst eo3
  go_enter Tryd.func122, Tryd.ntmps122
  go_wp2
  go_loopg [0, 6] k (fun kq v0 v6 w' => ∃ (x0_1 : List (S45)) (x6_1 : Int), v6 = .int .i64 x6_1 ∧ Aside0 (sorrelref02_behind.l0 kq x0_1 l1 (l0.length : Int) x6_1 = some r) ∧ Aside0 (kq ≤ k) ∧ Aside0 (Kd.S k45 45 w' w0.heap.size (fun k_ => (P0_ k_ ∨ w.heap.size ≤ k_)) v0 x0_1) ∧ Aside0 (Kept w w' (fun k_ => P0_ k_)) ∧ Aside0 (Below w0.heap.size w0 w'))
  case atStart => exact ⟨(l0), (0), (by first | rfl | (simp; done) | (simp [*]; done)), H', ⟨Nat.le_refl _⟩, ⟨by (with_reducible repeat (first | apply Kd.S_alloc | apply Kd.S_drewN | apply Kd.S_drew)); exact HO0.out⟩, ⟨by repeat (first | (with_reducible first | exact HK.out | apply Kept.alloc | apply Kept.drewN | apply Kept.drew) | exact HK.out)⟩, ⟨by repeat (first | (with_reducible first | exact HB.out | apply below_alloc | apply pw_below_drewN | apply below_drew1) | exact HB.out)⟩⟩
  case round =>
    clear H'
    try clear c1
    try clear p2
    obtain ⟨x0_1, x6_1, rfl, HA, HK1, HO_0, HK, HB⟩ := hrel
    cases gk with
    | zero => exact absurd HA.out (by simp [sorrelref02_behind.l0])
    | succ k1 =>
      have H := HA.out
      clear HA
      simp only [sorrelref02_behind.l0] at H
      by_cases c4 : x6_1 < (l1.length : Int)
      · rw [if_pos c4] at H
        have c4b0 : decide (x6_1 < (l1.length : Int)) = true := decide_eq_true c4
        clear c4
        by_cases c5 : 0 ≤ x6_1
        · rw [if_pos c5] at H
          have c5b0 : decide (0 ≤ x6_1) = true := decide_eq_true c5
          clear c5
          by_cases c6 : 0 ≤ (((rd_T45 l1 x6_1).f3).length : Int)
          · rw [if_pos c6] at H
            have c6b0 := eq_true c6
            have c6b1 : decide (0 ≤ (((rd_T45 l1 x6_1).f3).length : Int)) = true := decide_eq_true c6
            clear c6
            by_cases c7 : ((((rd_T45 l1 x6_1).f3).length : Int) : Int).toNat ≤ 35184372088832
            · rw [if_pos c7] at H
              have c7b0 := eq_true c7
              have c7b1 : decide (((((rd_T45 l1 x6_1).f3).length : Int) : Int).toNat ≤ 35184372088832) = true := decide_eq_true c7
              clear c7
              obtain ⟨y178, hy178⟩ : ∃ y_ : List Int, y_ = (List.replicate ((((rd_T45 l1 x6_1).f3).length : Int) : Int).toNat 0) := ⟨_, rfl⟩
              replace H : (sorrelref02_behind.l1 k1 x0_1 l1 (l0.length : Int) x6_1 y178 0 ((rd_T45 l1 x6_1).f0) ((rd_T45 l1 x6_1).f1) ((rd_T45 l1 x6_1).f2) ((rd_T45 l1 x6_1).f3)) = some r := by first | (rw [hy178]; with_reducible exact H) | (have H2_ := (Option.bind_some _ _).symm.trans H; rw [hy178]; with_reducible exact H2_) | (have H2_ := (Option.bind_some _ _).symm.trans H; with_reducible exact H2_) | with_reducible exact H | (rw [hy178]; exact H) | exact H
              have Ny178 := Aside0.mk hy178
              clear hy178
              have H' := Aside0.mk H
              clear H
              have p176 : 0 ≤ (x6_1 : Int) := of_decide_eq_true (by first | (with_reducible assumption) | assumption)
              have q176 : x6_1 < (l1.length : Int) := of_decide_eq_true (by first | (with_reducible assumption) | assumption)
              obtain ⟨ad176, A176_3, c176_3, e176, hx176_0, hx176_1, hx176_2, hx176_3, hl176_3, hi176_3⟩ := at_T45 HR1.out x6_1 p176 q176
              cases e176
              replace hx176_0 := (HB.out.cell (World.block_lt_of_cell? w0 _ hx176_0)).trans hx176_0
              replace hx176_1 := (HB.out.cell (World.block_lt_of_cell? w0 _ hx176_1)).trans hx176_1
              replace hx176_2 := (HB.out.cell (World.block_lt_of_cell? w0 _ hx176_2)).trans hx176_2
              replace hx176_3 := (HB.out.cell (World.block_lt_of_cell? w0 _ hx176_3)).trans hx176_3
              have HR176_3 := Aside0.mk hi176_3
              have HC176_3 := Aside0.mk hl176_3
              clear hi176_3 hl176_3
              replace p176 := eq_true p176
              replace q176 := eq_true q176
              go_wp2_with (first | ((with_reducible refine gate_dst (N := 7) rfl ?_); refine box_event ?hg (N := 7) ?hd (cs := #[.int .i64 0, .int .i64 0, .string (⟨#[]⟩ : ByteArray), .slice none 0 0]) (t := 45) ?hr ?_; (case hd => rfl); (case hg => rfl); (case hr => first | (go_simp; done) | (go_simp; rfl)); intro gb177 hg w8 hbox hb; have n0_ := Aside0.mk (Kd.S_below (Kd.S_elderB (by (with_reducible repeat (first | apply Kd.S_alloc | apply Kd.S_drewN | apply Kd.S_drew)); exact HO_0.out) gb177 (Nat.le_of_eq hg.symm)) hb); have n1_ := Aside0.mk (Kept.below (S := (fun k_ => P0_ k_)) (by repeat (first | (with_reducible first | exact HK.out | apply Kept.alloc | apply Kept.drewN | apply Kept.drew) | exact HK.out)) hb); have n2_ := Aside0.mk (below_step (by repeat (first | (with_reducible first | exact HB.out | apply below_alloc | apply pw_below_drewN | apply below_drew1) | exact HB.out)) hb); have n3_ := Aside0.mk (hbox); have n4_ := Aside0.mk ((by rw [hg]; exact (by first | exact HK.out.1 | exact (show Kept w _ (fun k_ => P0_ k_) from by repeat (first | (with_reducible first | exact HK.out | apply Kept.alloc | apply Kept.drewN | apply Kept.drew) | exact HK.out)).1) : w.heap.size ≤ gb177)); have n5_ := Aside0.mk ((by rw [hg]; exact (below_size (by repeat (first | (with_reducible first | exact HB.out | apply below_alloc | apply pw_below_drewN | apply below_drew1) | exact HB.out))) : w0.heap.size ≤ gb177)); clear HO_0; clear HK; clear HB; have HO_0 := n0_; have HK := n1_; have HB := n2_; have BK177 := n3_; have GW177 := n4_; have GE177 := n5_; clear n0_ n1_ n2_ n3_ n4_ n5_; clear hb hbox hg; have hcz9_0 : w8.cell? ⟨gb177, 0, none⟩ = some (.int .i64 0) := (blk_cell BK177.out 0).trans rfl; have hcz9_1 : w8.cell? ⟨gb177, 1, none⟩ = some (.int .i64 0) := (blk_cell BK177.out 1).trans rfl; have hcz9_2 : w8.cell? ⟨gb177, 2, none⟩ = some (.string (⟨#[]⟩ : ByteArray)) := (blk_cell BK177.out 2).trans rfl; have hcz9_3 : w8.cell? ⟨gb177, 3, none⟩ = some (.slice none 0 0) := (blk_cell BK177.out 3).trans rfl; have hfz9_0 := blk_frozen BK177.out 0; have hfz9_1 := blk_frozen BK177.out 1; have hfz9_2 := blk_frozen BK177.out 2; have hfz9_3 := blk_frozen BK177.out 3) | ((with_reducible refine gate_dst (N := 25) rfl ?_); refine Kd.R_make (Kd.int .i64) _ 3 rfl (N := 25) rfl 43 _ _ rfl (((rd_T45 l1 x6_1).f3).length : Int) rfl rfl Tryd.underlying43 (.int .i64 0) 8 info3 rfl (by decide) (by omega) 0 (ok := fun _ => True) (okp := fun _ => True) rfl (fun _ hk => hk) trivial (of_decide_eq_true (by first | (with_reducible assumption) | assumption)) (Nat.le_trans (Nat.mul_le_mul_right _ (of_decide_eq_true (by first | (with_reducible assumption) | assumption) : (((rd_T45 l1 x6_1).f3).length : Int).toNat ≤ 35184372088832)) (by omega)) (Below.refl _ _) (Nat.le_refl _) ?_; intro v179 w10 ho11 hb hg_ hnew_; clear hg_ hnew_; (first | rw [← Ny178.out] at ho11 | (simp only [Int.reduceToNat] at ho11; rw [← Ny178.out] at ho11)); have n0_ := Aside0.mk (Kd.S_elder' (by (with_reducible repeat (first | apply Kd.S_alloc | apply Kd.S_drewN | apply Kd.S_drew)); exact (Kd.S_mono (Kd.S_far (p := ⟨gb177, 3, none⟩) (Kd.S_far (p := ⟨gb177, 2, none⟩) (Kd.S_far (p := ⟨gb177, 1, none⟩) (Kd.S_far (p := ⟨gb177, 0, none⟩) (Kd.S_mono HO_0.out (fun k_ hk => (⟨hk, hk.2⟩ : _ ∧ k_ ≠ gb177))) (fun _ hk => hk.2) (.int .i64 ((rd_T45 l1 x6_1).f0))) (fun _ hk => hk.2) (.int .i64 ((rd_T45 l1 x6_1).f1))) (fun _ hk => hk.2) (.string ((rd_T45 l1 x6_1).f2))) (fun _ hk => hk.2) (.slice A176_3 ((rd_T45 l1 x6_1).f3).length c176_3)) (fun _ h_ => h_.1))) (Kd.R_base ho11) hb); have n1_ := Aside0.mk (Kd.R_lower (Kd.R_newM (M := fun k_ => (P0_ k_ ∨ w.heap.size ≤ k_)) ho11 (show Kept w _ (fun k_ => P0_ k_) from by repeat (first | (with_reducible first | exact HK.out | apply Kept.alloc | apply Kept.drewN | apply Kept.drew | refine Kept.setCell ?_ (.inr GW177.out) _) | exact HK.out)).1 (fun k_ h_ => .inr h_)) (below_size (by repeat (first | (with_reducible first | exact HB.out | apply below_alloc | apply pw_below_drewN | apply below_drew1 | refine below_set ?_ GE177.out) | exact HB.out)))); have n2_ := Aside0.mk (blk_below (g := gb177) (o := .cells #[.int .i64 ((rd_T45 l1 x6_1).f0), .int .i64 ((rd_T45 l1 x6_1).f1), .string ((rd_T45 l1 x6_1).f2), .slice A176_3 ((rd_T45 l1 x6_1).f3).length c176_3] 45 (0, 0)) (by (with_reducible repeat (first | refine blk_drewN ?_ _ | refine blk_drew ?_ | refine blk_alloc ?_ _)); refine blk_put (cs := #[.int .i64 ((rd_T45 l1 x6_1).f0), .int .i64 ((rd_T45 l1 x6_1).f1), .string ((rd_T45 l1 x6_1).f2), .slice none 0 0]) ?_ 3 _ rfl; (with_reducible repeat (first | refine blk_drewN ?_ _ | refine blk_drew ?_ | refine blk_alloc ?_ _)); refine blk_put (cs := #[.int .i64 ((rd_T45 l1 x6_1).f0), .int .i64 ((rd_T45 l1 x6_1).f1), .string (⟨#[]⟩ : ByteArray), .slice none 0 0]) ?_ 2 _ rfl; (with_reducible repeat (first | refine blk_drewN ?_ _ | refine blk_drew ?_ | refine blk_alloc ?_ _)); refine blk_put (cs := #[.int .i64 ((rd_T45 l1 x6_1).f0), .int .i64 0, .string (⟨#[]⟩ : ByteArray), .slice none 0 0]) ?_ 1 _ rfl; (with_reducible repeat (first | refine blk_drewN ?_ _ | refine blk_drew ?_ | refine blk_alloc ?_ _)); refine blk_put (cs := #[.int .i64 0, .int .i64 0, .string (⟨#[]⟩ : ByteArray), .slice none 0 0]) ?_ 0 _ rfl; (with_reducible repeat (first | refine blk_drewN ?_ _ | refine blk_drew ?_ | refine blk_alloc ?_ _)); exact BK177.out) hb); have n3_ := Aside0.mk (Kept.below (S := (fun k_ => P0_ k_)) (by repeat (first | (with_reducible first | exact HK.out | apply Kept.alloc | apply Kept.drewN | apply Kept.drew | refine Kept.setCell ?_ (.inr GW177.out) _) | exact HK.out)) hb); have n4_ := Aside0.mk (below_step (by repeat (first | (with_reducible first | exact HB.out | apply below_alloc | apply pw_below_drewN | apply below_drew1 | refine below_set ?_ GE177.out) | exact HB.out)) hb); clear HO_0; clear BK177; clear HK; clear HB; have HO_0 := n0_; have HO180 := n1_; have BK177 := n2_; have HK := n3_; have HB := n4_; clear n0_ n1_ n2_ n3_ n4_; clear hb ho11))
              go_loopg [9] k1 (fun kq v9 w' => ∃ (x8_2 : List Int) (x9_2 : Int), v9 = .int .i64 x9_2 ∧ Aside0 (sorrelref02_behind.l1 kq x0_1 l1 (l0.length : Int) x6_1 x8_2 x9_2 ((rd_T45 l1 x6_1).f0) ((rd_T45 l1 x6_1).f1) ((rd_T45 l1 x6_1).f2) ((rd_T45 l1 x6_1).f3) = some r) ∧ Aside0 (kq ≤ k1) ∧ Aside0 (Kd.S k45 45 w' w0.heap.size (fun k_ => (P0_ k_ ∨ w.heap.size ≤ k_) ∧ some k_ ≠ (v179 : Value).ownBlock ∧ k_ ≠ gb177) u0 x0_1) ∧ Aside0 (Kd.R (Kd.int .i64) 3 w' w0.heap.size (fun k_ => (P0_ k_ ∨ w.heap.size ≤ k_)) v179 x8_2) ∧ Aside0 (w'.heap[gb177]? = some (.cells #[.int .i64 ((rd_T45 l1 x6_1).f0), .int .i64 ((rd_T45 l1 x6_1).f1), .string ((rd_T45 l1 x6_1).f2), (.slice A176_3 ((rd_T45 l1 x6_1).f3).length c176_3)] 45 (0, 0))) ∧ Aside0 (Kept w w' (fun k_ => P0_ k_)) ∧ Aside0 (Below w0.heap.size w0 w'))
              case atStart => exact ⟨(y178), (0), (by first | rfl | (simp; done) | (simp [*]; done)), H', ⟨Nat.le_refl _⟩, ⟨by (with_reducible repeat (first | apply Kd.S_alloc | apply Kd.S_drewN | apply Kd.S_drew)); exact Kd.S_mono HO_0.out (fun _ hk => ⟨hk.1.1, ⟨hk.2, hk.1.2⟩⟩)⟩, ⟨by (with_reducible repeat (first | apply Kd.R_alloc | apply Kd.R_drewN | apply Kd.R_drew)); exact Kd.R_mono HO180.out (fun _ hk => hk.1)⟩, ⟨by (with_reducible repeat (first | refine blk_drewN ?_ _ | refine blk_drew ?_ | refine blk_alloc ?_ _)); exact BK177.out⟩, ⟨by repeat (first | (with_reducible first | exact HK.out | apply Kept.alloc | apply Kept.drewN | apply Kept.drew | refine Kept.setCell ?_ (.inr GW177.out) _) | exact HK.out)⟩, ⟨by repeat (first | (with_reducible first | exact HB.out | apply below_alloc | apply pw_below_drewN | apply below_drew1 | refine below_set ?_ GE177.out) | exact HB.out)⟩⟩
              case round =>
                clear H'
                try clear c1
                try clear p1
                try clear q1
                try clear hx1
                try clear p2
                try clear c4
                try clear c4b0
                try clear c5
                try clear c5b0
                try clear c6
                try clear c6b0
                try clear c6b1
                try clear c7
                try clear c7b0
                try clear c7b1
                try clear hcz9_0
                try clear hcz9_1
                try clear hcz9_2
                try clear hcz9_3
                try clear hfz9_0
                try clear hfz9_1
                try clear hfz9_2
                try clear hfz9_3
                try clear hx176_0
                try clear hx176_1
                try clear hx176_2
                try clear hx176_3
                try clear p176
                try clear p2
                try clear q176
                obtain ⟨x8_2, x9_2, rfl, HA, HK2, HO_0, HO_8, BK177, HK, HB⟩ := hrel
                cases gk with
                | zero => exact absurd HA.out (by simp [sorrelref02_behind.l1])
                | succ k2 =>
                  have H := HA.out
                  clear HA
                  simp only [sorrelref02_behind.l1] at H
                  by_cases c12 : x9_2 < (((rd_T45 l1 x6_1).f3).length : Int)
                  · rw [if_pos c12] at H
                    have c12b0 : decide (x9_2 < (((rd_T45 l1 x6_1).f3).length : Int)) = true := decide_eq_true c12
                    clear c12
                    by_cases c13 : 0 ≤ x9_2
                    · rw [if_pos c13] at H
                      have c13b0 : decide (0 ≤ x9_2) = true := decide_eq_true c13
                      clear c13
                      by_cases c14 : x9_2 < (x8_2.length : Int)
                      · rw [if_pos c14] at H
                        have c14b0 : decide (x9_2 < (x8_2.length : Int)) = true := decide_eq_true c14
                        clear c14
                        obtain ⟨y182, hy182⟩ : ∃ y_ : List Int, y_ = (x8_2.set (x9_2 : Int).toNat (wrap64 ((rd ((rd_T45 l1 x6_1).f3) x9_2) + (l0.length : Int)))) := ⟨_, rfl⟩
                        replace H : (sorrelref02_behind.l1 k2 x0_1 l1 (l0.length : Int) x6_1 y182 (wrap64 (x9_2 + 1)) ((rd_T45 l1 x6_1).f0) ((rd_T45 l1 x6_1).f1) ((rd_T45 l1 x6_1).f2) ((rd_T45 l1 x6_1).f3)) = some r := by first | (rw [hy182]; with_reducible exact H) | (have H2_ := (Option.bind_some _ _).symm.trans H; rw [hy182]; with_reducible exact H2_) | (have H2_ := (Option.bind_some _ _).symm.trans H; with_reducible exact H2_) | with_reducible exact H | (rw [hy182]; exact H) | exact H
                        have Ny182 := Aside0.mk hy182
                        clear hy182
                        have H' := Aside0.mk H
                        clear H
                        have hcz16_0 : wr.cell? ⟨gb177, 0, none⟩ = some (.int .i64 ((rd_T45 l1 x6_1).f0)) := (blk_cell BK177.out 0).trans rfl
                        have hcz16_1 : wr.cell? ⟨gb177, 1, none⟩ = some (.int .i64 ((rd_T45 l1 x6_1).f1)) := (blk_cell BK177.out 1).trans rfl
                        have hcz16_2 : wr.cell? ⟨gb177, 2, none⟩ = some (.string ((rd_T45 l1 x6_1).f2)) := (blk_cell BK177.out 2).trans rfl
                        have hcz16_3 : wr.cell? ⟨gb177, 3, none⟩ = some (.slice A176_3 ((rd_T45 l1 x6_1).f3).length c176_3) := (blk_cell BK177.out 3).trans rfl
                        have hfz16_0 := blk_frozen BK177.out 0
                        have hfz16_1 := blk_frozen BK177.out 1
                        have hfz16_2 := blk_frozen BK177.out 2
                        have hfz16_3 := blk_frozen BK177.out 3
                        have p181 : 0 ≤ (x9_2 : Int) := of_decide_eq_true (by first | (with_reducible assumption) | assumption)
                        have q181 : x9_2 < (((rd_T45 l1 x6_1).f3).length : Int) := of_decide_eq_true (by first | (with_reducible assumption) | assumption)
                        obtain ⟨ad181, e181, hx181_0⟩ := Kd.at_int HR176_3.out x9_2 p181 q181
                        cases e181
                        replace hx181_0 := (HB.out.cell (World.block_lt_of_cell? w0 _ hx181_0)).trans hx181_0
                        replace p181 := eq_true p181
                        replace q181 := eq_true q181
                        have p15 : 0 ≤ (x9_2 : Int) := of_decide_eq_true (by first | (with_reducible assumption) | assumption)
                        have q15 : (x9_2 : Int) < ((x8_2.length : Int) : Int) := of_decide_eq_true (by first | (with_reducible assumption) | assumption)
                        obtain ⟨go15, co15, eo15, gb15, gl15, cl15, HG15⟩ := Kd.R_form HO_8.out (by omega)
                        (first | cases eo15 | (injection eo15 with ea_ en_ ec_; (first | subst ea_ | (injection ea_ with ea_; subst ea_)); subst ec_; clear en_))
                        have GB15 := Aside0.mk gb15
                        have GG15 := Aside0.mk HG15
                        clear gb15 gl15 HG15
                        have HMgo15 := Aside0.mk (show (P0_ go15 ∨ w.heap.size ≤ go15) from (HO_8.out.1 _ rfl))
                        obtain ⟨hx15_0, hf15_0⟩ := Kd.R_celln 0 HO_8.out (x9_2 : Int) p15 q15
                        replace p15 := eq_true p15
                        replace q15 := eq_true q15
                        have HP17 := Kd.R_putg HO_8.out (x9_2 : Int) (wrap64 ((rd ((rd_T45 l1 x6_1).f3) x9_2) + (l0.length : Int)))
                        go_wp2_with (first | ((with_reducible refine gate_store (t := 3) (p := 42) rfl ?_); refine store_event (t := 3) (p := 42) (v := ?vo_w18) (w1 := (wr.setCell ⟨go15, (x9_2 : Int).toNat, none⟩ (.int .i64 (wrap64 ((rd ((rd_T45 l1 x6_1).f3) x9_2) + (l0.length : Int)))))) ?hg ?ho ?hn ?hr ?_; (case ho => rfl); (case hg => rfl); (case hn => rfl); (case hr => first | (go_simp; done) | (go_simp; rfl)); intro w18 hw; have hg : wr.grownBy w18 (some go15) := (by rw [hw]; exact HP17.2); have hp_ : Kd.R (Kd.int .i64) 3 w18 w0.heap.size (fun k_ => (P0_ k_ ∨ w.heap.size ≤ k_)) (.slice (some ⟨go15, 0, none⟩) x8_2.length co15) y182 := (by rw [hw, Ny182.out]; exact HP17.1); clear HP17; have n0_ := Aside0.mk (Kd.S_after (v := (.slice (some ⟨go15, 0, none⟩) x8_2.length co15)) (v1 := (.slice (some ⟨go15, 0, none⟩) x8_2.length co15)) (ok := (fun k_ => (P0_ k_ ∨ w.heap.size ≤ k_) ∧ k_ ≠ gb177)) (by (with_reducible repeat (first | apply Kd.S_alloc | apply Kd.S_drewN | apply Kd.S_drew)); exact Kd.S_mono HO_0.out (fun _ hk => ⟨⟨hk.1, hk.2.2⟩, hk.2.1⟩)) hg (.inl rfl)); have n1_ := Aside0.mk (hp_); have n2_ := Aside0.mk (blk_grown (g := gb177) (o := .cells #[.int .i64 ((rd_T45 l1 x6_1).f0), .int .i64 ((rd_T45 l1 x6_1).f1), .string ((rd_T45 l1 x6_1).f2), .slice (some ad181) ((rd_T45 l1 x6_1).f3).length c176_3] 45 (0, 0)) (by (with_reducible repeat (first | refine blk_drewN ?_ _ | refine blk_drew ?_ | refine blk_alloc ?_ _)); exact BK177.out) hg (Kd.R_ne HO_8.out BK177.out (by decide))); have n3_ := Aside0.mk ((by rw [hw]; exact below_set (HB.out) GB15.out : Below w0.heap.size w0 w18)); have n4_ := Aside0.mk (Kept.of_grown (S := (fun k_ => P0_ k_)) hg (by repeat (first | (with_reducible first | exact HK.out | apply Kept.alloc | apply Kept.drewN | apply Kept.drew | refine Kept.setCell ?_ (.inr GW177.out) _) | exact HK.out)) (fun k_ e_ => (HO_8.out.1 k_ e_))); clear HO_0; clear HO_8; clear BK177; clear HB; clear HK; have HO_0 := n0_; have HO_8 := n1_; have BK177 := n2_; have HB := n3_; have HK := n4_; clear n0_ n1_ n2_ n3_ n4_; clear hg hw hp_))
                        go_roundg k2
                        case measure => have := HK1.out; have := HK2.out; omega
                        case rel => exact ⟨(y182), (wrap64 (x9_2 + 1)), (by first | rfl | (simp; done) | (simp [*]; done)), H', ⟨by have := HK1.out; have := HK2.out; omega⟩, ⟨by (with_reducible repeat (first | apply Kd.S_alloc | apply Kd.S_drewN | apply Kd.S_drew)); exact Kd.S_mono HO_0.out (fun _ hk => ⟨hk.1.1, ⟨hk.2, hk.1.2⟩⟩)⟩, ⟨by (with_reducible repeat (first | apply Kd.R_alloc | apply Kd.R_drewN | apply Kd.R_drew)); exact HO_8.out⟩, ⟨by (with_reducible repeat (first | refine blk_drewN ?_ _ | refine blk_drew ?_ | refine blk_alloc ?_ _)); exact BK177.out⟩, ⟨by repeat (first | (with_reducible first | exact HK.out | apply Kept.alloc | apply Kept.drewN | apply Kept.drew | refine Kept.setCell ?_ (.inr GW177.out) _) | exact HK.out)⟩, ⟨by repeat (first | (with_reducible first | exact HB.out | apply below_alloc | apply pw_below_drewN | apply below_drew1 | refine below_set ?_ GE177.out) | exact HB.out)⟩⟩
                      · rw [if_neg c14] at H
                        exact absurd H (by simp)
                    · rw [if_neg c13] at H
                      exact absurd H (by simp)
                  · rw [if_neg c12] at H
                    have c12b0 : decide (x9_2 < (((rd_T45 l1 x6_1).f3).length : Int)) = false := decide_eq_false c12
                    clear c12
                    by_cases c19 : x0_1.length < 2513169434916
                    · rw [if_pos c19] at H
                      have LMc19 := Aside0.mk c19
                      clear c19
                      obtain ⟨y183, hy183⟩ : ∃ y_ : List (S45), y_ = (x0_1 ++ [(⟨((rd_T45 l1 x6_1).f0), ((rd_T45 l1 x6_1).f1), ((rd_T45 l1 x6_1).f2), x8_2⟩ : S45)]) := ⟨_, rfl⟩
                      replace H : (sorrelref02_behind.l0 k2 y183 l1 (l0.length : Int) (wrap64 (x6_1 + 1))) = some r := by first | (rw [hy183]; with_reducible exact H) | (have H2_ := (Option.bind_some _ _).symm.trans H; rw [hy183]; with_reducible exact H2_) | (have H2_ := (Option.bind_some _ _).symm.trans H; with_reducible exact H2_) | with_reducible exact H | (rw [hy183]; exact H) | exact H
                      have Ny183 := Aside0.mk hy183
                      clear hy183
                      have H' := Aside0.mk H
                      clear H
                      have hcz20_0 : wr.cell? ⟨gb177, 0, none⟩ = some (.int .i64 ((rd_T45 l1 x6_1).f0)) := (blk_cell BK177.out 0).trans rfl
                      have hcz20_1 : wr.cell? ⟨gb177, 1, none⟩ = some (.int .i64 ((rd_T45 l1 x6_1).f1)) := (blk_cell BK177.out 1).trans rfl
                      have hcz20_2 : wr.cell? ⟨gb177, 2, none⟩ = some (.string ((rd_T45 l1 x6_1).f2)) := (blk_cell BK177.out 2).trans rfl
                      have hcz20_3 : wr.cell? ⟨gb177, 3, none⟩ = some (.slice A176_3 ((rd_T45 l1 x6_1).f3).length c176_3) := (blk_cell BK177.out 3).trans rfl
                      have hfz20_0 := blk_frozen BK177.out 0
                      have hfz20_1 := blk_frozen BK177.out 1
                      have hfz20_2 := blk_frozen BK177.out 2
                      have hfz20_3 := blk_frozen BK177.out 3
                      obtain ⟨Ao21, co21, eo21⟩ := Kd.R_slice HO_8.out
                      subst eo21
                      go_wp2_with (first | ((with_reducible refine gate_store (t := 43) (p := 44) rfl ?_); refine store_event (t := 43) (p := 44) (v := ?vo_w22) (w1 := (wr.setCell ⟨gb177, 3, none⟩ (.slice Ao21 x8_2.length co21))) ?hg ?ho ?hn ?hr ?_; (case ho => rfl); (case hg => rfl); (case hn => rfl); (case hr => first | (go_simp; done) | (go_simp; rfl)); intro w22 hw; have n0_ : Aside0 (Kd.S k45 45 w22 w0.heap.size (fun k_ => (P0_ k_ ∨ w.heap.size ≤ k_) ∧ some k_ ≠ (.slice Ao21 x8_2.length co21 : Value).ownBlock ∧ k_ ≠ gb177) u0 x0_1) := ⟨(by rw [hw]; exact (by (with_reducible repeat (first | apply Kd.S_alloc | apply Kd.S_drewN | apply Kd.S_drew)); exact Kd.S_mono (Kd.S_far (p := ⟨gb177, 3, none⟩) (Kd.S_mono HO_0.out (fun k_ hk => (⟨hk, hk.2.2⟩ : _ ∧ k_ ≠ gb177))) (fun _ hk => hk.2) (.slice Ao21 x8_2.length co21)) (fun _ hk => ⟨hk.1.1, ⟨hk.1.2.1, hk.1.2.2⟩⟩)))⟩; have n1_ : Aside0 (Kd.R (Kd.int .i64) 3 w22 w0.heap.size (fun k_ => (P0_ k_ ∨ w.heap.size ≤ k_)) (.slice Ao21 x8_2.length co21) x8_2) := ⟨(by rw [hw]; exact (by (with_reducible repeat (first | apply Kd.R_alloc | apply Kd.R_drewN | apply Kd.R_drew)); exact Kd.R_mono (Kd.R_far (p := ⟨gb177, 3, none⟩) (Kd.R_types HO_8.out BK177.out (by decide)) (fun _ hk => hk.2) (.slice Ao21 x8_2.length co21)) (fun _ hk => hk.1)))⟩; have n2_ : Aside0 (w22.heap[gb177]? = some (.cells #[.int .i64 ((rd_T45 l1 x6_1).f0), .int .i64 ((rd_T45 l1 x6_1).f1), .string ((rd_T45 l1 x6_1).f2), .slice Ao21 x8_2.length co21] 45 (0, 0))) := ⟨(by rw [hw]; exact (by (with_reducible repeat (first | refine blk_drewN ?_ _ | refine blk_drew ?_ | refine blk_alloc ?_ _)); refine blk_put (cs := #[.int .i64 ((rd_T45 l1 x6_1).f0), .int .i64 ((rd_T45 l1 x6_1).f1), .string ((rd_T45 l1 x6_1).f2), .slice A176_3 ((rd_T45 l1 x6_1).f3).length c176_3]) ?_ 3 _ rfl; (with_reducible repeat (first | refine blk_drewN ?_ _ | refine blk_drew ?_ | refine blk_alloc ?_ _)); exact BK177.out))⟩; have n3_ : Aside0 (Kept w w22 (fun k_ => P0_ k_)) := ⟨(by rw [hw]; exact (by repeat (first | (with_reducible first | exact HK.out | apply Kept.alloc | apply Kept.drewN | apply Kept.drew | refine Kept.setCell ?_ (.inr GW177.out) _) | exact HK.out)))⟩; have n4_ : Aside0 (Below w0.heap.size w0 w22) := ⟨(by rw [hw]; exact (by repeat (first | (with_reducible first | exact HB.out | apply below_alloc | apply pw_below_drewN | apply below_drew1 | refine below_set ?_ GE177.out) | exact HB.out)))⟩; clear hw; clear HO_0; clear HO_8; clear BK177; clear HK; clear HB; have HO_0 := n0_; have HO_8 := n1_; have BK177 := n2_; have HK := n3_; have HB := n4_; clear n0_ n1_ n2_ n3_ n4_; have hcz23_0 : w22.cell? ⟨gb177, 0, none⟩ = some (.int .i64 ((rd_T45 l1 x6_1).f0)) := (blk_cell BK177.out 0).trans rfl; have hcz23_1 : w22.cell? ⟨gb177, 1, none⟩ = some (.int .i64 ((rd_T45 l1 x6_1).f1)) := (blk_cell BK177.out 1).trans rfl; have hcz23_2 : w22.cell? ⟨gb177, 2, none⟩ = some (.string ((rd_T45 l1 x6_1).f2)) := (blk_cell BK177.out 2).trans rfl; have hcz23_3 : w22.cell? ⟨gb177, 3, none⟩ = some (.slice Ao21 x8_2.length co21) := (blk_cell BK177.out 3).trans rfl; have hfz23_0 := blk_frozen BK177.out 0; have hfz23_1 := blk_frozen BK177.out 1; have hfz23_2 := blk_frozen BK177.out 2; have hfz23_3 := blk_frozen BK177.out 3) | ((with_reducible refine gate_builtin (b := .append) (xs := #[.tmp 45, .tmp 47]) rfl ?_); at_builtin; refine Kd.S_append k45 (w0 := w0) w0.heap.size rfl (.tmp 45) (.tmp 47) 30 45 (.agg #[(.int .i64 0), (.int .i64 0), (.string ⟨#[]⟩), (.slice none 0 0)]) 56 rfl Tryd.underlying30 info45 rfl (by decide) (by omega) u0 x0_1 (⟨((rd_T45 l1 x6_1).f0), ((rd_T45 l1 x6_1).f1), ((rd_T45 l1 x6_1).f2), x8_2⟩ : S45) [.int .i64 ((rd_T45 l1 x6_1).f0), .int .i64 ((rd_T45 l1 x6_1).f1), .string ((rd_T45 l1 x6_1).f2), .slice Ao21 x8_2.length co21] (fun k_ => (P0_ k_ ∨ w.heap.size ≤ k_) ∧ k_ ≠ gb177) (fun k_ => some k_ = (.slice Ao21 x8_2.length co21 : Value).ownBlock) rfl rfl ?aP (fun k_ hk_ => ((Kd.R_mono (ok' := fun k_ => ((fun k_ => (P0_ k_ ∨ w.heap.size ≤ k_) ∧ k_ ≠ gb177)) k_ ∧ some k_ ≠ (u0 : Value).ownBlock) (Kd.R_types (Kd.R_apart' (HO_8.out) (Kd.S_typed HO_0.out) (by decide)) BK177.out (by decide)) (fun k_ hk => ⟨⟨hk.1.1, hk.2⟩, hk.1.2⟩))).1 k_ hk_.symm) ?aF ?aO ?aB ?aS ?aL ?_; (case aP => exact k45_mkM _ _ _ (⟨((rd_T45 l1 x6_1).f0), ((rd_T45 l1 x6_1).f1), ((rd_T45 l1 x6_1).f2), x8_2⟩ : S45) (Kd.R_mono (Kd.R_tight rfl (Kd.R_mono (ok' := fun k_ => ((fun k_ => (P0_ k_ ∨ w.heap.size ≤ k_) ∧ k_ ≠ gb177)) k_ ∧ some k_ ≠ (u0 : Value).ownBlock) (Kd.R_types (Kd.R_apart' (HO_8.out) (Kd.S_typed HO_0.out) (by decide)) BK177.out (by decide)) (fun k_ hk => ⟨⟨hk.1.1, hk.2⟩, hk.1.2⟩))) (fun _ h_ => h_))); (case aB => exact (by repeat (first | (with_reducible first | exact HB.out | apply below_alloc | apply pw_below_drewN | apply below_drew1 | refine below_set ?_ GE177.out) | exact HB.out))); (case aF => exact (fun k_ hk => ⟨(.inr (Nat.le_trans (by first | exact HK.out.1 | exact (show Kept w _ (fun k_ => P0_ k_) from by repeat (first | (with_reducible first | exact HK.out | apply Kept.alloc | apply Kept.drewN | apply Kept.drew | refine Kept.setCell ?_ (.inr GW177.out) _) | exact HK.out)).1) hk)), Kd.freshB (g := gb177) (o := .cells #[.int .i64 ((rd_T45 l1 x6_1).f0), .int .i64 ((rd_T45 l1 x6_1).f1), .string ((rd_T45 l1 x6_1).f2), .slice Ao21 x8_2.length co21] 45 (0, 0)) (by (with_reducible repeat (first | refine blk_drewN ?_ _ | refine blk_drew ?_ | refine blk_alloc ?_ _)); exact BK177.out) k_ hk⟩)); (case aO => exact (by (with_reducible repeat (first | apply Kd.S_alloc | apply Kd.S_drewN | apply Kd.S_drew)); exact Kd.S_mono HO_0.out (fun k_ hk => ⟨⟨hk.1, hk.2.2⟩, fun e_ => hk.2.1 e_⟩))); (case aS => exact (below_size (by repeat (first | (with_reducible first | exact HB.out | apply below_alloc | apply pw_below_drewN | apply below_drew1 | refine below_set ?_ GE177.out) | exact HB.out)))); (case aL => have := LMc19.out; omega); intro v184 w24 ho hb hg hat; rw [← Ny183.out] at ho; have n0_ := Aside0.mk (blk_grown (g := gb177) (o := .cells #[.int .i64 ((rd_T45 l1 x6_1).f0), .int .i64 ((rd_T45 l1 x6_1).f1), .string ((rd_T45 l1 x6_1).f2), .slice Ao21 x8_2.length co21] 45 (0, 0)) (by (with_reducible repeat (first | refine blk_drewN ?_ _ | refine blk_drew ?_ | refine blk_alloc ?_ _)); exact BK177.out) hg (Kd.S_away HO_0.out (fun _ hk => hk.2.2))); have n1_ := Aside0.mk (hb); have n2_ := Aside0.mk (Kept.of_grown (S := (fun k_ => P0_ k_)) hg (by repeat (first | (with_reducible first | exact HK.out | apply Kept.alloc | apply Kept.drewN | apply Kept.drew | refine Kept.setCell ?_ (.inr GW177.out) _) | exact HK.out)) (fun k_ e_ => ((Kd.S_R HO_0.out).1 k_ e_).1)); have n3_ := Aside0.mk (ho); clear BK177; clear HB; clear HK; clear HO_0; clear HO_8; have BK177 := n0_; have HB := n1_; have HK := n2_; have HO185 := n3_; clear n0_ n1_ n2_ n3_; clear ho hb hg hat))
                      go_roundg k2
                      case measure => have := HK1.out; have := HK2.out; omega
                      case rel => exact ⟨(y183), (wrap64 (x6_1 + 1)), (by first | rfl | (simp; done) | (simp [*]; done)), H', ⟨by have := HK1.out; have := HK2.out; omega⟩, ⟨by (with_reducible repeat (first | apply Kd.S_alloc | apply Kd.S_drewN | apply Kd.S_drew)); exact Kd.S_mono HO185.out (fun _ hk => hk.1)⟩, ⟨by repeat (first | (with_reducible first | exact HK.out | apply Kept.alloc | apply Kept.drewN | apply Kept.drew | refine Kept.setCell ?_ (.inr GW177.out) _) | exact HK.out)⟩, ⟨by repeat (first | (with_reducible first | exact HB.out | apply below_alloc | apply pw_below_drewN | apply below_drew1 | refine below_set ?_ GE177.out) | exact HB.out)⟩⟩
                    · rw [if_neg c19] at H
                      exact absurd H (by simp)
            · rw [if_neg c7] at H
              exact absurd H (by simp)
          · rw [if_neg c6] at H
            exact absurd H (by simp)
        · rw [if_neg c5] at H
          exact absurd H (by simp)
      · rw [if_neg c4] at H
        have c4b0 : decide (x6_1 < (l1.length : Int)) = false := decide_eq_false c4
        clear c4
        obtain rfl := Option.some.inj H
        go_wp2
        go_ret
        exact ⟨_, by first | rfl | (simp [errW_none, errW_some] <;> rfl) | (simp [*, errW_none, errW_some] <;> rfl), by (with_reducible repeat (first | apply Kd.S_alloc | apply Kd.S_drewN | apply Kd.S_drew)); exact HO_0.out, by repeat (first | (with_reducible first | exact HB.out | apply below_alloc | apply pw_below_drewN | apply below_drew1) | exact HB.out), by repeat (first | (with_reducible first | exact HK.out | apply Kept.alloc | apply Kept.drewN | apply Kept.drew) | exact HK.out)⟩

/-! ### sorrelref02_Joined: function 79 -/
def sorrelref02_Joined.l0 : Nat → List (List (S45)) → List (S45) → List Int → Int → Int → Int → ByteArray → List Int → Option ((List (S45)))
  | 0, _, _, _, _, _, _, _, _ => none
  | k + 1, x1, x5, x6, x7, x187000, x187001, x187002, x187003 => if x7 < (x1.length : Int) then (if 0 ≤ x7 then ((sorrelref02_behind.f k x5 (rd_L4 x1 x7)).bind fun t188 => (if x6.length < 17592186044416 then (sorrelref02_Joined.l0 k x1 t188 (x6 ++ [wrap64 ((t188.length : Int) - 1)]) (wrap64 (x7 + 1)) x187000 x187001 x187002 x187003) else (none))) else (none)) else (if x5.length < 2513169434916 then (some (x5 ++ [(⟨x187000, x187001, x187002, x6⟩ : S45)])) else (none))
def sorrelref02_Joined.f (k : Nat) (a0_0 : Int) (a0_1 : Int) (a0_2 : ByteArray) (l0_3 : List Int) (l1 : List (List (S45))) : Option ((List (S45))) := sorrelref02_Joined.l0 k l1 ([] : List (S45)) ([] : List Int) 0 a0_0 a0_1 a0_2 l0_3
theorem sorrelref02_Joined.mono_l : ∀ k, (∀ y0 y1 y2 y3 y4 y5 y6 y7, LeO (sorrelref02_Joined.l0 k y0 y1 y2 y3 y4 y5 y6 y7) (sorrelref02_Joined.l0 (k + 1) y0 y1 y2 y3 y4 y5 y6 y7))
  | 0 => fun _ _ _ _ _ _ _ _ r h => by simp [sorrelref02_Joined.l0] at h
  | k + 1 => by
    have ih0 := sorrelref02_Joined.mono_l k
    · intro y0 y1 y2 y3 y4 y5 y6 y7
      unfold sorrelref02_Joined.l0
      repeat' first
      | (with_reducible exact ih0 _ _ _ _ _ _ _ _)
      | (with_reducible exact sorrelref02_behind.mono _ _ _)
      | (with_reducible exact LeO.refl _)
      | (with_reducible exact LeO.none _)
      | (with_reducible refine LeO.ite ?_ ?_)
      | (with_reducible refine LeO.bind ?_ (fun _ => ?_))
      | exact ih0 _ _ _ _ _ _ _ _
      | exact sorrelref02_behind.mono _ _ _
      | exact LeO.none _
      | refine LeO.ite ?_ ?_
      | refine LeO.bind ?_ (fun _ => ?_)
theorem sorrelref02_Joined.mono : ∀ a0 a1 a2 a3 a4 k, LeO (sorrelref02_Joined.f k a0 a1 a2 a3 a4) (sorrelref02_Joined.f (k + 1) a0 a1 a2 a3 a4) := by
  intro a0 a1 a2 a3 a4 k
  have ih0 := sorrelref02_Joined.mono_l k
  unfold sorrelref02_Joined.f
  repeat' first
      | (with_reducible exact ih0 _ _ _ _ _ _ _ _)
      | (with_reducible exact sorrelref02_behind.mono _ _ _)
      | (with_reducible exact LeO.refl _)
      | (with_reducible exact LeO.none _)
      | (with_reducible refine LeO.ite ?_ ?_)
      | (with_reducible refine LeO.bind ?_ (fun _ => ?_))
      | exact ih0 _ _ _ _ _ _ _ _
      | exact sorrelref02_behind.mono _ _ _
      | exact LeO.none _
      | refine LeO.ite ?_ ?_
      | refine LeO.bind ?_ (fun _ => ?_)
set_option maxHeartbeats 8000000 in
set_option maxRecDepth 100000 in
theorem sorrelref02_Joined.calls (k : Nat) (a0_0 : Int) (a0_1 : Int) (a0_2 : ByteArray) (A0_3 : Option Addr) (c0_3 : Nat) (l0_3 : List Int) (A1 : Option Addr) (c1 : Nat) (l1 : List (List (S45))) (r : List (S45)) (w : World) (hr0_3 : Kd.C (Kd.int .i64) w A0_3 l0_3.length l0_3) (hc0_3 : l0_3.length ≤ c0_3) (hr1 : Kd.C (Kd.slice 45 k45) w A1 l1.length l1) (hc1 : l1.length ≤ c1) (h : sorrelref02_Joined.f k a0_0 a0_1 a0_2 l0_3 l1 = some r) :
    Calls Tryd.prog 79 #[.agg #[.int .i64 a0_0, .int .i64 a0_1, .string a0_2, .slice A0_3 l0_3.length c0_3], .slice A1 l1.length c1] w fun e w' => ∃ v0_ : Value, e = .returned (v0_) ∧ Kd.S k45 45 w' w.heap.size (fun _ => True) v0_ r ∧ Below w.heap.size w w' := by
  have hu45 := Tryd.underlying45
  have HR0_3 := Aside0.mk hr0_3
  have HC0_3 := Aside0.mk hc0_3
  clear hr0_3 hc0_3
  have HR1 := Aside0.mk hr1
  have HC1 := Aside0.mk hc1
  clear hr1 hc1
  have HB := Aside0.mk (Below.refl w.heap.size w)
  have H : (sorrelref02_Joined.l0 k l1 ([] : List (S45)) ([] : List Int) 0 a0_0 a0_1 a0_2 l0_3) = some r := h
  clear h
  have H' := Aside0.mk H
  clear H
  go_enter Tryd.func79, Tryd.ntmps79
  go_wp2_with (first | ((with_reducible refine gate_dst (N := 2) rfl ?_); refine box_event ?hg (N := 2) ?hd (cs := #[.int .i64 a0_0, .int .i64 a0_1, .string a0_2, .slice A0_3 l0_3.length c0_3]) (t := 45) ?hr ?_; (case hd => rfl); (case hg => rfl); (case hr => first | (go_simp; done) | (go_simp; rfl)); intro gb186 hg w3 hbox hb; have n0_ := Aside0.mk (below_step (by repeat (first | (with_reducible first | exact HB.out | apply below_alloc | apply pw_below_drewN | apply below_drew1) | exact HB.out)) hb); have n1_ := Aside0.mk (hbox); have n2_ := Aside0.mk ((by rw [hg]; exact (below_size (by repeat (first | (with_reducible first | exact HB.out | apply below_alloc | apply pw_below_drewN | apply below_drew1) | exact HB.out))) : w.heap.size ≤ gb186)); have n3_ := Aside0.mk ((by rw [hg]; exact (below_size (by repeat (first | (with_reducible first | exact HB.out | apply below_alloc | apply pw_below_drewN | apply below_drew1) | exact HB.out))) : w.heap.size ≤ gb186)); clear HB; have HB := n0_; have BK186 := n1_; have GW186 := n2_; have GE186 := n3_; clear n0_ n1_ n2_ n3_; clear hb hbox hg))
  go_loopg [5, 6, 7] k (fun kq v5 v6 v7 w' => ∃ (x5_1 : List (S45)) (x6_1 : List Int) (x7_1 : Int), v7 = .int .i64 x7_1 ∧ Aside0 (sorrelref02_Joined.l0 kq l1 x5_1 x6_1 x7_1 a0_0 a0_1 a0_2 l0_3 = some r) ∧ Aside0 (kq ≤ k) ∧ Aside0 (Kd.S k45 45 w' w.heap.size (fun k_ => some k_ ≠ (v6 : Value).ownBlock ∧ k_ ≠ gb186) v5 x5_1) ∧ Aside0 (Kd.R (Kd.int .i64) 3 w' w.heap.size (fun _ => True) v6 x6_1) ∧ Aside0 (w'.heap[gb186]? = some (.cells #[.int .i64 a0_0, .int .i64 a0_1, .string a0_2, (.slice A0_3 l0_3.length c0_3)] 45 (0, 0))) ∧ Aside0 (Below w.heap.size w w'))
  case atStart => exact ⟨(([] : List (S45))), (([] : List Int)), (0), (by first | rfl | (simp; done) | (simp [*]; done)), H', ⟨Nat.le_refl _⟩, ⟨by first | exact Kd.S_nil _ _ _ _ _ | exact Kd.N_nil _ _ _ _ _ | exact Kd.V_nil _ _ _ _ _ | exact Kd.Q_nil _ _ _ _ _ | exact Kd.R_nil _ _ _ _ _⟩, ⟨by first | exact Kd.R_nil _ _ _ _ _ | exact Kd.N_nil _ _ _ _ _ | exact Kd.V_nil _ _ _ _ _ | exact Kd.Q_nil _ _ _ _ _ | exact Kd.S_nil _ _ _ _ _⟩, ⟨by (with_reducible repeat (first | refine blk_drewN ?_ _ | refine blk_drew ?_ | refine blk_alloc ?_ _)); exact BK186.out⟩, ⟨by repeat (first | (with_reducible first | exact HB.out | apply below_alloc | apply pw_below_drewN | apply below_drew1 | refine below_set ?_ GE186.out) | exact HB.out)⟩⟩
  case round =>
    clear H'
    try clear c1
    try clear p2
    obtain ⟨x5_1, x6_1, x7_1, rfl, HA, HK1, HO_5, HO_6, BK186, HB⟩ := hrel
    cases gk with
    | zero => exact absurd HA.out (by simp [sorrelref02_Joined.l0])
    | succ k1 =>
      have H := HA.out
      clear HA
      simp only [sorrelref02_Joined.l0] at H
      by_cases c4 : x7_1 < (l1.length : Int)
      · rw [if_pos c4] at H
        have c4b0 : decide (x7_1 < (l1.length : Int)) = true := decide_eq_true c4
        clear c4
        by_cases c5 : 0 ≤ x7_1
        · rw [if_pos c5] at H
          have c5b0 : decide (0 ≤ x7_1) = true := decide_eq_true c5
          clear c5
          replace H := Option.bind_eq_some_iff.mp H
          obtain ⟨t188, A60, H⟩ := H
          replace H : (if x6_1.length < 17592186044416 then (sorrelref02_Joined.l0 k1 l1 t188 (x6_1 ++ [wrap64 ((t188.length : Int) - 1)]) (wrap64 (x7_1 + 1)) a0_0 a0_1 a0_2 l0_3) else (none)) = some r := H
          have A6 := Aside0.mk A60
          clear A60
          by_cases c7 : x6_1.length < 17592186044416
          · rw [if_pos c7] at H
            have LMc7 := Aside0.mk c7
            clear c7
            obtain ⟨y191, hy191⟩ : ∃ y_ : List Int, y_ = (x6_1 ++ [wrap64 ((t188.length : Int) - 1)]) := ⟨_, rfl⟩
            replace H : (sorrelref02_Joined.l0 k1 l1 t188 y191 (wrap64 (x7_1 + 1)) a0_0 a0_1 a0_2 l0_3) = some r := by first | (rw [hy191]; with_reducible exact H) | (have H2_ := (Option.bind_some _ _).symm.trans H; rw [hy191]; with_reducible exact H2_) | (have H2_ := (Option.bind_some _ _).symm.trans H; with_reducible exact H2_) | with_reducible exact H | (rw [hy191]; exact H) | exact H
            have Ny191 := Aside0.mk hy191
            clear hy191
            have H' := Aside0.mk H
            clear H
            have p187 : 0 ≤ (x7_1 : Int) := of_decide_eq_true (by first | (with_reducible assumption) | assumption)
            have q187 : x7_1 < (l1.length : Int) := of_decide_eq_true (by first | (with_reducible assumption) | assumption)
            obtain ⟨ad187, A187_0, c187_0, e187, hx187_0, hl187_0, hi187_0⟩ := at_L4 HR1.out x7_1 p187 q187
            cases e187
            replace hx187_0 := (HB.out.cell (World.block_lt_of_cell? w _ hx187_0)).trans hx187_0
            have HR187_0 := Aside0.mk hi187_0
            have HC187_0 := Aside0.mk hl187_0
            clear hi187_0 hl187_0
            replace p187 := eq_true p187
            replace q187 := eq_true q187
            obtain ⟨Ao8, co8, eo8⟩ := Kd.S_slice HO_5.out
            subst eo8
            go_wp2_with (first | ((with_reducible refine gate_callee (f := 122) rfl ?_); refine goesL_ (some 19) rfl rfl Tryd.func122 (by kernel_rfl) rfl #[.slice Ao8 x5_1.length co8, .slice A187_0 (rd_L4 l1 x7_1).length c187_0] rfl (by (try simp only [List.map_toArray, List.map_cons, List.map_nil]); first | done | rfl | (simp only [List.length_drop, List.length_take]; rfl)) ?_; (with_reducible refine (sorrelref02_behind.calls k1 (fun k_ => (some k_ ≠ (u6 : Value).ownBlock ∧ k_ ≠ gb186)) (.slice Ao8 x5_1.length co8) x5_1 _ _ (rd_L4 l1 x7_1) t188 w _ ?side1 ?side2 ?side3 ?side4 A6.out).mono ?_); (case side1 => repeat (first | (with_reducible first | exact HB.out | apply below_alloc | apply pw_below_drewN | apply below_drew1 | refine below_set ?_ GE186.out) | exact HB.out)); (case side2 => ((with_reducible repeat (first | apply Kd.S_alloc | apply Kd.S_drewN | apply Kd.S_drew)); exact HO_5.out)); (case side3 => exact HR187_0.out); (case side4 => exact HC187_0.out); rintro e w9 ⟨v189, rfl, ho0, hb, hkp⟩; refine ⟨_, rfl, ?_⟩; have n0_ := Aside0.mk (Kd.R_mono (ok' := fun k_ => True) (Kd.R_keptB ((Kd.R_tight2 rfl ((Kd.R_apart' HO_6.out (Kd.S_typed HO_5.out) (by decide))))) hkp (fun k_ hk_ hs_ => (fun hs2_ => (hs2_.1) hk_.1) hs_)) (fun k_ hk_ => trivial)); have n1_ := Aside0.mk (blk_kept (by (with_reducible repeat (first | refine blk_drewN ?_ _ | refine blk_drew ?_ | refine blk_alloc ?_ _)); exact BK186.out) hkp (fun hs_ => (fun hs2_ => (hs2_.2) rfl) hs_)); have n2_ := Aside0.mk (Kd.S_mono (ok' := fun k_ => some k_ ≠ (u6 : Value).ownBlock ∧ k_ ≠ gb186) ho0 (fun k_ hk_ => ⟨Or.elim hk_ (fun hs_ => hs_.1) (fun hn_ => (Kd.fresh' (Kd.R_lt (by (with_reducible repeat (first | apply Kd.R_alloc | apply Kd.R_drewN | apply Kd.R_drew)); exact HO_6.out)) k_ hn_)), Or.elim hk_ (fun hs_ => hs_.2) (fun hn_ => (Kd.freshB (g := gb186) (o := .cells #[.int .i64 a0_0, .int .i64 a0_1, .string a0_2, .slice A0_3 l0_3.length c0_3] 45 (0, 0)) (by (with_reducible repeat (first | refine blk_drewN ?_ _ | refine blk_drew ?_ | refine blk_alloc ?_ _)); exact BK186.out) k_ hn_))⟩)); have n3_ := Aside0.mk (hb); clear HO_6; clear BK186; clear HB; clear HO_5; have HO_6 := n0_; have BK186 := n1_; have HO190 := n2_; have HB := n3_; clear n0_ n1_ n2_ n3_; (try clear hb); (try clear hkp); (try clear ho0); obtain ⟨Ao10, co10, eo10⟩ := Kd.S_slice HO190.out; subst eo10) | ((with_reducible refine gate_builtin (b := .append) (xs := #[.tmp 20, .tmp 24]) rfl ?_); at_builtin; refine Kd.R_append (Kd.int .i64) (w0 := w) w.heap.size rfl (.tmp 20) (.tmp 24) 43 3 (.int .i64 0) 8 rfl Tryd.underlying43 info3 rfl (by decide) (by omega) u6 x6_1 (wrap64 ((t188.length : Int) - 1)) [.int .i64 (wrap64 ((t188.length : Int) - 1))] (fun _ => True) (fun _ => False) rfl rfl ?aP (fun _ hk => hk.elim) ?aF ?aO ?aB ?aS ?aL ?_; (case aP => exact rfl); (case aB => exact (by repeat (first | (with_reducible first | exact HB.out | apply below_alloc | apply pw_below_drewN | apply below_drew1 | refine below_set ?_ GE186.out) | exact HB.out))); (case aF => exact (fun _ _ => trivial)); (case aO => exact (by (with_reducible repeat (first | apply Kd.R_alloc | apply Kd.R_drewN | apply Kd.R_drew)); exact HO_6.out)); (case aS => exact (below_size (by repeat (first | (with_reducible first | exact HB.out | apply below_alloc | apply pw_below_drewN | apply below_drew1 | refine below_set ?_ GE186.out) | exact HB.out)))); (case aL => have := LMc7.out; omega); intro v192 w11 ho hb hg hat; rw [← Ny191.out] at ho; have n0_ := Aside0.mk (blk_grown (g := gb186) (o := .cells #[.int .i64 a0_0, .int .i64 a0_1, .string a0_2, .slice A0_3 l0_3.length c0_3] 45 (0, 0)) (by (with_reducible repeat (first | refine blk_drewN ?_ _ | refine blk_drew ?_ | refine blk_alloc ?_ _)); exact BK186.out) hg (Kd.R_ne HO_6.out BK186.out (by decide))); have n1_ := Aside0.mk (Kd.S_after (ok := (fun k_ => k_ ≠ gb186)) (by (with_reducible repeat (first | apply Kd.S_alloc | apply Kd.S_drewN | apply Kd.S_drew)); exact Kd.S_mono HO190.out (fun _ hk => ⟨hk.2, hk.1⟩)) hg hat); have n2_ := Aside0.mk (hb); have n3_ := Aside0.mk (ho); clear BK186; clear HO190; clear HB; clear HO_6; have BK186 := n0_; have HO190 := n1_; have HB := n2_; have HO193 := n3_; clear n0_ n1_ n2_ n3_; clear ho hb hg hat))
            go_roundg k1
            case measure => have := HK1.out; omega
            case rel => exact ⟨(t188), (y191), (wrap64 (x7_1 + 1)), (by first | rfl | (simp; done) | (simp [*]; done)), H', ⟨by have := HK1.out; omega⟩, ⟨by (with_reducible repeat (first | apply Kd.S_alloc | apply Kd.S_drewN | apply Kd.S_drew)); exact Kd.S_mono HO190.out (fun _ hk => ⟨hk.2, hk.1⟩)⟩, ⟨by (with_reducible repeat (first | apply Kd.R_alloc | apply Kd.R_drewN | apply Kd.R_drew)); exact HO193.out⟩, ⟨by (with_reducible repeat (first | refine blk_drewN ?_ _ | refine blk_drew ?_ | refine blk_alloc ?_ _)); exact BK186.out⟩, ⟨by repeat (first | (with_reducible first | exact HB.out | apply below_alloc | apply pw_below_drewN | apply below_drew1 | refine below_set ?_ GE186.out) | exact HB.out)⟩⟩
          · rw [if_neg c7] at H
            exact absurd H (by simp)
        · rw [if_neg c5] at H
          exact absurd H (by simp)
      · rw [if_neg c4] at H
        have c4b0 : decide (x7_1 < (l1.length : Int)) = false := decide_eq_false c4
        clear c4
        by_cases c12 : x5_1.length < 2513169434916
        · rw [if_pos c12] at H
          have LMc12 := Aside0.mk c12
          clear c12
          obtain ⟨y194, hy194⟩ : ∃ y_ : List (S45), y_ = (x5_1 ++ [(⟨a0_0, a0_1, a0_2, x6_1⟩ : S45)]) := ⟨_, rfl⟩
          replace H : (some y194) = some r := by first | (rw [hy194]; with_reducible exact H) | (have H2_ := (Option.bind_some _ _).symm.trans H; rw [hy194]; with_reducible exact H2_) | (have H2_ := (Option.bind_some _ _).symm.trans H; with_reducible exact H2_) | with_reducible exact H | (rw [hy194]; exact H) | exact H
          have Ny194 := Aside0.mk hy194
          clear hy194
          obtain rfl := Option.some.inj H
          obtain ⟨Ao13, co13, eo13⟩ := Kd.R_slice HO_6.out
          subst eo13
          have hcz14_0 : wr.cell? ⟨gb186, 0, none⟩ = some (.int .i64 a0_0) := (blk_cell BK186.out 0).trans rfl
          have hcz14_1 : wr.cell? ⟨gb186, 1, none⟩ = some (.int .i64 a0_1) := (blk_cell BK186.out 1).trans rfl
          have hcz14_2 : wr.cell? ⟨gb186, 2, none⟩ = some (.string a0_2) := (blk_cell BK186.out 2).trans rfl
          have hcz14_3 : wr.cell? ⟨gb186, 3, none⟩ = some (.slice A0_3 l0_3.length c0_3) := (blk_cell BK186.out 3).trans rfl
          have hfz14_0 := blk_frozen BK186.out 0
          have hfz14_1 := blk_frozen BK186.out 1
          have hfz14_2 := blk_frozen BK186.out 2
          have hfz14_3 := blk_frozen BK186.out 3
          go_wp2_with (first | ((with_reducible refine gate_store (t := 43) (p := 27) rfl ?_); refine store_event (t := 43) (p := 27) (v := ?vo_w15) (w1 := (wr.setCell ⟨gb186, 3, none⟩ (.slice Ao13 x6_1.length co13))) ?hg ?ho ?hn ?hr ?_; (case ho => rfl); (case hg => rfl); (case hn => rfl); (case hr => first | (go_simp; done) | (go_simp; rfl)); intro w15 hw; have n0_ : Aside0 (Kd.S k45 45 w15 w.heap.size (fun k_ => some k_ ≠ (.slice Ao13 x6_1.length co13 : Value).ownBlock ∧ k_ ≠ gb186) u5 x5_1) := ⟨(by rw [hw]; exact (by (with_reducible repeat (first | apply Kd.S_alloc | apply Kd.S_drewN | apply Kd.S_drew)); exact Kd.S_mono (Kd.S_far (p := ⟨gb186, 3, none⟩) (Kd.S_mono HO_5.out (fun k_ hk => (⟨hk, hk.2⟩ : _ ∧ k_ ≠ gb186))) (fun _ hk => hk.2) (.slice Ao13 x6_1.length co13)) (fun _ hk => ⟨hk.1.1, hk.1.2⟩)))⟩; have n1_ : Aside0 (Kd.R (Kd.int .i64) 3 w15 w.heap.size (fun _ => True) (.slice Ao13 x6_1.length co13) x6_1) := ⟨(by rw [hw]; exact (by (with_reducible repeat (first | apply Kd.R_alloc | apply Kd.R_drewN | apply Kd.R_drew)); exact Kd.R_mono (Kd.R_far (p := ⟨gb186, 3, none⟩) (Kd.R_types HO_6.out BK186.out (by decide)) (fun _ hk => hk.2) (.slice Ao13 x6_1.length co13)) (fun _ hk => trivial)))⟩; have n2_ : Aside0 (w15.heap[gb186]? = some (.cells #[.int .i64 a0_0, .int .i64 a0_1, .string a0_2, .slice Ao13 x6_1.length co13] 45 (0, 0))) := ⟨(by rw [hw]; exact (by (with_reducible repeat (first | refine blk_drewN ?_ _ | refine blk_drew ?_ | refine blk_alloc ?_ _)); refine blk_put (cs := #[.int .i64 a0_0, .int .i64 a0_1, .string a0_2, .slice A0_3 l0_3.length c0_3]) ?_ 3 _ rfl; (with_reducible repeat (first | refine blk_drewN ?_ _ | refine blk_drew ?_ | refine blk_alloc ?_ _)); exact BK186.out))⟩; have n3_ : Aside0 (Below w.heap.size w w15) := ⟨(by rw [hw]; exact (by repeat (first | (with_reducible first | exact HB.out | apply below_alloc | apply pw_below_drewN | apply below_drew1 | refine below_set ?_ GE186.out) | exact HB.out)))⟩; clear hw; clear HO_5; clear HO_6; clear BK186; clear HB; have HO_5 := n0_; have HO_6 := n1_; have BK186 := n2_; have HB := n3_; clear n0_ n1_ n2_ n3_; have hcz16_0 : w15.cell? ⟨gb186, 0, none⟩ = some (.int .i64 a0_0) := (blk_cell BK186.out 0).trans rfl; have hcz16_1 : w15.cell? ⟨gb186, 1, none⟩ = some (.int .i64 a0_1) := (blk_cell BK186.out 1).trans rfl; have hcz16_2 : w15.cell? ⟨gb186, 2, none⟩ = some (.string a0_2) := (blk_cell BK186.out 2).trans rfl; have hcz16_3 : w15.cell? ⟨gb186, 3, none⟩ = some (.slice Ao13 x6_1.length co13) := (blk_cell BK186.out 3).trans rfl; have hfz16_0 := blk_frozen BK186.out 0; have hfz16_1 := blk_frozen BK186.out 1; have hfz16_2 := blk_frozen BK186.out 2; have hfz16_3 := blk_frozen BK186.out 3) | ((with_reducible refine gate_builtin (b := .append) (xs := #[.tmp 28, .tmp 30]) rfl ?_); at_builtin; refine Kd.S_append k45 (w0 := w) w.heap.size rfl (.tmp 28) (.tmp 30) 30 45 (.agg #[(.int .i64 0), (.int .i64 0), (.string ⟨#[]⟩), (.slice none 0 0)]) 56 rfl Tryd.underlying30 info45 rfl (by decide) (by omega) u5 x5_1 (⟨a0_0, a0_1, a0_2, x6_1⟩ : S45) [.int .i64 a0_0, .int .i64 a0_1, .string a0_2, .slice Ao13 x6_1.length co13] (fun k_ => k_ ≠ gb186) (fun k_ => some k_ = (.slice Ao13 x6_1.length co13 : Value).ownBlock) rfl rfl ?aP (fun k_ hk_ => ((Kd.R_mono (ok' := fun k_ => ((fun k_ => k_ ≠ gb186)) k_ ∧ some k_ ≠ (u5 : Value).ownBlock) (Kd.R_types (Kd.R_apart' (HO_6.out) (Kd.S_typed HO_5.out) (by decide)) BK186.out (by decide)) (fun k_ hk => ⟨hk.2, hk.1.2⟩))).1 k_ hk_.symm) ?aF ?aO ?aB ?aS ?aL ?_; (case aP => exact k45_mkM _ _ _ (⟨a0_0, a0_1, a0_2, x6_1⟩ : S45) (Kd.R_mono (Kd.R_tight rfl (Kd.R_mono (ok' := fun k_ => ((fun k_ => k_ ≠ gb186)) k_ ∧ some k_ ≠ (u5 : Value).ownBlock) (Kd.R_types (Kd.R_apart' (HO_6.out) (Kd.S_typed HO_5.out) (by decide)) BK186.out (by decide)) (fun k_ hk => ⟨hk.2, hk.1.2⟩))) (fun _ h_ => h_))); (case aB => exact (by repeat (first | (with_reducible first | exact HB.out | apply below_alloc | apply pw_below_drewN | apply below_drew1 | refine below_set ?_ GE186.out) | exact HB.out))); (case aF => exact (fun k_ hk => Kd.freshB (g := gb186) (o := .cells #[.int .i64 a0_0, .int .i64 a0_1, .string a0_2, .slice Ao13 x6_1.length co13] 45 (0, 0)) (by (with_reducible repeat (first | refine blk_drewN ?_ _ | refine blk_drew ?_ | refine blk_alloc ?_ _)); exact BK186.out) k_ hk)); (case aO => exact (by (with_reducible repeat (first | apply Kd.S_alloc | apply Kd.S_drewN | apply Kd.S_drew)); exact Kd.S_mono HO_5.out (fun k_ hk => ⟨hk.2, fun e_ => hk.1 e_⟩))); (case aS => exact (below_size (by repeat (first | (with_reducible first | exact HB.out | apply below_alloc | apply pw_below_drewN | apply below_drew1 | refine below_set ?_ GE186.out) | exact HB.out)))); (case aL => have := LMc12.out; omega); intro v195 w17 ho hb hg hat; rw [← Ny194.out] at ho; have n0_ := Aside0.mk (blk_grown (g := gb186) (o := .cells #[.int .i64 a0_0, .int .i64 a0_1, .string a0_2, .slice Ao13 x6_1.length co13] 45 (0, 0)) (by (with_reducible repeat (first | refine blk_drewN ?_ _ | refine blk_drew ?_ | refine blk_alloc ?_ _)); exact BK186.out) hg (Kd.S_away HO_5.out (fun _ hk => hk.2))); have n1_ := Aside0.mk (hb); have n2_ := Aside0.mk (ho); clear BK186; clear HB; clear HO_5; clear HO_6; have BK186 := n0_; have HB := n1_; have HO196 := n2_; clear n0_ n1_ n2_; clear ho hb hg hat))
          go_ret
          exact ⟨_, by first | rfl | (simp [errW_none, errW_some] <;> rfl) | (simp [*, errW_none, errW_some] <;> rfl), by (with_reducible repeat (first | apply Kd.S_alloc | apply Kd.S_drewN | apply Kd.S_drew)); exact Kd.S_mono HO196.out (fun _ hk => trivial), by repeat (first | (with_reducible first | exact HB.out | apply below_alloc | apply pw_below_drewN | apply below_drew1 | refine below_set ?_ GE186.out) | exact HB.out)⟩
        · rw [if_neg c12] at H
          exact absurd H (by simp)

end Go.Proofs.YtacjjfoelhckcaaDoor.PExprMakes
