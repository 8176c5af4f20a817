/- Contracts of functions, printed by the session's own changed copy of the print generator (see its notes); the plain functions tell what the calls answer. -/
import Derived.Test.YtacjjfoelhckcaaDoorPExprPlaysx0
import Derived.Test.YtacjjfoelhckcaaDoorPExprPlaysx2
import Derived.Test.YtacjjfoelhckcaaDoorPExprPlaysx5
namespace Go.Proofs.YtacjjfoelhckcaaDoor.PExprPlays
open Go.RowKit Go.Proofs.YtacjjfoelhckcaaDoorW.PrintWords Go.Proofs.YtacjjfoelhckcaaDoorW.PrintLast Go.Proofs.YtacjjfoelhckcaaDoorW.PrintMore
attribute [local go_sem] max2_int min2_int max_two min_two max_three min_three max_four min_four   -- for this text's walks alone
set_option linter.unusedVariables false
set_option linter.unusedSimpArgs false
/-! ### expr_Put: function 35 -/
mutual
def expr_Put.j0 : Nat → List (S45) → Int → List (S45) → Bool → Option ((List (S45)) × Int)
  | 0, _, _, _, _ => none
  | k + 1, x0, x1, x2, x16 => if x16 = true then (some (([] : List (S45)), 1)) else (if x1 < 0 then (some (([] : List (S45)), 2)) else (if x1 ≥ (x0.length : Int) then (some (([] : List (S45)), 2)) else ((expr_begin.f k x0 x1).bind fun t191 => (if (wrap64 ((x0.length : Int) + (wrap64 ((x2.length : Int) - (wrap64 ((wrap64 (x1 + 1)) - t191)))))) > 64 then (some (([] : List (S45)), 10)) else (if 0 ≤ t191 then (if t191 ≤ (x0.length : Int) then ((expr_join.f k ([] : List (S45)) (x0.take (t191 : Int).toNat) 0).bind fun t196 => ((expr_join.f k t196 x2 t191).bind fun t199 => (if 0 ≤ (wrap64 (x1 + 1)) then (if (wrap64 (x1 + 1)) ≤ (x0.length : Int) then ((some (x0.drop ((wrap64 (x1 + 1)) : Int).toNat : List (S45))).bind fun y202 => (expr_Put.l0 k x1 (wrap64 ((x2.length : Int) - (wrap64 ((wrap64 (x1 + 1)) - t191)))) t199 y202 (y202.length : Int) 0)) else (none)) else (none)))) else (none)) else (none))))))
def expr_Put.l0 : Nat → Int → Int → List (S45) → List (S45) → Int → Int → Option ((List (S45)) × Int)
  | 0, _, _, _, _, _, _ => none
  | k + 1, x1, x9, x10, x60, x61, x62 => if x62 < x61 then (if 0 ≤ x62 then (if x62 < (x60.length : Int) then ((slices_Clone_int.f ((rd_T45 x60 x62).f3)).bind fun t208 => (expr_Put.l1 k x1 x9 x10 t208 x60 x61 x62 (t208.length : Int) 0 ((rd_T45 x60 x62).f0) ((rd_T45 x60 x62).f1) ((rd_T45 x60 x62).f2) ((rd_T45 x60 x62).f3))) else (none)) else (none)) else (some (x10, 0))
def expr_Put.l1 : Nat → Int → Int → List (S45) → List Int → List (S45) → Int → Int → Int → Int → Int → Int → ByteArray → List Int → Option ((List (S45)) × Int)
  | 0, _, _, _, _, _, _, _, _, _, _, _, _, _ => none
  | k + 1, x1, x9, x10, x13, x60, x61, x62, x70, x71, x208000, x208001, x208002, x208003 => if x71 < x70 then (if 0 ≤ x71 then (if x71 < (x13.length : Int) then (if (rd x13 x71) ≥ x1 then (expr_Put.l1 k x1 x9 x10 (x13.set (x71 : Int).toNat (wrap64 ((rd x13 x71) + x9))) x60 x61 x62 x70 (wrap64 (x71 + 1)) x208000 x208001 x208002 x208003) else (expr_Put.l1 k x1 x9 x10 x13 x60 x61 x62 x70 (wrap64 (x71 + 1)) x208000 x208001 x208002 x208003)) else (none)) else (none)) else (if x10.length < 2513169434916 then (expr_Put.l0 k x1 x9 (x10 ++ [(⟨x208000, x208001, x208002, x13⟩ : S45)]) x60 x61 (wrap64 (x62 + 1))) else (none))
end
def expr_Put.f (k : Nat) (l0 : List (S45)) (a1 : Int) (l2 : List (S45)) : Option ((List (S45)) × Int) := (expr_Check.f k l0).bind fun t189 => (if t189 = 0 then ((expr_Check.f k l2).bind fun t190 => (expr_Put.j0 k l0 a1 l2 (t190 != 0))) else (expr_Put.j0 k l0 a1 l2 true))
theorem expr_Put.mono_l : ∀ k, (∀ y0 y1 y2 y3, LeO (expr_Put.j0 k y0 y1 y2 y3) (expr_Put.j0 (k + 1) y0 y1 y2 y3)) ∧ (∀ y0 y1 y2 y3 y4 y5, LeO (expr_Put.l0 k y0 y1 y2 y3 y4 y5) (expr_Put.l0 (k + 1) y0 y1 y2 y3 y4 y5)) ∧ (∀ y0 y1 y2 y3 y4 y5 y6 y7 y8 y9 y10 y11 y12, LeO (expr_Put.l1 k y0 y1 y2 y3 y4 y5 y6 y7 y8 y9 y10 y11 y12) (expr_Put.l1 (k + 1) y0 y1 y2 y3 y4 y5 y6 y7 y8 y9 y10 y11 y12))
  | 0 => ⟨fun _ _ _ _ r h => by simp [expr_Put.j0] at h, fun _ _ _ _ _ _ r h => by simp [expr_Put.l0] at h, fun _ _ _ _ _ _ _ _ _ _ _ _ _ r h => by simp [expr_Put.l1] at h⟩
  | k + 1 => by
    obtain ⟨ih0, ih1, ih2⟩ := expr_Put.mono_l k
    refine ⟨?_, ?_, ?_⟩
    · intro y0 y1 y2 y3
      unfold expr_Put.j0
      repeat' first
      | (with_reducible exact ih0 _ _ _ _)
      | (with_reducible exact ih1 _ _ _ _ _ _)
      | (with_reducible exact ih2 _ _ _ _ _ _ _ _ _ _ _ _ _)
      | (with_reducible exact expr_Check.mono _ _)
      | (with_reducible exact expr_begin.mono _ _ _)
      | (with_reducible exact expr_join.mono _ _ _ _)
      | (with_reducible exact LeO.refl _)
      | (with_reducible exact LeO.none _)
      | (with_reducible refine LeO.ite ?_ ?_)
      | (with_reducible refine LeO.bind ?_ (fun _ => ?_))
      | exact ih0 _ _ _ _
      | exact ih1 _ _ _ _ _ _
      | exact ih2 _ _ _ _ _ _ _ _ _ _ _ _ _
      | exact expr_Check.mono _ _
      | exact expr_begin.mono _ _ _
      | exact expr_join.mono _ _ _ _
      | exact LeO.none _
      | refine LeO.ite ?_ ?_
      | refine LeO.bind ?_ (fun _ => ?_)
    · intro y0 y1 y2 y3 y4 y5
      unfold expr_Put.l0
      repeat' first
      | (with_reducible exact ih0 _ _ _ _)
      | (with_reducible exact ih1 _ _ _ _ _ _)
      | (with_reducible exact ih2 _ _ _ _ _ _ _ _ _ _ _ _ _)
      | (with_reducible exact expr_Check.mono _ _)
      | (with_reducible exact expr_begin.mono _ _ _)
      | (with_reducible exact expr_join.mono _ _ _ _)
      | (with_reducible exact LeO.refl _)
      | (with_reducible exact LeO.none _)
      | (with_reducible refine LeO.ite ?_ ?_)
      | (with_reducible refine LeO.bind ?_ (fun _ => ?_))
      | exact ih0 _ _ _ _
      | exact ih1 _ _ _ _ _ _
      | exact ih2 _ _ _ _ _ _ _ _ _ _ _ _ _
      | exact expr_Check.mono _ _
      | exact expr_begin.mono _ _ _
      | exact expr_join.mono _ _ _ _
      | exact LeO.none _
      | refine LeO.ite ?_ ?_
      | refine LeO.bind ?_ (fun _ => ?_)
    intro y0 y1 y2 y3 y4 y5 y6 y7 y8 y9 y10 y11 y12
    unfold expr_Put.l1
    repeat' first
    | (with_reducible exact ih0 _ _ _ _)
    | (with_reducible exact ih1 _ _ _ _ _ _)
    | (with_reducible exact ih2 _ _ _ _ _ _ _ _ _ _ _ _ _)
    | (with_reducible exact expr_Check.mono _ _)
    | (with_reducible exact expr_begin.mono _ _ _)
    | (with_reducible exact expr_join.mono _ _ _ _)
    | (with_reducible exact LeO.refl _)
    | (with_reducible exact LeO.none _)
    | (with_reducible refine LeO.ite ?_ ?_)
    | (with_reducible refine LeO.bind ?_ (fun _ => ?_))
    | exact ih0 _ _ _ _
    | exact ih1 _ _ _ _ _ _
    | exact ih2 _ _ _ _ _ _ _ _ _ _ _ _ _
    | exact expr_Check.mono _ _
    | exact expr_begin.mono _ _ _
    | exact expr_join.mono _ _ _ _
    | exact LeO.none _
    | refine LeO.ite ?_ ?_
    | refine LeO.bind ?_ (fun _ => ?_)
theorem expr_Put.mono : ∀ a0 a1 a2 k, LeO (expr_Put.f k a0 a1 a2) (expr_Put.f (k + 1) a0 a1 a2) := by
  intro a0 a1 a2 k
  obtain ⟨ih0, ih1, ih2⟩ := expr_Put.mono_l k
  unfold expr_Put.f
  repeat' first
      | (with_reducible exact ih0 _ _ _ _)
      | (with_reducible exact ih1 _ _ _ _ _ _)
      | (with_reducible exact ih2 _ _ _ _ _ _ _ _ _ _ _ _ _)
      | (with_reducible exact expr_Check.mono _ _)
      | (with_reducible exact expr_begin.mono _ _ _)
      | (with_reducible exact expr_join.mono _ _ _ _)
      | (with_reducible exact LeO.refl _)
      | (with_reducible exact LeO.none _)
      | (with_reducible refine LeO.ite ?_ ?_)
      | (with_reducible refine LeO.bind ?_ (fun _ => ?_))
      | exact ih0 _ _ _ _
      | exact ih1 _ _ _ _ _ _
      | exact ih2 _ _ _ _ _ _ _ _ _ _ _ _ _
      | exact expr_Check.mono _ _
      | exact expr_begin.mono _ _ _
      | exact expr_join.mono _ _ _ _
      | exact LeO.none _
      | refine LeO.ite ?_ ?_
      | refine LeO.bind ?_ (fun _ => ?_)
set_option maxHeartbeats 8000000 in
set_option maxRecDepth 100000 in
theorem expr_Put.calls (k : Nat) (A0 : Option Addr) (c0 : Nat) (l0 : List (S45)) (a1 : Int) (A2 : Option Addr) (c2 : Nat) (l2 : List (S45)) (r1 : List (S45)) (r2 : Int) (w : World) (hr0 : Kd.C k45 w A0 l0.length l0) (hc0 : l0.length ≤ c0) (hr2 : Kd.C k45 w A2 l2.length l2) (hc2 : l2.length ≤ c2) (hG : GL w) (h : expr_Put.f k l0 a1 l2 = some (r1, r2)) :
    Calls Tryd.prog 35 #[.slice A0 l0.length c0, .int .i64 a1, .slice A2 l2.length c2] w fun e w' => ∃ v0_ : Value, e = .returned (.tuple #[v0_, .int .i64 r2]) ∧ Kd.S k45 45 w' w.heap.size (fun _ => True) v0_ r1 ∧ Below w.heap.size w w' := by
  have hu45 := Tryd.underlying45
  have HG := am hG
  clear hG
  have HR0 := am hr0
  have HC0 := am hc0
  clear hr0 hc0
  have HR2 := am hr2
  have HC2 := am hc2
  clear hr2 hc2
  have HB := am (Below.refl w.heap.size w)
  have H : ((expr_Check.f k l0).bind fun t189 => (if t189 = 0 then ((expr_Check.f k l2).bind fun t190 => (expr_Put.j0 k l0 a1 l2 (t190 != 0))) else (expr_Put.j0 k l0 a1 l2 true))) = some (r1, r2) := h
  clear h
  have HC4 := am H
  clear H
  go_enter Tryd.func35, Tryd.ntmps35
  go_upto_region 1 with (fail)
  go_cut [16] (fun v16 wc => ∃ (kq : Nat) (x16_3 : Bool), v16 = .bool x16_3 ∧ Aside0 (expr_Put.j0 kq l0 a1 l2 x16_3 = some (r1, r2)) ∧ Aside0 (kq ≤ k) ∧ Aside0 (Below w.heap.size w wc))
  case first =>
    have H := HC4.out
    clear HC4
    replace H := Option.bind_eq_some_iff.mp H
    obtain ⟨t189, A50, H⟩ := H
    replace H : (if t189 = 0 then ((expr_Check.f k l2).bind fun t190 => (expr_Put.j0 k l0 a1 l2 (t190 != 0))) else (expr_Put.j0 k l0 a1 l2 true)) = some (r1, r2) := H
    have A5 := am A50
    clear A50
    by_cases c6 : t189 = 0
    rotate_left
    · rw [if_neg c6] at H
      have c6b0 : (t189 == 0) = false := beq_eq_false_iff_ne.mpr c6
      have c6b1 : (t189 != 0) = true := bne_iff_ne.mpr c6
      (first | rw [c6b0] | (simp only [i64_w, i32_w]; rw [c6b0]) | skip)
      have H' := am H
      clear H
      go_wp2_with (first | ((with_reducible refine gate_callee (f := 51) rfl ?_); refine goesL_ (some 18) rfl rfl Tryd.func51 (by kernel_rfl) rfl #[.slice A0 l0.length c0] rfl (by (try simp only [List.map_toArray, List.map_cons, List.map_nil]); first | done | rfl | (simp only [List.length_drop, List.length_take]; rfl)) ?_; (with_reducible refine (expr_Check.calls k _ _ l0 t189 _ ?side1 ?side2 ?side3 A5.out).mono ?_); (case side1 => repeat (first | exact (Kd.C_below HR0.out HB.out) | (with_reducible refine Kd.C_alloc ?_ _) | (with_reducible refine Kd.C_drewN ?_ _) | (with_reducible refine Kd.C_drew ?_))); (case side2 => exact HC0.out); (case side3 => first | exact GL.below HG.out (by repeat (first | (with_reducible first | exact HB.out | apply below_alloc | apply pw_below_drewN | apply below_drew1) | exact HB.out)) | exact HG.out); rintro e w10 ⟨rfl, hb⟩; refine ⟨_, rfl, ?_⟩; have n0_ := am (below_step (by repeat (first | (with_reducible first | exact HB.out | apply below_alloc | apply pw_below_drewN | apply below_drew1) | exact HB.out)) hb); clear HB; have HB := n0_; clear n0_; (try clear hb); (try clear hb2); (try clear hk); (try clear hi)))
      go_meet
      case rel => exact ⟨_, (true), (by first | rfl | (simp; done) | (simp [*]; done)), H', ⟨by first | omega | exact Nat.le_refl _⟩, ⟨by repeat (first | (with_reducible first | exact HB.out | apply below_alloc | apply pw_below_drewN | apply below_drew1) | exact HB.out)⟩⟩
    rw [if_pos c6] at H
    have c6b0 : (t189 == 0) = true := beq_iff_eq.mpr c6
    have c6b1 : (t189 != 0) = false := bne_eq_false_iff_eq.mpr c6
    clear c6
    (first | rw [c6b0] | (simp only [i64_w, i32_w]; rw [c6b0]) | skip)
    replace H := Option.bind_eq_some_iff.mp H
    obtain ⟨t190, A70, H⟩ := H
    replace H : (expr_Put.j0 k l0 a1 l2 (t190 != 0)) = some (r1, r2) := H
    have A7 := am A70
    clear A70
    have H' := am H
    clear H
    go_wp2_with (first | ((with_reducible refine gate_callee (f := 51) rfl ?_); refine goesL_ (some 18) rfl rfl Tryd.func51 (by kernel_rfl) rfl #[.slice A0 l0.length c0] rfl (by (try simp only [List.map_toArray, List.map_cons, List.map_nil]); first | done | rfl | (simp only [List.length_drop, List.length_take]; rfl)) ?_; (with_reducible refine (expr_Check.calls k _ _ l0 t189 _ ?side1 ?side2 ?side3 A5.out).mono ?_); (case side1 => repeat (first | exact (Kd.C_below HR0.out HB.out) | (with_reducible refine Kd.C_alloc ?_ _) | (with_reducible refine Kd.C_drewN ?_ _) | (with_reducible refine Kd.C_drew ?_))); (case side2 => exact HC0.out); (case side3 => first | exact GL.below HG.out (by repeat (first | (with_reducible first | exact HB.out | apply below_alloc | apply pw_below_drewN | apply below_drew1) | exact HB.out)) | exact HG.out); rintro e w8 ⟨rfl, hb⟩; refine ⟨_, rfl, ?_⟩; have n0_ := am (below_step (by repeat (first | (with_reducible first | exact HB.out | apply below_alloc | apply pw_below_drewN | apply below_drew1) | exact HB.out)) hb); clear HB; have HB := n0_; clear n0_; (try clear hb); (try clear hb2); (try clear hk); (try clear hi)) | (go_at_call 51; (with_reducible refine (expr_Check.calls k _ _ l2 t190 _ ?side1 ?side2 ?side3 A7.out).mono ?_); (case side1 => repeat (first | exact (Kd.C_below HR2.out HB.out) | (with_reducible refine Kd.C_alloc ?_ _) | (with_reducible refine Kd.C_drewN ?_ _) | (with_reducible refine Kd.C_drew ?_))); (case side2 => exact HC2.out); (case side3 => first | exact GL.below HG.out (by repeat (first | (with_reducible first | exact HB.out | apply below_alloc | apply pw_below_drewN | apply below_drew1) | exact HB.out)) | exact HG.out); rintro e w9 ⟨rfl, hb⟩; have n0_ := am (below_step (by repeat (first | (with_reducible first | exact HB.out | apply below_alloc | apply pw_below_drewN | apply below_drew1) | exact HB.out)) hb); clear HB; have HB := n0_; clear n0_; (try clear hb); (try clear hb2); (try clear hk); (try clear hi)))
    go_meet
    case rel => exact ⟨_, ((t190 != 0)), (by first | rfl | (simp; done) | (simp [*]; done)), H', ⟨by first | omega | exact Nat.le_refl _⟩, ⟨by repeat (first | (with_reducible first | exact HB.out | apply below_alloc | apply pw_below_drewN | apply below_drew1) | exact HB.out)⟩⟩
  case rest =>
    clear HC4
    try clear c2
    try clear p2
    try clear c3
    try clear c5
    try clear c6
    try clear c6b0
    try clear c6b1
    obtain ⟨kq, x16_3, rfl, HA, HJ3, HB⟩ := hcut
    cases kq with
    | zero => exact absurd HA.out (by simp [expr_Put.j0])
    | succ kj3 =>
      have H := HA.out
      clear HA
      simp only [expr_Put.j0] at H
      by_cases c11 : x16_3 = true
      · subst c11
        have H1 : (some (([] : List (S45)), 1)) = some (r1, r2) := by rw [if_pos rfl] at H; exact H
        clear H
        have H := H1
        clear H1
        simp only [Option.some.injEq, Prod.mk.injEq] at H
        obtain ⟨rfl, rfl⟩ := H
        go_wp2
        go_ret2
        exact ⟨_, by first | rfl | (simp [errW_none, errW_some] <;> rfl) | (simp [*, errW_none, errW_some] <;> rfl), by first | exact Kd.S_nil _ _ _ _ _ | exact Kd.N_nil _ _ _ _ _ | exact Kd.V_nil _ _ _ _ _ | exact Kd.Q_nil _ _ _ _ _ | exact Kd.R_nil _ _ _ _ _, by repeat (first | (with_reducible first | exact HB.out | apply below_alloc | apply pw_below_drewN | apply below_drew1) | exact HB.out)⟩
      replace c11 := Bool.eq_false_iff.mpr c11
      subst c11
      have H1 : (if a1 < 0 then (some (([] : List (S45)), 2)) else (if a1 ≥ (l0.length : Int) then (some (([] : List (S45)), 2)) else ((expr_begin.f kj3 l0 a1).bind fun t191 => (if (wrap64 ((l0.length : Int) + (wrap64 ((l2.length : Int) - (wrap64 ((wrap64 (a1 + 1)) - t191)))))) > 64 then (some (([] : List (S45)), 10)) else (if 0 ≤ t191 then (if t191 ≤ (l0.length : Int) then ((expr_join.f kj3 ([] : List (S45)) (l0.take (t191 : Int).toNat) 0).bind fun t196 => ((expr_join.f kj3 t196 l2 t191).bind fun t199 => (if 0 ≤ (wrap64 (a1 + 1)) then (if (wrap64 (a1 + 1)) ≤ (l0.length : Int) then ((some (l0.drop ((wrap64 (a1 + 1)) : Int).toNat : List (S45))).bind fun y202 => (expr_Put.l0 kj3 a1 (wrap64 ((l2.length : Int) - (wrap64 ((wrap64 (a1 + 1)) - t191)))) t199 y202 (y202.length : Int) 0)) else (none)) else (none)))) else (none)) else (none)))))) = some (r1, r2) := by rw [if_neg (show ¬ (false = true) by decide)] at H; exact H
      clear H
      have H := H1
      clear H1
      by_cases c12 : a1 < 0
      · rw [if_pos c12] at H
        have c12b0 : decide (a1 < 0) = true := decide_eq_true c12
        clear c12
        simp only [Option.some.injEq, Prod.mk.injEq] at H
        obtain ⟨rfl, rfl⟩ := H
        go_wp2
        go_ret2
        exact ⟨_, by first | rfl | (simp [errW_none, errW_some] <;> rfl) | (simp [*, errW_none, errW_some] <;> rfl), by first | exact Kd.S_nil _ _ _ _ _ | exact Kd.N_nil _ _ _ _ _ | exact Kd.V_nil _ _ _ _ _ | exact Kd.Q_nil _ _ _ _ _ | exact Kd.R_nil _ _ _ _ _, by repeat (first | (with_reducible first | exact HB.out | apply below_alloc | apply pw_below_drewN | apply below_drew1) | exact HB.out)⟩
      rw [if_neg c12] at H
      have c12b0 : decide (a1 < 0) = false := decide_eq_false c12
      clear c12
      by_cases c13 : a1 ≥ (l0.length : Int)
      · rw [if_pos c13] at H
        have c13b0 : decide ((l0.length : Int) ≤ a1) = true := decide_eq_true c13
        clear c13
        simp only [Option.some.injEq, Prod.mk.injEq] at H
        obtain ⟨rfl, rfl⟩ := H
        go_wp2
        go_ret2
        exact ⟨_, by first | rfl | (simp [errW_none, errW_some] <;> rfl) | (simp [*, errW_none, errW_some] <;> rfl), by first | exact Kd.S_nil _ _ _ _ _ | exact Kd.N_nil _ _ _ _ _ | exact Kd.V_nil _ _ _ _ _ | exact Kd.Q_nil _ _ _ _ _ | exact Kd.R_nil _ _ _ _ _, by repeat (first | (with_reducible first | exact HB.out | apply below_alloc | apply pw_below_drewN | apply below_drew1) | exact HB.out)⟩
      rw [if_neg c13] at H
      have c13b0 : decide ((l0.length : Int) ≤ a1) = false := decide_eq_false c13
      clear c13
      replace H := Option.bind_eq_some_iff.mp H
      obtain ⟨t191, A140, H⟩ := H
      replace H : (if (wrap64 ((l0.length : Int) + (wrap64 ((l2.length : Int) - (wrap64 ((wrap64 (a1 + 1)) - t191)))))) > 64 then (some (([] : List (S45)), 10)) else (if 0 ≤ t191 then (if t191 ≤ (l0.length : Int) then ((expr_join.f kj3 ([] : List (S45)) (l0.take (t191 : Int).toNat) 0).bind fun t196 => ((expr_join.f kj3 t196 l2 t191).bind fun t199 => (if 0 ≤ (wrap64 (a1 + 1)) then (if (wrap64 (a1 + 1)) ≤ (l0.length : Int) then ((some (l0.drop ((wrap64 (a1 + 1)) : Int).toNat : List (S45))).bind fun y202 => (expr_Put.l0 kj3 a1 (wrap64 ((l2.length : Int) - (wrap64 ((wrap64 (a1 + 1)) - t191)))) t199 y202 (y202.length : Int) 0)) else (none)) else (none)))) else (none)) else (none))) = some (r1, r2) := H
      have A14 := am A140
      clear A140
      by_cases c15 : (wrap64 ((l0.length : Int) + (wrap64 ((l2.length : Int) - (wrap64 ((wrap64 (a1 + 1)) - t191)))))) > 64
      · rw [if_pos c15] at H
        have c15b0 : decide (64 < (wrap64 ((l0.length : Int) + (wrap64 ((l2.length : Int) - (wrap64 ((wrap64 (a1 + 1)) - t191))))))) = true := decide_eq_true c15
        clear c15
        simp only [Option.some.injEq, Prod.mk.injEq] at H
        obtain ⟨rfl, rfl⟩ := H
        go_wp2_with (first | ((with_reducible refine gate_callee (f := 89) rfl ?_); refine goesL_ (some 36) rfl rfl Tryd.func89 (by kernel_rfl) rfl #[.slice A0 l0.length c0, .int .i64 a1] rfl (by (try simp only [List.map_toArray, List.map_cons, List.map_nil]); first | done | rfl | (simp only [List.length_drop, List.length_take]; rfl)) ?_; (with_reducible refine (expr_begin.calls kj3 _ _ l0 a1 t191 _ ?side1 ?side2 A14.out).mono ?_); (case side1 => repeat (first | exact (Kd.C_below HR0.out HB.out) | (with_reducible refine Kd.C_alloc ?_ _) | (with_reducible refine Kd.C_drewN ?_ _) | (with_reducible refine Kd.C_drew ?_))); (case side2 => exact HC0.out); rintro e w' ⟨rfl, ⟨nd, rfl⟩⟩; refine ⟨_, rfl, ?_⟩))
        go_ret2
        exact ⟨_, by first | rfl | (simp [errW_none, errW_some] <;> rfl) | (simp [*, errW_none, errW_some] <;> rfl), by first | exact Kd.S_nil _ _ _ _ _ | exact Kd.N_nil _ _ _ _ _ | exact Kd.V_nil _ _ _ _ _ | exact Kd.Q_nil _ _ _ _ _ | exact Kd.R_nil _ _ _ _ _, by repeat (first | (with_reducible first | exact HB.out | apply below_alloc | apply pw_below_drewN | apply below_drew1) | exact HB.out)⟩
      rw [if_neg c15] at H
      have c15b0 : decide (64 < (wrap64 ((l0.length : Int) + (wrap64 ((l2.length : Int) - (wrap64 ((wrap64 (a1 + 1)) - t191))))))) = false := decide_eq_false c15
      clear c15
      by_cases c16 : 0 ≤ t191
      rotate_left
      · rw [if_neg c16] at H
        exact absurd H (by simp)
      rw [if_pos c16] at H
      have c16b0 := eq_true c16
      have c16b1 : decide (0 ≤ t191) = true := decide_eq_true c16
      clear c16
      by_cases c17 : t191 ≤ (l0.length : Int)
      rotate_left
      · rw [if_neg c17] at H
        exact absurd H (by simp)
      rw [if_pos c17] at H
      have c17b0 := eq_true c17
      have c17b1 : decide (t191 ≤ (l0.length : Int)) = true := decide_eq_true c17
      clear c17
      obtain ⟨y192, hy192⟩ : ∃ y_ : List (S45), y_ = (l0.take (t191 : Int).toNat) := ⟨_, rfl⟩
      replace H : ((expr_join.f kj3 ([] : List (S45)) y192 0).bind fun t196 => ((expr_join.f kj3 t196 l2 t191).bind fun t199 => (if 0 ≤ (wrap64 (a1 + 1)) then (if (wrap64 (a1 + 1)) ≤ (l0.length : Int) then ((some (l0.drop ((wrap64 (a1 + 1)) : Int).toNat : List (S45))).bind fun y202 => (expr_Put.l0 kj3 a1 (wrap64 ((l2.length : Int) - (wrap64 ((wrap64 (a1 + 1)) - t191)))) t199 y202 (y202.length : Int) 0)) else (none)) else (none)))) = some (r1, r2) := by first | (rw [hy192]; with_reducible exact H) | (have H2_ := (Option.bind_some _ _).symm.trans H; rw [hy192]; with_reducible exact H2_) | (have H2_ := (Option.bind_some _ _).symm.trans H; with_reducible exact H2_) | with_reducible exact H | (rw [hy192]; exact H) | exact H
      have Ny192 := am hy192
      clear hy192
      replace H := Option.bind_eq_some_iff.mp H
      obtain ⟨t196, A180, H⟩ := H
      replace H : ((expr_join.f kj3 t196 l2 t191).bind fun t199 => (if 0 ≤ (wrap64 (a1 + 1)) then (if (wrap64 (a1 + 1)) ≤ (l0.length : Int) then ((some (l0.drop ((wrap64 (a1 + 1)) : Int).toNat : List (S45))).bind fun y202 => (expr_Put.l0 kj3 a1 (wrap64 ((l2.length : Int) - (wrap64 ((wrap64 (a1 + 1)) - t191)))) t199 y202 (y202.length : Int) 0)) else (none)) else (none))) = some (r1, r2) := H
      have A18 := am A180
      clear A180
      replace H := Option.bind_eq_some_iff.mp H
      obtain ⟨t199, A190, H⟩ := H
      replace H : (if 0 ≤ (wrap64 (a1 + 1)) then (if (wrap64 (a1 + 1)) ≤ (l0.length : Int) then ((some (l0.drop ((wrap64 (a1 + 1)) : Int).toNat : List (S45))).bind fun y202 => (expr_Put.l0 kj3 a1 (wrap64 ((l2.length : Int) - (wrap64 ((wrap64 (a1 + 1)) - t191)))) t199 y202 (y202.length : Int) 0)) else (none)) else (none)) = some (r1, r2) := H
      have A19 := am A190
      clear A190
      obtain ⟨ji20, hji20⟩ : ∃ j_ : Int, (wrap64 (a1 + 1)) = j_ := ⟨_, rfl⟩
      replace H : (if 0 ≤ (ji20) then (if (ji20) ≤ (l0.length : Int) then ((some (l0.drop ((ji20) : Int).toNat : List (S45))).bind fun y202 => (expr_Put.l0 kj3 a1 (wrap64 ((l2.length : Int) - (wrap64 ((ji20) - t191)))) t199 y202 (y202.length : Int) 0)) else (none)) else (none)) = some (r1, r2) := by first | (rw [hji20] at H; exact H) | (simp only [hji20] at H ⊢; exact H)
      (try rw [hji20] at c15b0)
      (try rw [hji20] at A14)
      (try rw [hji20] at A18)
      (try rw [hji20] at A19)
      have hji20w : (IntKind.i64.wrap (a1 + 1)) = ji20 := (i64_w _).trans hji20
      by_cases c21 : 0 ≤ (ji20)
      rotate_left
      · rw [if_neg c21] at H
        exact absurd H (by simp)
      rw [if_pos c21] at H
      have c21b0 := eq_true c21
      have c21b1 : decide (0 ≤ (ji20)) = true := decide_eq_true c21
      clear c21
      by_cases c22 : (ji20) ≤ (l0.length : Int)
      rotate_left
      · rw [if_neg c22] at H
        exact absurd H (by simp)
      rw [if_pos c22] at H
      have c22b0 := eq_true c22
      have c22b1 : decide ((ji20) ≤ (l0.length : Int)) = true := decide_eq_true c22
      clear c22
      obtain ⟨y202, hy202⟩ : ∃ y_ : List (S45), y_ = (l0.drop ((ji20) : Int).toNat) := ⟨_, rfl⟩
      replace H : (expr_Put.l0 kj3 a1 (wrap64 ((l2.length : Int) - (wrap64 ((ji20) - t191)))) t199 y202 (y202.length : Int) 0) = some (r1, r2) := by first | (rw [hy202]; with_reducible exact H) | (have H2_ := (Option.bind_some _ _).symm.trans H; rw [hy202]; with_reducible exact H2_) | (have H2_ := (Option.bind_some _ _).symm.trans H; with_reducible exact H2_) | with_reducible exact H | (rw [hy202]; exact H) | exact H
      have Ny202 := am hy202
      clear hy202
      have H' := am H
      clear H
      go_wp2_with (first | ((with_reducible refine gate_callee (f := 89) rfl ?_); refine goesL_ (some 36) rfl rfl Tryd.func89 (by kernel_rfl) rfl #[.slice A0 l0.length c0, .int .i64 a1] rfl (by (try simp only [List.map_toArray, List.map_cons, List.map_nil]); first | done | rfl | (simp only [List.length_drop, List.length_take]; rfl)) ?_; (with_reducible refine (expr_begin.calls kj3 _ _ l0 a1 t191 _ ?side1 ?side2 A14.out).mono ?_); (case side1 => repeat (first | exact (Kd.C_below HR0.out HB.out) | (with_reducible refine Kd.C_alloc ?_ _) | (with_reducible refine Kd.C_drewN ?_ _) | (with_reducible refine Kd.C_drew ?_))); (case side2 => exact HC0.out); rintro e w' ⟨rfl, ⟨nd, rfl⟩⟩; refine ⟨_, rfl, ?_⟩; have q23 : (t191 : Int) ≤ ((l0.length : Int) : Int) := of_decide_eq_true (by first | (with_reducible assumption) | assumption); obtain ⟨i023, hi023, _, hsz23, _⟩ := info_parts info45; have hroom23 : l0.length ≤ c0 := HC0.out; have hC23 : Kd.C k45 _ A0 l0.length l0 := HR0.out; have hcut23 := cut_to (P := Tryd.prog) 30 45 .i64 Tryd.underlying30 hi023 A0 l0.length c0 t191 (of_decide_eq_true (by first | (with_reducible assumption) | assumption)) q23 hroom23; have hr23 := Kd.C_take (m := (t191 : Int).toNat) hC23 (by omega); have hy23 : y192.length = (t191 : Int).toNat := (by rw [Ny192.out, List.length_take]; omega); rw [← Ny192.out] at hr23; rw [← hy23] at hcut23; have HR195 := am hr23; have HC195 := am (show y192.length ≤ c0 from by omega); clear hr23 hC23 hroom23 hi023 hsz23; have KY23 := am hy23; clear hy23; replace q23 := eq_true q23) | ((with_reducible refine gate_callee (f := 76) rfl ?_); refine goesL_ (some 52) rfl rfl Tryd.func76 (by kernel_rfl) rfl #[.slice none 0 0, .slice A0 y192.length c0, .int .i64 0] rfl (by (try simp only [List.map_toArray, List.map_cons, List.map_nil]); first | done | rfl | (simp only [List.length_drop, List.length_take]; rfl)) ?_; (refine (expr_join.calls kj3 (fun k_ => some k_ = (.slice none 0 0 : Value).ownBlock) (.slice none 0 0) ([] : List (S45)) _ _ y192 0 t196 w _ ?side1 ?side2 ?side3 ?side4 A18.out).mono ?_); (case side1 => repeat (first | (with_reducible first | exact HB.out | apply below_alloc | apply pw_below_drewN | apply below_drew1) | exact HB.out)); (case side2 => exact Kd.S_nil _ _ _ _ _); (case side3 => exact HR195.out); (case side4 => exact HC195.out); rintro e w24 ⟨v197, rfl, ho0, hb, hkp⟩; refine ⟨_, rfl, ?_⟩; have n0_ := am (Kd.S_mono (ok' := fun k_ => True) ho0 (fun k_ hk_ => trivial)); have n1_ := am (hb); clear HB; have HO198 := n0_; have HB := n1_; clear n0_ n1_; (try clear hb); (try clear hkp); (try clear ho0); obtain ⟨Ao25, co25, eo25⟩ := Kd.S_slice HO198.out; subst eo25) | ((with_reducible refine gate_callee (f := 76) rfl ?_); refine goesL_ (some 56) rfl rfl Tryd.func76 (by kernel_rfl) rfl #[.slice Ao25 t196.length co25, .slice A2 l2.length c2, .int .i64 t191] rfl (by (try simp only [List.map_toArray, List.map_cons, List.map_nil]); first | done | rfl | (simp only [List.length_drop, List.length_take]; rfl)) ?_; (with_reducible refine (expr_join.calls kj3 (fun k_ => True) (.slice Ao25 t196.length co25) t196 _ _ l2 t191 t199 w _ ?side1 ?side2 ?side3 ?side4 A19.out).mono ?_); (case side1 => repeat (first | (with_reducible first | exact HB.out | apply below_alloc | apply pw_below_drewN | apply below_drew1) | exact HB.out)); (case side2 => ((with_reducible repeat (first | apply Kd.S_alloc | apply Kd.S_drewN | apply Kd.S_drew)); exact HO198.out)); (case side3 => exact HR2.out); (case side4 => exact HC2.out); rintro e w26 ⟨v200, rfl, ho0, hb, hkp⟩; refine ⟨_, rfl, ?_⟩; have n0_ := am (Kd.S_mono (ok' := fun k_ => True) ho0 (fun k_ hk_ => trivial)); have n1_ := am (hb); clear HB; clear HO198; have HO201 := n0_; have HB := n1_; clear n0_ n1_; (try clear hb); (try clear hkp); (try clear ho0); have q27 : ((ji20) : Int) ≤ ((l0.length : Int) : Int) := of_decide_eq_true (by first | (with_reducible assumption) | assumption); obtain ⟨i027, hi027, _, hsz27, _⟩ := info_parts info45; have hroom27 : l0.length ≤ c0 := HC0.out; have hC27 : Kd.C k45 _ A0 l0.length l0 := HR0.out; have q027 : (0 : Int) ≤ ((ji20) : Int) := of_decide_eq_true (by first | (with_reducible assumption) | assumption); have hcut27 := cut_from (P := Tryd.prog) 30 45 .i64 Tryd.underlying30 hi027 4 hsz27 A0 l0.length c0 (ji20) q027 q27; have hr27 := Kd.C_drop (m := ((ji20) : Int).toNat) (c := c0) hC27 (by omega) hroom27; obtain ⟨A27, hA27⟩ : ∃ A1, A1 = (if c0 = ((ji20) : Int).toNat then A0 else (A0 : Option Addr).map (·.add (((ji20) : Int).toNat * 4))) := ⟨_, rfl⟩; obtain ⟨c27, hc27⟩ : ∃ c1, c1 = c0 - ((ji20) : Int).toNat := ⟨_, rfl⟩; have hy27 : y202.length = l0.length - ((ji20) : Int).toNat := (by rw [Ny202.out, List.length_drop] <;> omega); rw [show (l0).drop ((ji20) : Int).toNat = y202 from Ny202.out.symm] at hr27; replace hr27 : Kd.C k45 _ A27 y202.length y202 := (by rw [hA27]; exact hr27); rw [← hy27, ← hA27, ← hc27] at hcut27; have HR205 := am hr27; have HC205 := am (show y202.length ≤ c27 from by rw [hy27, hc27]; exact Nat.sub_le_sub_right hroom27 _); clear hr27 hC27 hroom27 hi027 hsz27 hc27; have KY27 := am hy27; have KA27 := am hA27; clear hy27 hA27; replace q27 := eq_true q27))
      go_loopg [10, 62] kj3 (fun kq v10 v62 w' => ∃ (x10_2 : List (S45)) (x62_2 : Int), v62 = .int .i64 x62_2 ∧ Aside0 (expr_Put.l0 kq a1 (wrap64 ((l2.length : Int) - (wrap64 ((ji20) - t191)))) x10_2 y202 (y202.length : Int) x62_2 = some (r1, r2)) ∧ Aside0 (kq ≤ kj3) ∧ Aside0 (Kd.S k45 45 w' w.heap.size (fun _ => True) v10 x10_2) ∧ Aside0 (Below w.heap.size w w'))
      case atStart => exact ⟨(t199), (0), (by first | rfl | (simp; done) | (simp [*]; done)), H', ⟨Nat.le_refl _⟩, ⟨by (with_reducible repeat (first | apply Kd.S_alloc | apply Kd.S_drewN | apply Kd.S_drew)); exact HO201.out⟩, ⟨by repeat (first | (with_reducible first | exact HB.out | apply below_alloc | apply pw_below_drewN | apply below_drew1) | exact HB.out)⟩⟩
      case round =>
        clear H'
        try clear c1
        try clear c2
        try clear p2
        try clear q2
        try clear c3
        try clear c5
        try clear c6
        try clear c6b0
        try clear c6b1
        try clear p6
        try clear c7
        try clear c8
        try clear c11
        try clear c12
        try clear c12b0
        try clear c13
        try clear c13b0
        try clear c15
        try clear c15b0
        try clear c16
        try clear c16b0
        try clear c16b1
        try clear c17
        try clear c17b0
        try clear c17b1
        try clear c21
        try clear c21b0
        try clear c21b1
        try clear c22
        try clear c22b0
        try clear c22b1
        try clear q23
        try clear c27
        try clear q27
        try clear p2
        try clear q027
        try clear q23
        try clear q27
        obtain ⟨x10_2, x62_2, rfl, HA, HK2, HO_10, HB⟩ := hrel
        cases gk with
        | zero => exact absurd HA.out (by simp [expr_Put.l0])
        | succ k2 =>
          have H := HA.out
          clear HA
          simp only [expr_Put.l0] at H
          by_cases c28 : x62_2 < (y202.length : Int)
          rotate_left
          · rw [if_neg c28] at H
            have c28b0 : decide (x62_2 < (y202.length : Int)) = false := decide_eq_false c28
            clear c28
            simp only [Option.some.injEq, Prod.mk.injEq] at H
            obtain ⟨rfl, rfl⟩ := H
            go_wp2
            go_ret2
            exact ⟨_, by first | rfl | (simp [errW_none, errW_some] <;> rfl) | (simp only [← hji20]; first | rfl | (simp [errW_none, errW_some] <;> rfl)) | (simp [*, errW_none, errW_some] <;> rfl), by (with_reducible repeat (first | apply Kd.S_alloc | apply Kd.S_drewN | apply Kd.S_drew)); exact HO_10.out, by repeat (first | (with_reducible first | exact HB.out | apply below_alloc | apply pw_below_drewN | apply below_drew1) | exact HB.out)⟩
          rw [if_pos c28] at H
          have c28b0 : decide (x62_2 < (y202.length : Int)) = true := decide_eq_true c28
          clear c28
          by_cases c29 : 0 ≤ x62_2
          rotate_left
          · rw [if_neg c29] at H
            exact absurd H (by simp)
          rw [if_pos c29] at H
          have c29b0 : decide (0 ≤ x62_2) = true := decide_eq_true c29
          clear c29
          by_cases c30 : x62_2 < (y202.length : Int)
          rotate_left
          · rw [if_neg c30] at H
            exact absurd H (by simp)
          rw [if_pos c30] at H
          have c30b0 : decide (x62_2 < (y202.length : Int)) = true := decide_eq_true c30
          clear c30
          replace H := Option.bind_eq_some_iff.mp H
          obtain ⟨t208, A310, H⟩ := H
          replace H : (expr_Put.l1 k2 a1 (wrap64 ((l2.length : Int) - (wrap64 ((ji20) - t191)))) x10_2 t208 y202 (y202.length : Int) x62_2 (t208.length : Int) 0 ((rd_T45 y202 x62_2).f0) ((rd_T45 y202 x62_2).f1) ((rd_T45 y202 x62_2).f2) ((rd_T45 y202 x62_2).f3)) = some (r1, r2) := H
          have A31 := am A310
          clear A310
          have H' := am H
          clear H
          have p206 : 0 ≤ (x62_2 : Int) := of_decide_eq_true (by first | (with_reducible assumption) | assumption)
          have q206 : x62_2 < (y202.length : Int) := of_decide_eq_true (by first | (with_reducible assumption) | assumption)
          obtain ⟨ad206, A206_3, c206_3, e206, hx206_0, hx206_1, hx206_2, hx206_3, hl206_3, hi206_3⟩ := at_T45 HR205.out x62_2 p206 q206
          cases e206
          replace hx206_0 := (HB.out.cell (World.block_lt_of_cell? w _ hx206_0)).trans hx206_0
          replace hx206_1 := (HB.out.cell (World.block_lt_of_cell? w _ hx206_1)).trans hx206_1
          replace hx206_2 := (HB.out.cell (World.block_lt_of_cell? w _ hx206_2)).trans hx206_2
          replace hx206_3 := (HB.out.cell (World.block_lt_of_cell? w _ hx206_3)).trans hx206_3
          have HR206_3 := am hi206_3
          have HC206_3 := am hl206_3
          clear hi206_3 hl206_3
          replace p206 := eq_true p206
          replace q206 := eq_true q206
          go_wp2_with (first | ((with_reducible refine gate_dst (N := 12) rfl ?_); (try (refine gate_guard (by rfl) ?_; dsimp only)); refine box_event ?hg (N := 12) ?hd (cs := #[.int .i64 0, .int .i64 0, .string (⟨#[]⟩ : ByteArray), .slice none 0 0]) (t := 45) ?hr ?_; (case hd => rfl); (case hg => rfl); (case hr => first | (go_simp; done) | (go_simp; rfl)); intro gb207 hg w32 hbox hb; have n0_ := am (Kd.S_below (Kd.S_elderB (by (with_reducible repeat (first | apply Kd.S_alloc | apply Kd.S_drewN | apply Kd.S_drew)); exact HO_10.out) gb207 (Nat.le_of_eq hg.symm)) hb); have n1_ := am (below_step (by repeat (first | (with_reducible first | exact HB.out | apply below_alloc | apply pw_below_drewN | apply below_drew1) | exact HB.out)) hb); have n2_ := am (hbox); have n3_ := am ((by rw [hg]; exact (below_size (by repeat (first | (with_reducible first | exact HB.out | apply below_alloc | apply pw_below_drewN | apply below_drew1) | exact HB.out))) : w.heap.size ≤ gb207)); have n4_ := am ((by rw [hg]; exact (below_size (by repeat (first | (with_reducible first | exact HB.out | apply below_alloc | apply pw_below_drewN | apply below_drew1) | exact HB.out))) : w.heap.size ≤ gb207)); clear HO_10; clear HB; have HO_10 := n0_; have HB := n1_; have BK207 := n2_; have GW207 := n3_; have GE207 := n4_; clear n0_ n1_ n2_ n3_ n4_; clear hb hbox hg; have hcz33_0 : w32.cell? ⟨gb207, 0, none⟩ = some (.int .i64 0) := (blk_cell BK207.out 0).trans rfl; have hcz33_1 : w32.cell? ⟨gb207, 1, none⟩ = some (.int .i64 0) := (blk_cell BK207.out 1).trans rfl; have hcz33_2 : w32.cell? ⟨gb207, 2, none⟩ = some (.string (⟨#[]⟩ : ByteArray)) := (blk_cell BK207.out 2).trans rfl; have hcz33_3 : w32.cell? ⟨gb207, 3, none⟩ = some (.slice none 0 0) := (blk_cell BK207.out 3).trans rfl; have hfz33_0 := blk_frozen BK207.out 0; have hfz33_1 := blk_frozen BK207.out 1; have hfz33_2 := blk_frozen BK207.out 2; have hfz33_3 := blk_frozen BK207.out 3) | ((with_reducible refine gate_callee (f := 90) rfl ?_); refine goesL_ (some 68) rfl rfl Tryd.func90 (by kernel_rfl) rfl #[.slice A206_3 ((rd_T45 y202 x62_2).f3).length c206_3] rfl (by (try simp only [List.map_toArray, List.map_cons, List.map_nil]); first | done | rfl | (simp only [List.length_drop, List.length_take]; rfl)) ?_; (with_reducible refine (slices_Clone_int.calls _ _ ((rd_T45 y202 x62_2).f3) t208 _ ?side1 ?side2 A31.out).mono ?_); (case side1 => exact Kd.C_below HR206_3.out (by repeat (first | (with_reducible first | exact HB.out | apply below_alloc | apply pw_below_drewN | apply below_drew1 | refine below_set ?_ GE207.out) | exact HB.out))); (case side2 => exact HC206_3.out); rintro e w34 ⟨v209, rfl, ho0, hb⟩; refine ⟨_, rfl, ?_⟩; have n0_ := am (Kd.S_elder' (by (with_reducible repeat (first | apply Kd.S_alloc | apply Kd.S_drewN | apply Kd.S_drew)); exact (Kd.S_mono (Kd.S_far (p := ⟨gb207, 3, none⟩) (Kd.S_far (p := ⟨gb207, 2, none⟩) (Kd.S_far (p := ⟨gb207, 1, none⟩) (Kd.S_far (p := ⟨gb207, 0, none⟩) (Kd.S_mono HO_10.out (fun k_ hk => (⟨hk, hk.2⟩ : _ ∧ k_ ≠ gb207))) (fun _ hk => hk.2) (.int .i64 ((rd_T45 y202 x62_2).f0))) (fun _ hk => hk.2) (.int .i64 ((rd_T45 y202 x62_2).f1))) (fun _ hk => hk.2) (.string ((rd_T45 y202 x62_2).f2))) (fun _ hk => hk.2) (.slice A206_3 ((rd_T45 y202 x62_2).f3).length c206_3)) (fun _ h_ => h_.1))) (Kd.R_base ho0) hb); have n1_ := am (Kd.R_lower ho0 (below_size (by repeat (first | (with_reducible first | exact HB.out | apply below_alloc | apply pw_below_drewN | apply below_drew1 | refine below_set ?_ GE207.out) | exact HB.out)))); have n2_ := am (blk_below (g := gb207) (o := .cells #[.int .i64 ((rd_T45 y202 x62_2).f0), .int .i64 ((rd_T45 y202 x62_2).f1), .string ((rd_T45 y202 x62_2).f2), .slice A206_3 ((rd_T45 y202 x62_2).f3).length c206_3] 45 (0, 0)) (by (with_reducible repeat (first | refine blk_drewN ?_ _ | refine blk_drew ?_ | refine blk_alloc ?_ _)); refine blk_put (cs := #[.int .i64 ((rd_T45 y202 x62_2).f0), .int .i64 ((rd_T45 y202 x62_2).f1), .string ((rd_T45 y202 x62_2).f2), .slice none 0 0]) ?_ 3 _ rfl; (with_reducible repeat (first | refine blk_drewN ?_ _ | refine blk_drew ?_ | refine blk_alloc ?_ _)); refine blk_put (cs := #[.int .i64 ((rd_T45 y202 x62_2).f0), .int .i64 ((rd_T45 y202 x62_2).f1), .string (⟨#[]⟩ : ByteArray), .slice none 0 0]) ?_ 2 _ rfl; (with_reducible repeat (first | refine blk_drewN ?_ _ | refine blk_drew ?_ | refine blk_alloc ?_ _)); refine blk_put (cs := #[.int .i64 ((rd_T45 y202 x62_2).f0), .int .i64 0, .string (⟨#[]⟩ : ByteArray), .slice none 0 0]) ?_ 1 _ rfl; (with_reducible repeat (first | refine blk_drewN ?_ _ | refine blk_drew ?_ | refine blk_alloc ?_ _)); refine blk_put (cs := #[.int .i64 0, .int .i64 0, .string (⟨#[]⟩ : ByteArray), .slice none 0 0]) ?_ 0 _ rfl; (with_reducible repeat (first | refine blk_drewN ?_ _ | refine blk_drew ?_ | refine blk_alloc ?_ _)); exact BK207.out) hb); have n3_ := am (below_step (by repeat (first | (with_reducible first | exact HB.out | apply below_alloc | apply pw_below_drewN | apply below_drew1 | refine below_set ?_ GE207.out) | exact HB.out)) hb); clear HO_10; clear BK207; clear HB; have HO_10 := n0_; have HO210 := n1_; have BK207 := n2_; have HB := n3_; clear n0_ n1_ n2_ n3_; (try clear hb); (try clear hb2); (try clear hk); (try clear hi); (try clear ho0); obtain ⟨Ao35, co35, eo35⟩ := Kd.R_slice HO210.out; subst eo35))
          go_loopg [71] k2 (fun kq v71 w' => ∃ (x13_3 : List Int) (x71_3 : Int), v71 = .int .i64 x71_3 ∧ Aside0 (expr_Put.l1 kq a1 (wrap64 ((l2.length : Int) - (wrap64 ((ji20) - t191)))) x10_2 x13_3 y202 (y202.length : Int) x62_2 (t208.length : Int) x71_3 ((rd_T45 y202 x62_2).f0) ((rd_T45 y202 x62_2).f1) ((rd_T45 y202 x62_2).f2) ((rd_T45 y202 x62_2).f3) = some (r1, r2)) ∧ Aside0 (kq ≤ k2) ∧ Aside0 (Kd.S k45 45 w' w.heap.size (fun k_ => some k_ ≠ ((.slice Ao35 t208.length co35) : Value).ownBlock ∧ k_ ≠ gb207) u10 x10_2) ∧ Aside0 (Kd.R (Kd.int .i64) 3 w' w.heap.size (fun _ => True) (.slice Ao35 t208.length co35) x13_3) ∧ Aside0 (w'.heap[gb207]? = some (.cells #[.int .i64 ((rd_T45 y202 x62_2).f0), .int .i64 ((rd_T45 y202 x62_2).f1), .string ((rd_T45 y202 x62_2).f2), (.slice A206_3 ((rd_T45 y202 x62_2).f3).length c206_3)] 45 (0, 0))) ∧ Aside0 (Below w.heap.size w w'))
          case atStart => exact ⟨(t208), (0), (by first | rfl | (simp; done) | (simp [*]; done)), H', ⟨Nat.le_refl _⟩, ⟨by (with_reducible repeat (first | apply Kd.S_alloc | apply Kd.S_drewN | apply Kd.S_drew)); exact Kd.S_mono HO_10.out (fun _ hk => ⟨hk.2, hk.1.2⟩)⟩, ⟨by (with_reducible repeat (first | apply Kd.R_alloc | apply Kd.R_drewN | apply Kd.R_drew)); exact HO210.out⟩, ⟨by (with_reducible repeat (first | refine blk_drewN ?_ _ | refine blk_drew ?_ | refine blk_alloc ?_ _)); exact BK207.out⟩, ⟨by repeat (first | (with_reducible first | exact HB.out | apply below_alloc | apply pw_below_drewN | apply below_drew1 | refine below_set ?_ GE207.out) | exact HB.out)⟩⟩
          case round =>
            clear H'
            try clear c1
            try clear c2
            try clear p2
            try clear q2
            try clear hx2
            try clear c3
            try clear c5
            try clear c6
            try clear c6b0
            try clear c6b1
            try clear p6
            try clear c7
            try clear c8
            try clear c9
            try clear c11
            try clear c12
            try clear c12b0
            try clear c13
            try clear c13b0
            try clear c15
            try clear c15b0
            try clear c16
            try clear c16b0
            try clear c16b1
            try clear c17
            try clear c17b0
            try clear c17b1
            try clear c20
            try clear p20
            try clear q20
            try clear hx20
            try clear c21
            try clear c21b0
            try clear c21b1
            try clear c22
            try clear c22b0
            try clear c22b1
            try clear q23
            try clear c27
            try clear q27
            try clear c28
            try clear c28b0
            try clear c29
            try clear c29b0
            try clear c30
            try clear c30b0
            try clear c35
            try clear hcz33_0
            try clear hcz33_1
            try clear hcz33_2
            try clear hcz33_3
            try clear hfz33_0
            try clear hfz33_1
            try clear hfz33_2
            try clear hfz33_3
            try clear hx206_0
            try clear hx206_1
            try clear hx206_2
            try clear hx206_3
            try clear p2
            try clear p206
            try clear p6
            try clear q027
            try clear q2
            try clear q206
            try clear q23
            try clear q27
            obtain ⟨x13_3, x71_3, rfl, HA, HK3, HO_10, HO_13, BK207, HB⟩ := hrel
            have hl13_3 := (Kd.R_reads' HO_13.out).1
            rw [hl13_3] at HO_13
            (try simp only [hl13_3])
            (try simp only [hl13_3] at BK207)
            (try simp only [hl13_3] at HO_10)
            cases gk with
            | zero => exact absurd HA.out (by simp [expr_Put.l1])
            | succ k3 =>
              have H := HA.out
              clear HA
              simp only [expr_Put.l1] at H
              by_cases c36 : x71_3 < (t208.length : Int)
              rotate_left
              · rw [if_neg c36] at H
                have c36b0 : decide (x71_3 < (t208.length : Int)) = false := decide_eq_false c36
                have c36b0y : decide (x71_3 < (x13_3.length : Int)) = false := by rw [← hl13_3]; exact c36b0
                clear c36
                by_cases c43 : x10_2.length < 2513169434916
                rotate_left
                · rw [if_neg c43] at H
                  exact absurd H (by simp)
                rw [if_pos c43] at H
                have LMc43 := am c43
                clear c43
                obtain ⟨y213, hy213⟩ : ∃ y_ : List (S45), y_ = (x10_2 ++ [(⟨((rd_T45 y202 x62_2).f0), ((rd_T45 y202 x62_2).f1), ((rd_T45 y202 x62_2).f2), x13_3⟩ : S45)]) := ⟨_, rfl⟩
                replace H : (expr_Put.l0 k3 a1 (wrap64 ((l2.length : Int) - (wrap64 ((ji20) - t191)))) y213 y202 (y202.length : Int) (wrap64 (x62_2 + 1))) = some (r1, r2) := by first | (rw [hy213]; with_reducible exact H) | (have H2_ := (Option.bind_some _ _).symm.trans H; rw [hy213]; with_reducible exact H2_) | (have H2_ := (Option.bind_some _ _).symm.trans H; with_reducible exact H2_) | with_reducible exact H | (rw [hy213]; exact H) | exact H
                have Ny213 := am hy213
                clear hy213
                have H' := am H
                clear H
                have hcz44_0 : wr.cell? ⟨gb207, 0, none⟩ = some (.int .i64 ((rd_T45 y202 x62_2).f0)) := (blk_cell BK207.out 0).trans rfl
                have hcz44_1 : wr.cell? ⟨gb207, 1, none⟩ = some (.int .i64 ((rd_T45 y202 x62_2).f1)) := (blk_cell BK207.out 1).trans rfl
                have hcz44_2 : wr.cell? ⟨gb207, 2, none⟩ = some (.string ((rd_T45 y202 x62_2).f2)) := (blk_cell BK207.out 2).trans rfl
                have hcz44_3 : wr.cell? ⟨gb207, 3, none⟩ = some (.slice A206_3 ((rd_T45 y202 x62_2).f3).length c206_3) := (blk_cell BK207.out 3).trans rfl
                have hfz44_0 := blk_frozen BK207.out 0
                have hfz44_1 := blk_frozen BK207.out 1
                have hfz44_2 := blk_frozen BK207.out 2
                have hfz44_3 := blk_frozen BK207.out 3
                go_wp2_with (first | ((with_reducible refine gate_store (t := 43) (p := 87) rfl ?_); refine store_event (t := 43) (p := 87) (v := ?vo_w45) (w1 := (wr.setCell ⟨gb207, 3, none⟩ (.slice Ao35 x13_3.length co35))) ?hg ?ho ?hn ?hr ?_; (case ho => rfl); (case hg => rfl); (case hn => rfl); (case hr => first | (go_simp; done) | (go_simp; rfl)); intro w45 hw; have n0_ : Aside0 (Kd.S k45 45 w45 w.heap.size (fun k_ => some k_ ≠ (.slice Ao35 x13_3.length co35 : Value).ownBlock ∧ k_ ≠ gb207) u10 x10_2) := ⟨(by rw [hw]; exact (by (with_reducible repeat (first | apply Kd.S_alloc | apply Kd.S_drewN | apply Kd.S_drew)); exact Kd.S_mono (Kd.S_far (p := ⟨gb207, 3, none⟩) (Kd.S_mono HO_10.out (fun k_ hk => (⟨hk, hk.2⟩ : _ ∧ k_ ≠ gb207))) (fun _ hk => hk.2) (.slice Ao35 x13_3.length co35)) (fun _ hk => ⟨hk.1.1, hk.1.2⟩)))⟩; have n1_ : Aside0 (Kd.R (Kd.int .i64) 3 w45 w.heap.size (fun _ => True) (.slice Ao35 x13_3.length co35) x13_3) := ⟨(by rw [hw]; exact (by (with_reducible repeat (first | apply Kd.R_alloc | apply Kd.R_drewN | apply Kd.R_drew)); exact Kd.R_mono (Kd.R_far (p := ⟨gb207, 3, none⟩) (Kd.R_types HO_13.out BK207.out (by decide)) (fun _ hk => hk.2) (.slice Ao35 x13_3.length co35)) (fun _ hk => trivial)))⟩; have n2_ : Aside0 (w45.heap[gb207]? = some (.cells #[.int .i64 ((rd_T45 y202 x62_2).f0), .int .i64 ((rd_T45 y202 x62_2).f1), .string ((rd_T45 y202 x62_2).f2), .slice Ao35 x13_3.length co35] 45 (0, 0))) := ⟨(by rw [hw]; exact (by (with_reducible repeat (first | refine blk_drewN ?_ _ | refine blk_drew ?_ | refine blk_alloc ?_ _)); refine blk_put (cs := #[.int .i64 ((rd_T45 y202 x62_2).f0), .int .i64 ((rd_T45 y202 x62_2).f1), .string ((rd_T45 y202 x62_2).f2), .slice A206_3 ((rd_T45 y202 x62_2).f3).length c206_3]) ?_ 3 _ rfl; (with_reducible repeat (first | refine blk_drewN ?_ _ | refine blk_drew ?_ | refine blk_alloc ?_ _)); exact BK207.out))⟩; have n3_ : Aside0 (Below w.heap.size w w45) := ⟨(by rw [hw]; exact (by repeat (first | (with_reducible first | exact HB.out | apply below_alloc | apply pw_below_drewN | apply below_drew1 | refine below_set ?_ GE207.out) | exact HB.out)))⟩; clear hw; clear HO_10; clear HO_13; clear BK207; clear HB; have HO_10 := n0_; have HO_13 := n1_; have BK207 := n2_; have HB := n3_; clear n0_ n1_ n2_ n3_; have hcz46_0 : w45.cell? ⟨gb207, 0, none⟩ = some (.int .i64 ((rd_T45 y202 x62_2).f0)) := (blk_cell BK207.out 0).trans rfl; have hcz46_1 : w45.cell? ⟨gb207, 1, none⟩ = some (.int .i64 ((rd_T45 y202 x62_2).f1)) := (blk_cell BK207.out 1).trans rfl; have hcz46_2 : w45.cell? ⟨gb207, 2, none⟩ = some (.string ((rd_T45 y202 x62_2).f2)) := (blk_cell BK207.out 2).trans rfl; have hcz46_3 : w45.cell? ⟨gb207, 3, none⟩ = some (.slice Ao35 x13_3.length co35) := (blk_cell BK207.out 3).trans rfl; have hfz46_0 := blk_frozen BK207.out 0; have hfz46_1 := blk_frozen BK207.out 1; have hfz46_2 := blk_frozen BK207.out 2; have hfz46_3 := blk_frozen BK207.out 3) | ((with_reducible refine gate_builtin (b := .append) (xs := #[.tmp 88, .tmp 90]) rfl ?_); (try (refine gate_guard (by rfl) ?_; dsimp only)); at_builtin; refine Kd.S_append k45 (w0 := w) w.heap.size rfl (.tmp 88) (.tmp 90) 30 45 (.agg #[(.int .i64 0), (.int .i64 0), (.string ⟨#[]⟩), (.slice none 0 0)]) 56 rfl Tryd.underlying30 info45 rfl (by decide) (by omega) u10 x10_2 (⟨((rd_T45 y202 x62_2).f0), ((rd_T45 y202 x62_2).f1), ((rd_T45 y202 x62_2).f2), x13_3⟩ : S45) [.int .i64 ((rd_T45 y202 x62_2).f0), .int .i64 ((rd_T45 y202 x62_2).f1), .string ((rd_T45 y202 x62_2).f2), .slice Ao35 x13_3.length co35] (fun k_ => k_ ≠ gb207) (fun k_ => some k_ = (.slice Ao35 x13_3.length co35 : Value).ownBlock) rfl rfl ?aP (fun k_ hk_ => ((Kd.R_mono (ok' := fun k_ => ((fun k_ => k_ ≠ gb207)) k_ ∧ some k_ ≠ (u10 : Value).ownBlock) (Kd.R_types (Kd.R_apart' (HO_13.out) (Kd.S_typed HO_10.out) (by decide)) BK207.out (by decide)) (fun k_ hk => ⟨hk.2, hk.1.2⟩))).1 k_ hk_.symm) ?aF ?aO ?aB ?aS ?aL ?_; (case aP => exact k45_mkM _ _ _ (⟨((rd_T45 y202 x62_2).f0), ((rd_T45 y202 x62_2).f1), ((rd_T45 y202 x62_2).f2), x13_3⟩ : S45) (Kd.R_mono (Kd.R_tight rfl (Kd.R_mono (ok' := fun k_ => ((fun k_ => k_ ≠ gb207)) k_ ∧ some k_ ≠ (u10 : Value).ownBlock) (Kd.R_types (Kd.R_apart' (HO_13.out) (Kd.S_typed HO_10.out) (by decide)) BK207.out (by decide)) (fun k_ hk => ⟨hk.2, hk.1.2⟩))) (fun _ h_ => h_))); (case aB => exact (by repeat (first | (with_reducible first | exact HB.out | apply below_alloc | apply pw_below_drewN | apply below_drew1 | refine below_set ?_ GE207.out) | exact HB.out))); (case aF => exact (fun k_ hk => Kd.freshB (g := gb207) (o := .cells #[.int .i64 ((rd_T45 y202 x62_2).f0), .int .i64 ((rd_T45 y202 x62_2).f1), .string ((rd_T45 y202 x62_2).f2), .slice Ao35 x13_3.length co35] 45 (0, 0)) (by (with_reducible repeat (first | refine blk_drewN ?_ _ | refine blk_drew ?_ | refine blk_alloc ?_ _)); exact BK207.out) k_ hk)); (case aO => exact (by (with_reducible repeat (first | apply Kd.S_alloc | apply Kd.S_drewN | apply Kd.S_drew)); exact Kd.S_mono HO_10.out (fun k_ hk => ⟨hk.2, fun e_ => hk.1 e_⟩))); (case aS => exact (below_size (by repeat (first | (with_reducible first | exact HB.out | apply below_alloc | apply pw_below_drewN | apply below_drew1 | refine below_set ?_ GE207.out) | exact HB.out)))); (case aL => have := LMc43.out; omega); intro v214 w47 ho hb hg hat; rw [← Ny213.out] at ho; have n0_ := am (blk_grown (g := gb207) (o := .cells #[.int .i64 ((rd_T45 y202 x62_2).f0), .int .i64 ((rd_T45 y202 x62_2).f1), .string ((rd_T45 y202 x62_2).f2), .slice Ao35 x13_3.length co35] 45 (0, 0)) (by (with_reducible repeat (first | refine blk_drewN ?_ _ | refine blk_drew ?_ | refine blk_alloc ?_ _)); exact BK207.out) hg (Kd.S_away HO_10.out (fun _ hk => hk.2))); have n1_ := am (hb); have n2_ := am (ho); clear BK207; clear HB; clear HO_10; clear HO_13; have BK207 := n0_; have HB := n1_; have HO215 := n2_; clear n0_ n1_ n2_; clear ho hb hg hat))
                (try simp only [← hl13_3])
                go_roundg k3
                case measure => have := HJ3.out; have := HK2.out; have := HK3.out; omega
                case rel => exact ⟨(y213), (wrap64 (x62_2 + 1)), (by first | rfl | (simp; done) | (simp [*]; done)), H', ⟨by have := HJ3.out; have := HK2.out; have := HK3.out; omega⟩, ⟨by (try simp only [hl13_3]); (with_reducible repeat (first | apply Kd.S_alloc | apply Kd.S_drewN | apply Kd.S_drew)); exact Kd.S_mono HO215.out (fun _ hk => trivial)⟩, ⟨by repeat (first | (with_reducible first | exact HB.out | apply below_alloc | apply pw_below_drewN | apply below_drew1 | refine below_set ?_ GE207.out) | exact HB.out)⟩⟩
              rw [if_pos c36] at H
              have c36b0 : decide (x71_3 < (t208.length : Int)) = true := decide_eq_true c36
              have c36b0y : decide (x71_3 < (x13_3.length : Int)) = true := by rw [← hl13_3]; exact c36b0
              clear c36
              by_cases c37 : 0 ≤ x71_3
              rotate_left
              · rw [if_neg c37] at H
                exact absurd H (by simp)
              rw [if_pos c37] at H
              have c37b0 : decide (0 ≤ x71_3) = true := decide_eq_true c37
              clear c37
              by_cases c38 : x71_3 < (x13_3.length : Int)
              rotate_left
              · rw [if_neg c38] at H
                exact absurd H (by simp)
              rw [if_pos c38] at H
              have c38b0 : decide (x71_3 < (x13_3.length : Int)) = true := decide_eq_true c38
              clear c38
              by_cases c39 : (rd x13_3 x71_3) ≥ a1
              rotate_left
              · rw [if_neg c39] at H
                have c39b0 : decide (a1 ≤ (rd x13_3 x71_3)) = false := decide_eq_false c39
                clear c39
                have H' := am H
                clear H
                have p211 : 0 ≤ (x71_3 : Int) := of_decide_eq_true (by first | (with_reducible assumption) | assumption)
                have q211 : x71_3 < (x13_3.length : Int) := of_decide_eq_true (by first | (with_reducible assumption) | assumption)
                obtain ⟨ad211, e211, hx211_0⟩ := Kd.at_int (Kd.R_reads' HO_13.out).2.2 x71_3 p211 q211
                cases e211
                replace p211 := eq_true p211
                replace q211 := eq_true q211
                go_wp2
                (try simp only [← hl13_3])
                go_roundg k3
                case measure => have := HJ3.out; have := HK2.out; have := HK3.out; omega
                case rel => exact ⟨(x13_3), (wrap64 (x71_3 + 1)), (by first | rfl | (simp; done) | (simp [*]; done)), H', ⟨by have := HJ3.out; have := HK2.out; have := HK3.out; omega⟩, ⟨by (try simp only [hl13_3]); (with_reducible repeat (first | apply Kd.S_alloc | apply Kd.S_drewN | apply Kd.S_drew)); exact HO_10.out⟩, ⟨by (try simp only [hl13_3]); (with_reducible repeat (first | apply Kd.R_alloc | apply Kd.R_drewN | apply Kd.R_drew)); exact HO_13.out⟩, ⟨by (try simp only [hl13_3]); (with_reducible repeat (first | refine blk_drewN ?_ _ | refine blk_drew ?_ | refine blk_alloc ?_ _)); exact BK207.out⟩, ⟨by repeat (first | (with_reducible first | exact HB.out | apply below_alloc | apply pw_below_drewN | apply below_drew1 | refine below_set ?_ GE207.out) | exact HB.out)⟩⟩
              rw [if_pos c39] at H
              have c39b0 : decide (a1 ≤ (rd x13_3 x71_3)) = true := decide_eq_true c39
              clear c39
              obtain ⟨y212, hy212⟩ : ∃ y_ : List Int, y_ = (x13_3.set (x71_3 : Int).toNat (wrap64 ((rd x13_3 x71_3) + (wrap64 ((l2.length : Int) - (wrap64 ((ji20) - t191))))))) := ⟨_, rfl⟩
              replace H : (expr_Put.l1 k3 a1 (wrap64 ((l2.length : Int) - (wrap64 ((ji20) - t191)))) x10_2 y212 y202 (y202.length : Int) x62_2 (t208.length : Int) (wrap64 (x71_3 + 1)) ((rd_T45 y202 x62_2).f0) ((rd_T45 y202 x62_2).f1) ((rd_T45 y202 x62_2).f2) ((rd_T45 y202 x62_2).f3)) = some (r1, r2) := by first | (rw [hy212]; with_reducible exact H) | (have H2_ := (Option.bind_some _ _).symm.trans H; rw [hy212]; with_reducible exact H2_) | (have H2_ := (Option.bind_some _ _).symm.trans H; with_reducible exact H2_) | with_reducible exact H | (rw [hy212]; exact H) | exact H
              have Ny212 := am hy212
              clear hy212
              have H' := am H
              clear H
              have p211 : 0 ≤ (x71_3 : Int) := of_decide_eq_true (by first | (with_reducible assumption) | assumption)
              have q211 : x71_3 < (x13_3.length : Int) := of_decide_eq_true (by first | (with_reducible assumption) | assumption)
              obtain ⟨ad211, e211, hx211_0⟩ := Kd.at_int (Kd.R_reads' HO_13.out).2.2 x71_3 p211 q211
              cases e211
              replace p211 := eq_true p211
              replace q211 := eq_true q211
              have p40 : 0 ≤ (x71_3 : Int) := of_decide_eq_true (by first | (with_reducible assumption) | assumption)
              have q40 : (x71_3 : Int) < ((x13_3.length : Int) : Int) := of_decide_eq_true (by first | (with_reducible assumption) | assumption)
              obtain ⟨go40, co40, eo40, gb40, gl40, cl40, HG40⟩ := Kd.R_form HO_13.out (by omega)
              (first | cases eo40 | (injection eo40 with ea_ en_ ec_; (first | subst ea_ | (injection ea_ with ea_; subst ea_)); subst ec_; clear en_))
              have GB40 := am gb40
              have GG40 := am HG40
              clear gb40 gl40 HG40
              (first | simp only [add_plain] at hx211_0 | skip)
              obtain ⟨hx40_0, hf40_0⟩ := Kd.R_celln 0 HO_13.out (x71_3 : Int) p40 q40
              replace p40 := eq_true p40
              replace q40 := eq_true q40
              have HP41 := Kd.R_putg HO_13.out (x71_3 : Int) (wrap64 ((rd x13_3 x71_3) + (wrap64 ((l2.length : Int) - (wrap64 ((ji20) - t191))))))
              go_wp2_with (first | ((with_reducible refine gate_store (t := 3) (p := 84) rfl ?_); refine store_event (t := 3) (p := 84) (v := ?vo_w42) (w1 := (wr.setCell ⟨go40, (x71_3 : Int).toNat, none⟩ (.int .i64 (wrap64 ((rd x13_3 x71_3) + (wrap64 ((l2.length : Int) - (wrap64 ((ji20) - t191))))))))) ?hg ?ho ?hn ?hr ?_; (case ho => rfl); (case hg => rfl); (case hn => rfl); (case hr => first | (go_simp; done) | (go_simp; rfl)); intro w42 hw; have hg : wr.grownBy w42 (some go40) := (by rw [hw]; exact HP41.2); have hp_ : Kd.R (Kd.int .i64) 3 w42 w.heap.size (fun _ => True) (.slice (some ⟨go40, 0, none⟩) x13_3.length co35) y212 := (by rw [hw, Ny212.out]; exact HP41.1); clear HP41; have n0_ := am (Kd.S_after (v := (.slice (some ⟨go40, 0, none⟩) x13_3.length co35)) (v1 := (.slice (some ⟨go40, 0, none⟩) x13_3.length co35)) (ok := (fun k_ => k_ ≠ gb207)) (by (with_reducible repeat (first | apply Kd.S_alloc | apply Kd.S_drewN | apply Kd.S_drew)); exact Kd.S_mono HO_10.out (fun _ hk => ⟨hk.2, hk.1⟩)) hg (.inl rfl)); have n1_ := am (hp_); have n2_ := am (blk_grown (g := gb207) (o := .cells #[.int .i64 ((rd_T45 y202 x62_2).f0), .int .i64 ((rd_T45 y202 x62_2).f1), .string ((rd_T45 y202 x62_2).f2), .slice A206_3 ((rd_T45 y202 x62_2).f3).length c206_3] 45 (0, 0)) (by (with_reducible repeat (first | refine blk_drewN ?_ _ | refine blk_drew ?_ | refine blk_alloc ?_ _)); exact BK207.out) hg (Kd.R_ne HO_13.out BK207.out (by decide))); have n3_ := am ((by rw [hw]; exact below_set (HB.out) GB40.out : Below w.heap.size w w42)); clear HO_10; clear HO_13; clear BK207; clear HB; have HO_10 := n0_; have HO_13 := n1_; have BK207 := n2_; have HB := n3_; clear n0_ n1_ n2_ n3_; clear hg hw hp_))
              (try simp only [← hl13_3])
              go_roundg k3
              case measure => have := HJ3.out; have := HK2.out; have := HK3.out; omega
              case rel => exact ⟨(y212), (wrap64 (x71_3 + 1)), (by first | rfl | (simp; done) | (simp [*]; done)), H', ⟨by have := HJ3.out; have := HK2.out; have := HK3.out; omega⟩, ⟨by (try simp only [hl13_3]); (with_reducible repeat (first | apply Kd.S_alloc | apply Kd.S_drewN | apply Kd.S_drew)); exact Kd.S_mono HO_10.out (fun _ hk => ⟨hk.2, hk.1⟩)⟩, ⟨by (try simp only [hl13_3]); (with_reducible repeat (first | apply Kd.R_alloc | apply Kd.R_drewN | apply Kd.R_drew)); exact HO_13.out⟩, ⟨by (try simp only [hl13_3]); (with_reducible repeat (first | refine blk_drewN ?_ _ | refine blk_drew ?_ | refine blk_alloc ?_ _)); exact BK207.out⟩, ⟨by repeat (first | (with_reducible first | exact HB.out | apply below_alloc | apply pw_below_drewN | apply below_drew1 | refine below_set ?_ GE207.out) | exact HB.out)⟩⟩
/-! ### sorrelref02_SameTexts: function 64 -/
def sorrelref02_SameTexts.l0 : Nat → List ByteArray → List ByteArray → Int → Option (Bool)
  | 0, _, _, _ => none
  | k + 1, x0, x1, x5 => if x5 < (x0.length : Int) then (if 0 ≤ x5 then (if x5 < (x1.length : Int) then (if (rdOf ByteArray.empty x0 x5).toList = (rdOf ByteArray.empty x1 x5).toList then (sorrelref02_SameTexts.l0 k x0 x1 (wrap64 (x5 + 1))) else (some false)) else (none)) else (none)) else (some true)
def sorrelref02_SameTexts.f (k : Nat) (l0 : List ByteArray) (l1 : List ByteArray) : Option (Bool) := if (l0.length : Int) = (l1.length : Int) then (sorrelref02_SameTexts.l0 k l0 l1 0) else (some false)
theorem sorrelref02_SameTexts.mono_l : ∀ k, (∀ y0 y1 y2, LeO (sorrelref02_SameTexts.l0 k y0 y1 y2) (sorrelref02_SameTexts.l0 (k + 1) y0 y1 y2))
  | 0 => fun _ _ _ r h => by simp [sorrelref02_SameTexts.l0] at h
  | k + 1 => by
    have ih0 := sorrelref02_SameTexts.mono_l k
    intro y0 y1 y2
    unfold sorrelref02_SameTexts.l0
    repeat' first
    | (with_reducible exact ih0 _ _ _)
    | (with_reducible exact LeO.refl _)
    | (with_reducible exact LeO.none _)
    | (with_reducible refine LeO.ite ?_ ?_)
    | (with_reducible refine LeO.bind ?_ (fun _ => ?_))
    | exact ih0 _ _ _
    | exact LeO.none _
    | refine LeO.ite ?_ ?_
    | refine LeO.bind ?_ (fun _ => ?_)
theorem sorrelref02_SameTexts.mono : ∀ a0 a1 k, LeO (sorrelref02_SameTexts.f k a0 a1) (sorrelref02_SameTexts.f (k + 1) a0 a1) := by
  intro a0 a1 k
  have ih0 := sorrelref02_SameTexts.mono_l k
  unfold sorrelref02_SameTexts.f
  repeat' first
      | (with_reducible exact ih0 _ _ _)
      | (with_reducible exact LeO.refl _)
      | (with_reducible exact LeO.none _)
      | (with_reducible refine LeO.ite ?_ ?_)
      | (with_reducible refine LeO.bind ?_ (fun _ => ?_))
      | exact ih0 _ _ _
      | exact LeO.none _
      | refine LeO.ite ?_ ?_
      | refine LeO.bind ?_ (fun _ => ?_)
set_option maxHeartbeats 8000000 in
set_option maxRecDepth 100000 in
theorem sorrelref02_SameTexts.calls (k : Nat) (A0 : Option Addr) (c0 : Nat) (l0 : List ByteArray) (A1 : Option Addr) (c1 : Nat) (l1 : List ByteArray) (r : Bool) (w : World) (hr0 : Kd.C Kd.string w A0 l0.length l0) (hc0 : l0.length ≤ c0) (hr1 : Kd.C Kd.string w A1 l1.length l1) (hc1 : l1.length ≤ c1) (h : sorrelref02_SameTexts.f k l0 l1 = some r) :
    Calls Tryd.prog 64 #[.slice A0 l0.length c0, .slice A1 l1.length c1] w fun e w' => e = .returned (.bool r) ∧ Drawn0 w w' := by
  have HR0 := am hr0
  have HC0 := am hc0
  clear hr0 hc0
  have HR1 := am hr1
  have HC1 := am hc1
  clear hr1 hc1
  have H : (if (l0.length : Int) = (l1.length : Int) then (sorrelref02_SameTexts.l0 k l0 l1 0) else (some false)) = some r := h
  clear h
  by_cases c3 : (l0.length : Int) = (l1.length : Int)
  rotate_left
  · rw [if_neg c3] at H
    have c3b0 : ((l0.length : Int) == (l1.length : Int)) = false := beq_eq_false_iff_ne.mpr c3
    have c3b1 : ((l0.length : Int) != (l1.length : Int)) = true := bne_iff_ne.mpr c3
    have c3b2 : (l0.length == l1.length) = false := by first | simpa using c3 | (simp at c3 ⊢; omega)
    obtain rfl := Option.some.inj H
    go_enter Tryd.func64, Tryd.ntmps64
    go_wp2
    repeat (go_quiet (fail); try go_wp2)
    go_ret
    exact ⟨by first | rfl | (simp; done) | (simp [*]; done), by repeat (first | exact Drawn0.refl _ | apply Drawn0.step)⟩
  rw [if_pos c3] at H
  have c3b0 : ((l0.length : Int) == (l1.length : Int)) = true := beq_iff_eq.mpr c3
  have c3b1 : ((l0.length : Int) != (l1.length : Int)) = false := bne_eq_false_iff_eq.mpr c3
  have c3b2 : (l0.length == l1.length) = true := by first | simpa using c3 | (simp at c3 ⊢; omega)
  clear c3
  have H' := am H
  clear H
  go_enter Tryd.func64, Tryd.ntmps64
  go_wp2
  repeat (go_quiet (fail); try go_wp2)
  go_loopg [5] k (fun kq v5 w' => ∃ (x5_1 : Int), v5 = .int .i64 x5_1 ∧ Aside0 (sorrelref02_SameTexts.l0 kq l0 l1 x5_1 = some r) ∧ Aside0 (kq ≤ k) ∧ Drawn0 w w')
  case atStart => exact ⟨(0), (by first | rfl | (simp; done) | (simp [*]; done)), H', ⟨Nat.le_refl _⟩, by repeat (first | exact Drawn0.refl _ | apply Drawn0.step)⟩
  case round =>
    clear H'
    try clear c1
    try clear p2
    try clear c3
    try clear c3b0
    try clear c3b1
    try clear c3b2
    obtain ⟨x5_1, rfl, HA, HK1, ⟨m1, rfl⟩⟩ := hrel
    cases gk with
    | zero => exact absurd HA.out (by simp [sorrelref02_SameTexts.l0])
    | succ k1 =>
      have H := HA.out
      clear HA
      simp only [sorrelref02_SameTexts.l0] at H
      by_cases c4 : x5_1 < (l0.length : Int)
      rotate_left
      · rw [if_neg c4] at H
        have c4b0 : decide (x5_1 < (l0.length : Int)) = false := decide_eq_false c4
        clear c4
        obtain rfl := Option.some.inj H
        go_wp2
        repeat (go_quiet (fail); try go_wp2)
        go_ret
        exact ⟨by first | rfl | (simp; done) | (simp [*]; done), by repeat (first | exact Drawn0.refl _ | apply Drawn0.step)⟩
      rw [if_pos c4] at H
      have c4b0 : decide (x5_1 < (l0.length : Int)) = true := decide_eq_true c4
      clear c4
      by_cases c5 : 0 ≤ x5_1
      rotate_left
      · rw [if_neg c5] at H
        exact absurd H (by simp)
      rw [if_pos c5] at H
      have c5b0 : decide (0 ≤ x5_1) = true := decide_eq_true c5
      clear c5
      by_cases c6 : x5_1 < (l1.length : Int)
      rotate_left
      · rw [if_neg c6] at H
        exact absurd H (by simp)
      rw [if_pos c6] at H
      have c6b0 : decide (x5_1 < (l1.length : Int)) = true := decide_eq_true c6
      clear c6
      by_cases c7 : (rdOf ByteArray.empty l0 x5_1).toList = (rdOf ByteArray.empty l1 x5_1).toList
      rotate_left
      · rw [if_neg c7] at H
        have c7b0 : ((rdOf ByteArray.empty l0 x5_1).toList == (rdOf ByteArray.empty l1 x5_1).toList) = false := beq_eq_false_iff_ne.mpr c7
        have c7b1 : ((rdOf ByteArray.empty l0 x5_1).toList != (rdOf ByteArray.empty l1 x5_1).toList) = true := bne_iff_ne.mpr c7
        obtain rfl := Option.some.inj H
        have p216 : 0 ≤ (x5_1 : Int) := of_decide_eq_true (by first | (with_reducible assumption) | assumption)
        have q216 : x5_1 < (l0.length : Int) := of_decide_eq_true (by first | (with_reducible assumption) | assumption)
        obtain ⟨ad216, e216, hx216_0⟩ := Kd.at_string HR0.out x5_1 p216 q216
        cases e216
        replace p216 := eq_true p216
        replace q216 := eq_true q216
        have p217 : 0 ≤ (x5_1 : Int) := of_decide_eq_true (by first | (with_reducible assumption) | assumption)
        have q217 : x5_1 < (l1.length : Int) := of_decide_eq_true (by first | (with_reducible assumption) | assumption)
        obtain ⟨ad217, e217, hx217_0⟩ := Kd.at_string HR1.out x5_1 p217 q217
        cases e217
        replace p217 := eq_true p217
        replace q217 := eq_true q217
        go_wp2
        repeat (go_quiet (fail); try go_wp2)
        go_ret
        exact ⟨by first | rfl | (simp; done) | (simp [*]; done), by repeat (first | exact Drawn0.refl _ | apply Drawn0.step)⟩
      rw [if_pos c7] at H
      have c7b0 : ((rdOf ByteArray.empty l0 x5_1).toList == (rdOf ByteArray.empty l1 x5_1).toList) = true := beq_iff_eq.mpr c7
      have c7b1 : ((rdOf ByteArray.empty l0 x5_1).toList != (rdOf ByteArray.empty l1 x5_1).toList) = false := bne_eq_false_iff_eq.mpr c7
      clear c7
      have H' := am H
      clear H
      have p216 : 0 ≤ (x5_1 : Int) := of_decide_eq_true (by first | (with_reducible assumption) | assumption)
      have q216 : x5_1 < (l0.length : Int) := of_decide_eq_true (by first | (with_reducible assumption) | assumption)
      obtain ⟨ad216, e216, hx216_0⟩ := Kd.at_string HR0.out x5_1 p216 q216
      cases e216
      replace p216 := eq_true p216
      replace q216 := eq_true q216
      have p217 : 0 ≤ (x5_1 : Int) := of_decide_eq_true (by first | (with_reducible assumption) | assumption)
      have q217 : x5_1 < (l1.length : Int) := of_decide_eq_true (by first | (with_reducible assumption) | assumption)
      obtain ⟨ad217, e217, hx217_0⟩ := Kd.at_string HR1.out x5_1 p217 q217
      cases e217
      replace p217 := eq_true p217
      replace q217 := eq_true q217
      go_wp2
      repeat (go_quiet (fail); try go_wp2)
      go_roundg k1
      case measure => have := HK1.out; omega
      case rel => exact ⟨(wrap64 (x5_1 + 1)), (by first | rfl | (simp; done) | (simp [*]; done)), H', ⟨by have := HK1.out; omega⟩, by repeat (first | exact Drawn0.refl _ | apply Drawn0.step)⟩
end Go.Proofs.YtacjjfoelhckcaaDoor.PExprPlays
