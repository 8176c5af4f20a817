/- Contracts of functions, printed by the session's own changed copy of the print generator (see its notes); the plain functions tell what the calls answer. -/
import Derived.Test.YtacjjfoelhckcaaDoorPExprPlaysx0
import Derived.Test.YtacjjfoelhckcaaDoorPExprPlaysx2
namespace Go.Proofs.YtacjjfoelhckcaaDoor.PExprPlays
open Go.RowKit Go.Proofs.YtacjjfoelhckcaaDoorW.PrintWords Go.Proofs.YtacjjfoelhckcaaDoorW.PrintLast Go.Proofs.YtacjjfoelhckcaaDoorW.PrintMore
attribute [local go_sem] max2_int min2_int max_two min_two max_three min_three max_four min_four   -- for this text's walks alone
set_option linter.unusedVariables false
set_option linter.unusedSimpArgs false
/-! ### expr_Depth: function 68 -/
mutual
def expr_Depth.l0 : Nat → List (S45) → List Int → List (S45) → Int → Int → Option (Int × Int)
  | 0, _, _, _, _, _ => none
  | k + 1, x0, x4, x15, x16, x17 => if x17 < x16 then (if 0 ≤ x17 then (if x17 < (x15.length : Int) then (expr_Depth.l1 k x0 x4 x17 x15 x16 x17 ((rd_T45 x15 x17).f3) (((rd_T45 x15 x17).f3).length : Int) 0) else (none)) else (none)) else (if 0 ≤ (wrap64 ((x0.length : Int) - 1)) then (if (wrap64 ((x0.length : Int) - 1)) < (x4.length : Int) then (some (rd x4 (wrap64 ((x0.length : Int) - 1)), 0)) else (none)) else (none))
def expr_Depth.l1 : Nat → List (S45) → List Int → Int → List (S45) → Int → Int → List Int → Int → Int → Option (Int × Int)
  | 0, _, _, _, _, _, _, _, _, _ => none
  | k + 1, x0, x4, x5, x15, x16, x17, x23, x24, x25 => if x25 < x24 then (if 0 ≤ x25 then (if x25 < (x23.length : Int) then (if 0 ≤ x5 then (if x5 < (x4.length : Int) then (if 0 ≤ (rd x23 x25) then (if (rd x23 x25) < (x4.length : Int) then (expr_Depth.l1 k x0 (x4.set (x5 : Int).toNat (mx (rd x4 x5) (rd x4 (rd x23 x25)))) x5 x15 x16 x17 x23 x24 (wrap64 (x25 + 1))) else (none)) else (none)) else (none)) else (none)) else (none)) else (none)) else (if 0 ≤ x5 then (if x5 < (x4.length : Int) then (expr_Depth.l0 k x0 (x4.set (x5 : Int).toNat (wrap64 ((rd x4 x5) + 1))) x15 x16 (wrap64 (x17 + 1))) else (none)) else (none))
end
def expr_Depth.f (k : Nat) (l0 : List (S45)) : Option (Int × Int) := (expr_Check.f k l0).bind fun t218 => (if t218 = 0 then (if 0 ≤ (l0.length : Int) then (if ((l0.length : Int) : Int).toNat ≤ 35184372088832 then (expr_Depth.l0 k l0 (List.replicate ((l0.length : Int) : Int).toNat 0) l0 (l0.length : Int) 0) else (none)) else (none)) else (some (0, 1)))
theorem expr_Depth.mono_l : ∀ k, (∀ y0 y1 y2 y3 y4, LeO (expr_Depth.l0 k y0 y1 y2 y3 y4) (expr_Depth.l0 (k + 1) y0 y1 y2 y3 y4)) ∧ (∀ y0 y1 y2 y3 y4 y5 y6 y7 y8, LeO (expr_Depth.l1 k y0 y1 y2 y3 y4 y5 y6 y7 y8) (expr_Depth.l1 (k + 1) y0 y1 y2 y3 y4 y5 y6 y7 y8))
  | 0 => ⟨fun _ _ _ _ _ r h => by simp [expr_Depth.l0] at h, fun _ _ _ _ _ _ _ _ _ r h => by simp [expr_Depth.l1] at h⟩
  | k + 1 => by
    obtain ⟨ih0, ih1⟩ := expr_Depth.mono_l k
    refine ⟨?_, ?_⟩
    rotate_left
    · intro y0 y1 y2 y3 y4 y5 y6 y7 y8
      unfold expr_Depth.l1
      repeat' first
      | (with_reducible exact ih0 _ _ _ _ _)
      | (with_reducible exact ih1 _ _ _ _ _ _ _ _ _)
      | (with_reducible exact expr_Check.mono _ _)
      | (with_reducible exact LeO.refl _)
      | (with_reducible exact LeO.none _)
      | (with_reducible refine LeO.ite ?_ ?_)
      | (with_reducible refine LeO.bind ?_ (fun _ => ?_))
      | exact ih0 _ _ _ _ _
      | exact ih1 _ _ _ _ _ _ _ _ _
      | exact expr_Check.mono _ _
      | exact LeO.none _
      | refine LeO.ite ?_ ?_
      | refine LeO.bind ?_ (fun _ => ?_)
    intro y0 y1 y2 y3 y4
    unfold expr_Depth.l0
    repeat' first
    | (with_reducible exact ih0 _ _ _ _ _)
    | (with_reducible exact ih1 _ _ _ _ _ _ _ _ _)
    | (with_reducible exact expr_Check.mono _ _)
    | (with_reducible exact LeO.refl _)
    | (with_reducible exact LeO.none _)
    | (with_reducible refine LeO.ite ?_ ?_)
    | (with_reducible refine LeO.bind ?_ (fun _ => ?_))
    | exact ih0 _ _ _ _ _
    | exact ih1 _ _ _ _ _ _ _ _ _
    | exact expr_Check.mono _ _
    | exact LeO.none _
    | refine LeO.ite ?_ ?_
    | refine LeO.bind ?_ (fun _ => ?_)
theorem expr_Depth.mono : ∀ a0 k, LeO (expr_Depth.f k a0) (expr_Depth.f (k + 1) a0) := by
  intro a0 k
  obtain ⟨ih0, ih1⟩ := expr_Depth.mono_l k
  unfold expr_Depth.f
  repeat' first
      | (with_reducible exact ih0 _ _ _ _ _)
      | (with_reducible exact ih1 _ _ _ _ _ _ _ _ _)
      | (with_reducible exact expr_Check.mono _ _)
      | (with_reducible exact LeO.refl _)
      | (with_reducible exact LeO.none _)
      | (with_reducible refine LeO.ite ?_ ?_)
      | (with_reducible refine LeO.bind ?_ (fun _ => ?_))
      | exact ih0 _ _ _ _ _
      | exact ih1 _ _ _ _ _ _ _ _ _
      | exact expr_Check.mono _ _
      | exact LeO.none _
      | refine LeO.ite ?_ ?_
      | refine LeO.bind ?_ (fun _ => ?_)
def expr_Depth.T10 : Bool × List (List Nat × List Nat) := (true, [([], []), ([], []), ([], []), ([], []), ([2, 3], [2, 3]), ([4], [4]), ([], []), ([], []), ([6, 7], [6, 7]), ([8], [8]), ([5, 9], [5, 9]), ([0, 1, 0, 1, 2, 3, 4, 5, 6, 7, 8, 9, 10], [0, 1]), ([11, 10, 0, 1, 2, 3, 4, 5, 6, 7, 8, 9, 10], [10, 11])])
def expr_Depth.B10 : List Nat := [0, 0, 0, 0, 12, 28, 0, 0, 192, 448, 1020, 2047, 4095]
theorem expr_Depth.tab10 : rtab .any (opsOf Tryd.f68 10) = expr_Depth.T10 := by kernel_rfl
theorem expr_Depth.bits10 : waitsOk expr_Depth.T10.2 expr_Depth.B10 = true := by kernel_rfl
set_option maxHeartbeats 8000000 in
set_option maxRecDepth 100000 in
theorem expr_Depth.calls (k : Nat) (A0 : Option Addr) (c0 : Nat) (l0 : List (S45)) (r1 : Int) (r2 : Int) (w : World) (hr0 : Kd.C k45 w A0 l0.length l0) (hc0 : l0.length ≤ c0) (hG : GL w) (h : expr_Depth.f k l0 = some (r1, r2)) :
    Calls Tryd.prog 68 #[.slice A0 l0.length c0] w fun e w' => e = .returned (.tuple #[.int .i64 r1, .int .i64 r2]) ∧ Below w.heap.size w w' := by
  have hu45 := Tryd.underlying45
  have HG := am hG
  clear hG
  have HR0 := am hr0
  have HC0 := am hc0
  clear hr0 hc0
  have HB := am (Below.refl w.heap.size w)
  have H : ((expr_Check.f k l0).bind fun t218 => (if t218 = 0 then (if 0 ≤ (l0.length : Int) then (if ((l0.length : Int) : Int).toNat ≤ 35184372088832 then (expr_Depth.l0 k l0 (List.replicate ((l0.length : Int) : Int).toNat 0) l0 (l0.length : Int) 0) else (none)) else (none)) else (some (0, 1)))) = some (r1, r2) := h
  clear h
  replace H := Option.bind_eq_some_iff.mp H
  obtain ⟨t218, A20, H⟩ := H
  replace H : (if t218 = 0 then (if 0 ≤ (l0.length : Int) then (if ((l0.length : Int) : Int).toNat ≤ 35184372088832 then (expr_Depth.l0 k l0 (List.replicate ((l0.length : Int) : Int).toNat 0) l0 (l0.length : Int) 0) else (none)) else (none)) else (some (0, 1))) = some (r1, r2) := H
  have A2 := am A20
  clear A20
  by_cases c3 : t218 = 0
  rotate_left
  · rw [if_neg c3] at H
    have c3b0 : (t218 == 0) = false := beq_eq_false_iff_ne.mpr c3
    have c3b1 : (t218 != 0) = true := bne_iff_ne.mpr c3
    simp only [Option.some.injEq, Prod.mk.injEq] at H
    obtain ⟨rfl, rfl⟩ := H
    go_enter Tryd.func68, Tryd.ntmps68
    go_wp2_with (first | ((with_reducible refine gate_callee (f := 51) rfl ?_); refine goesL_ (some 10) rfl rfl Tryd.func51 (by kernel_rfl) rfl #[.slice A0 l0.length c0] rfl (by (try simp only [List.map_toArray, List.map_cons, List.map_nil]); first | done | rfl | (simp only [List.length_drop, List.length_take]; rfl)) ?_; (with_reducible refine (expr_Check.calls k _ _ l0 t218 _ ?side1 ?side2 ?side3 A2.out).mono ?_); (case side1 => repeat (first | exact HR0.out | (with_reducible refine Kd.C_alloc ?_ _) | (with_reducible refine Kd.C_drewN ?_ _) | (with_reducible refine Kd.C_drew ?_))); (case side2 => exact HC0.out); (case side3 => first | exact GL.below HG.out (by repeat (first | (with_reducible first | exact HB.out | apply below_alloc | apply pw_below_drewN | apply below_drew1) | exact HB.out)) | exact HG.out); rintro e w36 ⟨rfl, hb⟩; refine ⟨_, rfl, ?_⟩; have n0_ := am (below_step (by repeat (first | (with_reducible first | exact HB.out | apply below_alloc | apply pw_below_drewN | apply below_drew1) | exact HB.out)) hb); clear HB; have HB := n0_; clear n0_; (try clear hb); (try clear hb2); (try clear hk); (try clear hi)))
    go_ret2
    exact ⟨by first | rfl | (simp [errW_none, errW_some] <;> rfl) | (simp [*, errW_none, errW_some] <;> rfl), by repeat (first | (with_reducible first | exact HB.out | apply below_alloc | apply pw_below_drewN | apply below_drew1) | exact HB.out)⟩
  rw [if_pos c3] at H
  have c3b0 : (t218 == 0) = true := beq_iff_eq.mpr c3
  have c3b1 : (t218 != 0) = false := bne_eq_false_iff_eq.mpr c3
  clear c3
  by_cases c4 : 0 ≤ (l0.length : Int)
  rotate_left
  · rw [if_neg c4] at H
    exact absurd H (by simp)
  rw [if_pos c4] at H
  have c4b0 := eq_true c4
  have c4b1 : decide (0 ≤ (l0.length : Int)) = true := decide_eq_true c4
  clear c4
  by_cases c5 : ((l0.length : Int) : Int).toNat ≤ 35184372088832
  rotate_left
  · rw [if_neg c5] at H
    exact absurd H (by simp)
  rw [if_pos c5] at H
  have c5b0 := eq_true c5
  have c5b1 : decide (((l0.length : Int) : Int).toNat ≤ 35184372088832) = true := decide_eq_true c5
  clear c5
  obtain ⟨y219, hy219⟩ : ∃ y_ : List Int, y_ = (List.replicate ((l0.length : Int) : Int).toNat 0) := ⟨_, rfl⟩
  replace H : (expr_Depth.l0 k l0 y219 l0 (l0.length : Int) 0) = some (r1, r2) := by first | (rw [hy219]; with_reducible exact H) | (have H2_ := (Option.bind_some _ _).symm.trans H; rw [hy219]; with_reducible exact H2_) | (have H2_ := (Option.bind_some _ _).symm.trans H; with_reducible exact H2_) | with_reducible exact H | (rw [hy219]; exact H) | exact H
  have Ny219 := am hy219
  clear hy219
  have H' := am H
  clear H
  go_enter Tryd.func68, Tryd.ntmps68
  go_wp2_with (first | ((with_reducible refine gate_callee (f := 51) rfl ?_); refine goesL_ (some 10) rfl rfl Tryd.func51 (by kernel_rfl) rfl #[.slice A0 l0.length c0] rfl (by (try simp only [List.map_toArray, List.map_cons, List.map_nil]); first | done | rfl | (simp only [List.length_drop, List.length_take]; rfl)) ?_; (with_reducible refine (expr_Check.calls k _ _ l0 t218 _ ?side1 ?side2 ?side3 A2.out).mono ?_); (case side1 => repeat (first | exact HR0.out | (with_reducible refine Kd.C_alloc ?_ _) | (with_reducible refine Kd.C_drewN ?_ _) | (with_reducible refine Kd.C_drew ?_))); (case side2 => exact HC0.out); (case side3 => first | exact GL.below HG.out (by repeat (first | (with_reducible first | exact HB.out | apply below_alloc | apply pw_below_drewN | apply below_drew1) | exact HB.out)) | exact HG.out); rintro e w6 ⟨rfl, hb⟩; refine ⟨_, rfl, ?_⟩; have n0_ := am (below_step (by repeat (first | (with_reducible first | exact HB.out | apply below_alloc | apply pw_below_drewN | apply below_drew1) | exact HB.out)) hb); clear HB; have HB := n0_; clear n0_; (try clear hb); (try clear hb2); (try clear hk); (try clear hi)) | ((with_reducible refine gate_dst (N := 14) rfl ?_); refine Kd.R_make (Kd.int .i64) _ 3 rfl (N := 14) rfl 43 _ _ rfl (l0.length : Int) rfl rfl Tryd.underlying43 (.int .i64 0) 8 info3 rfl (by decide) (by omega) 0 (ok := fun _ => True) (okp := fun _ => True) rfl (fun _ hk => hk) trivial (of_decide_eq_true (by first | (with_reducible assumption) | assumption)) (Nat.le_trans (Nat.mul_le_mul_right _ (of_decide_eq_true (by first | (with_reducible assumption) | assumption) : (l0.length : Int).toNat ≤ 35184372088832)) (by omega)) (Below.refl _ _) (Nat.le_refl _) ?_; intro v220 w7 ho8 hb hg_ hnew_; clear hg_ hnew_; (first | rw [← Ny219.out] at ho8 | (simp only [Int.reduceToNat] at ho8; rw [← Ny219.out] at ho8)); have n0_ := am (Kd.R_lower ho8 (below_size (by repeat (first | (with_reducible first | exact HB.out | apply below_alloc | apply pw_below_drewN | apply below_drew1) | exact HB.out)))); have n1_ := am (below_step (by repeat (first | (with_reducible first | exact HB.out | apply below_alloc | apply pw_below_drewN | apply below_drew1) | exact HB.out)) hb); clear HB; have HO221 := n0_; have HB := n1_; clear n0_ n1_; clear hb ho8))
  go_loopg [17] k (fun kq v17 w' => ∃ (x4_1 : List Int) (x17_1 : Int), v17 = .int .i64 x17_1 ∧ Aside0 (expr_Depth.l0 kq l0 x4_1 l0 (l0.length : Int) x17_1 = some (r1, r2)) ∧ Aside0 (kq ≤ k) ∧ Aside0 (Kd.R (Kd.int .i64) 3 w' w.heap.size (fun _ => True) v220 x4_1) ∧ Aside0 (Below w.heap.size w w'))
  case atStart => exact ⟨(y219), (0), (by first | rfl | (simp; done) | (simp [*]; done)), H', ⟨Nat.le_refl _⟩, ⟨by (with_reducible repeat (first | apply Kd.R_alloc | apply Kd.R_drewN | apply Kd.R_drew)); exact HO221.out⟩, ⟨by repeat (first | (with_reducible first | exact HB.out | apply below_alloc | apply pw_below_drewN | apply below_drew1) | exact HB.out)⟩⟩
  case round =>
    clear H'
    try clear p2
    try clear c3
    try clear c3b0
    try clear c3b1
    try clear c4
    try clear c4b0
    try clear c4b1
    try clear c5
    try clear c5b0
    try clear c5b1
    try clear c6
    obtain ⟨x4_1, x17_1, rfl, HA, HK1, HO_4, HB⟩ := hrel
    cases gk with
    | zero => exact absurd HA.out (by simp [expr_Depth.l0])
    | succ k1 =>
      have H := HA.out
      clear HA
      simp only [expr_Depth.l0] at H
      by_cases c9 : x17_1 < (l0.length : Int)
      rotate_left
      · rw [if_neg c9] at H
        have c9b0 : decide (x17_1 < (l0.length : Int)) = false := decide_eq_false c9
        clear c9
        obtain ⟨ji32, hji32⟩ : ∃ j_ : Int, (wrap64 ((l0.length : Int) - 1)) = j_ := ⟨_, rfl⟩
        replace H : (if 0 ≤ (ji32) then (if (ji32) < (x4_1.length : Int) then (some (rd x4_1 (ji32), 0)) else (none)) else (none)) = some (r1, r2) := by first | (rw [hji32] at H; exact H) | (simp only [hji32] at H ⊢; exact H)
        have hji32w : (IntKind.i64.wrap ((l0.length : Int) - 1)) = ji32 := (i64_w _).trans hji32
        by_cases c33 : 0 ≤ (ji32)
        rotate_left
        · rw [if_neg c33] at H
          exact absurd H (by simp)
        rw [if_pos c33] at H
        have c33b0 : decide (0 ≤ (ji32)) = true := decide_eq_true c33
        clear c33
        by_cases c34 : (ji32) < (x4_1.length : Int)
        rotate_left
        · rw [if_neg c34] at H
          exact absurd H (by simp)
        rw [if_pos c34] at H
        have c34b0 : decide ((ji32) < (x4_1.length : Int)) = true := decide_eq_true c34
        clear c34
        simp only [Option.some.injEq, Prod.mk.injEq] at H
        obtain ⟨rfl, rfl⟩ := H
        obtain ⟨Ao35, co35, eo35⟩ := Kd.R_slice HO_4.out
        subst eo35
        have p222 : 0 ≤ ((ji32) : Int) := of_decide_eq_true (by first | (with_reducible assumption) | assumption)
        have q222 : (ji32) < (x4_1.length : Int) := of_decide_eq_true (by first | (with_reducible assumption) | assumption)
        obtain ⟨ad222, e222, hx222_0⟩ := Kd.at_int (Kd.R_reads' HO_4.out).2.2 (ji32) p222 q222
        cases e222
        replace p222 := eq_true p222
        replace q222 := eq_true q222
        go_wp2
        go_ret2
        exact ⟨by first | rfl | (simp [errW_none, errW_some] <;> rfl) | (simp only [← hji32]; first | rfl | (simp [errW_none, errW_some] <;> rfl)) | (simp [*, errW_none, errW_some] <;> rfl), by repeat (first | (with_reducible first | exact HB.out | apply below_alloc | apply pw_below_drewN | apply below_drew1) | exact HB.out)⟩
      rw [if_pos c9] at H
      have c9b0 : decide (x17_1 < (l0.length : Int)) = true := decide_eq_true c9
      clear c9
      by_cases c10 : 0 ≤ x17_1
      rotate_left
      · rw [if_neg c10] at H
        exact absurd H (by simp)
      rw [if_pos c10] at H
      have c10b0 : decide (0 ≤ x17_1) = true := decide_eq_true c10
      clear c10
      by_cases c11 : x17_1 < (l0.length : Int)
      rotate_left
      · rw [if_neg c11] at H
        exact absurd H (by simp)
      rw [if_pos c11] at H
      have c11b0 : decide (x17_1 < (l0.length : Int)) = true := decide_eq_true c11
      clear c11
      have H' := am H
      clear H
      have p223 : 0 ≤ (x17_1 : Int) := of_decide_eq_true (by first | (with_reducible assumption) | assumption)
      have q223 : x17_1 < (l0.length : Int) := of_decide_eq_true (by first | (with_reducible assumption) | assumption)
      obtain ⟨ad223, A223_3, c223_3, e223, hx223_0, hx223_1, hx223_2, hx223_3, hl223_3, hi223_3⟩ := at_T45 HR0.out x17_1 p223 q223
      cases e223
      replace hx223_0 := (HB.out.cell (World.block_lt_of_cell? w _ hx223_0)).trans hx223_0
      replace hx223_1 := (HB.out.cell (World.block_lt_of_cell? w _ hx223_1)).trans hx223_1
      replace hx223_2 := (HB.out.cell (World.block_lt_of_cell? w _ hx223_2)).trans hx223_2
      replace hx223_3 := (HB.out.cell (World.block_lt_of_cell? w _ hx223_3)).trans hx223_3
      have HR223_3 := am hi223_3
      have HC223_3 := am hl223_3
      clear hi223_3 hl223_3
      replace p223 := eq_true p223
      replace q223 := eq_true q223
      go_wp2_with (first | ((with_reducible refine gate_dst (N := 6) rfl ?_); refine box_event ?hg (N := 6) ?hd (cs := #[.int .i64 0, .int .i64 0, .string (⟨#[]⟩ : ByteArray), .slice none 0 0]) (t := 45) ?hr ?_; (case hd => rfl); (case hg => rfl); (case hr => first | (go_simp; done) | (go_simp; rfl)); intro gb224 hg w12 hbox hb; have n0_ := am (Kd.R_below (by (with_reducible repeat (first | apply Kd.R_alloc | apply Kd.R_drewN | apply Kd.R_drew)); exact HO_4.out) hb); have n1_ := am (below_step (by repeat (first | (with_reducible first | exact HB.out | apply below_alloc | apply pw_below_drewN | apply below_drew1) | exact HB.out)) hb); have n2_ := am (hbox); have n3_ := am ((by rw [hg]; exact (below_size (by repeat (first | (with_reducible first | exact HB.out | apply below_alloc | apply pw_below_drewN | apply below_drew1) | exact HB.out))) : w.heap.size ≤ gb224)); have n4_ := am ((by rw [hg]; exact (below_size (by repeat (first | (with_reducible first | exact HB.out | apply below_alloc | apply pw_below_drewN | apply below_drew1) | exact HB.out))) : w.heap.size ≤ gb224)); clear HO_4; clear HB; have HO_4 := n0_; have HB := n1_; have BK224 := n2_; have GW224 := n3_; have GE224 := n4_; clear n0_ n1_ n2_ n3_ n4_; clear hb hbox hg; have hcz13_0 : w12.cell? ⟨gb224, 0, none⟩ = some (.int .i64 0) := (blk_cell BK224.out 0).trans rfl; have hcz13_1 : w12.cell? ⟨gb224, 1, none⟩ = some (.int .i64 0) := (blk_cell BK224.out 1).trans rfl; have hcz13_2 : w12.cell? ⟨gb224, 2, none⟩ = some (.string (⟨#[]⟩ : ByteArray)) := (blk_cell BK224.out 2).trans rfl; have hcz13_3 : w12.cell? ⟨gb224, 3, none⟩ = some (.slice none 0 0) := (blk_cell BK224.out 3).trans rfl; have hfz13_0 := blk_frozen BK224.out 0; have hfz13_1 := blk_frozen BK224.out 1; have hfz13_2 := blk_frozen BK224.out 2; have hfz13_3 := blk_frozen BK224.out 3))
      go_loopg [25] k1 (fun kq v25 w' => ∃ (x4_2 : List Int) (x25_2 : Int), v25 = .int .i64 x25_2 ∧ Aside0 (expr_Depth.l1 kq l0 x4_2 x17_1 l0 (l0.length : Int) x17_1 ((rd_T45 l0 x17_1).f3) (((rd_T45 l0 x17_1).f3).length : Int) x25_2 = some (r1, r2)) ∧ Aside0 (kq ≤ k1) ∧ Aside0 (Kd.R (Kd.int .i64) 3 w' w.heap.size (fun _ => True) v220 x4_2) ∧ Aside0 (w'.heap[gb224]? = some (.cells #[.int .i64 ((rd_T45 l0 x17_1).f0), .int .i64 ((rd_T45 l0 x17_1).f1), .string ((rd_T45 l0 x17_1).f2), (.slice A223_3 ((rd_T45 l0 x17_1).f3).length c223_3)] 45 (0, 0))) ∧ Aside0 (Below w.heap.size w w'))
      case atStart => exact ⟨(x4_1), (0), (by first | rfl | (simp; done) | (simp [*]; done)), H', ⟨Nat.le_refl _⟩, ⟨by (with_reducible repeat (first | apply Kd.R_alloc | apply Kd.R_drewN | apply Kd.R_drew)); exact Kd.R_mono (Kd.R_far (p := ⟨gb224, 3, none⟩) (Kd.R_far (p := ⟨gb224, 2, none⟩) (Kd.R_far (p := ⟨gb224, 1, none⟩) (Kd.R_far (p := ⟨gb224, 0, none⟩) (Kd.R_types HO_4.out BK224.out (by decide)) (fun _ hk => hk.2) (.int .i64 ((rd_T45 l0 x17_1).f0))) (fun _ hk => hk.2) (.int .i64 ((rd_T45 l0 x17_1).f1))) (fun _ hk => hk.2) (.string ((rd_T45 l0 x17_1).f2))) (fun _ hk => hk.2) (.slice A223_3 ((rd_T45 l0 x17_1).f3).length c223_3)) (fun _ hk => trivial)⟩, ⟨by (with_reducible repeat (first | refine blk_drewN ?_ _ | refine blk_drew ?_ | refine blk_alloc ?_ _)); refine blk_put (cs := #[.int .i64 ((rd_T45 l0 x17_1).f0), .int .i64 ((rd_T45 l0 x17_1).f1), .string ((rd_T45 l0 x17_1).f2), .slice none 0 0]) ?_ 3 _ rfl; (with_reducible repeat (first | refine blk_drewN ?_ _ | refine blk_drew ?_ | refine blk_alloc ?_ _)); refine blk_put (cs := #[.int .i64 ((rd_T45 l0 x17_1).f0), .int .i64 ((rd_T45 l0 x17_1).f1), .string (⟨#[]⟩ : ByteArray), .slice none 0 0]) ?_ 2 _ rfl; (with_reducible repeat (first | refine blk_drewN ?_ _ | refine blk_drew ?_ | refine blk_alloc ?_ _)); refine blk_put (cs := #[.int .i64 ((rd_T45 l0 x17_1).f0), .int .i64 0, .string (⟨#[]⟩ : ByteArray), .slice none 0 0]) ?_ 1 _ rfl; (with_reducible repeat (first | refine blk_drewN ?_ _ | refine blk_drew ?_ | refine blk_alloc ?_ _)); refine blk_put (cs := #[.int .i64 0, .int .i64 0, .string (⟨#[]⟩ : ByteArray), .slice none 0 0]) ?_ 0 _ rfl; (with_reducible repeat (first | refine blk_drewN ?_ _ | refine blk_drew ?_ | refine blk_alloc ?_ _)); exact BK224.out⟩, ⟨by repeat (first | (with_reducible first | exact HB.out | apply below_alloc | apply pw_below_drewN | apply below_drew1 | refine below_set ?_ GE224.out) | exact HB.out)⟩⟩
      case round =>
        clear H'
        try clear c1
        try clear c2
        try clear p2
        try clear q2
        try clear hx2
        try clear c3
        try clear c3b0
        try clear c3b1
        try clear c4
        try clear c4b0
        try clear c4b1
        try clear c5
        try clear c5b0
        try clear c5b1
        try clear c6
        try clear c9
        try clear c9b0
        try clear c10
        try clear c10b0
        try clear c11
        try clear c11b0
        try clear hcz13_0
        try clear hcz13_1
        try clear hcz13_2
        try clear hcz13_3
        try clear hfz13_0
        try clear hfz13_1
        try clear hfz13_2
        try clear hfz13_3
        try clear hx223_0
        try clear hx223_1
        try clear hx223_2
        try clear hx223_3
        try clear p2
        try clear p223
        try clear q223
        obtain ⟨x4_2, x25_2, rfl, HA, HK2, HO_4, BK224, HB⟩ := hrel
        cases gk with
        | zero => exact absurd HA.out (by simp [expr_Depth.l1])
        | succ k2 =>
          have H := HA.out
          clear HA
          simp only [expr_Depth.l1] at H
          by_cases c14 : x25_2 < (((rd_T45 l0 x17_1).f3).length : Int)
          rotate_left
          · rw [if_neg c14] at H
            have c14b0 : decide (x25_2 < (((rd_T45 l0 x17_1).f3).length : Int)) = false := decide_eq_false c14
            clear c14
            by_cases c26 : 0 ≤ x17_1
            rotate_left
            · rw [if_neg c26] at H
              exact absurd H (by simp)
            rw [if_pos c26] at H
            have c26b0 : decide (0 ≤ x17_1) = true := decide_eq_true c26
            clear c26
            by_cases c27 : x17_1 < (x4_2.length : Int)
            rotate_left
            · rw [if_neg c27] at H
              exact absurd H (by simp)
            rw [if_pos c27] at H
            have c27b0 : decide (x17_1 < (x4_2.length : Int)) = true := decide_eq_true c27
            clear c27
            obtain ⟨y230, hy230⟩ : ∃ y_ : List Int, y_ = (x4_2.set (x17_1 : Int).toNat (wrap64 ((rd x4_2 x17_1) + 1))) := ⟨_, rfl⟩
            replace H : (expr_Depth.l0 k2 l0 y230 l0 (l0.length : Int) (wrap64 (x17_1 + 1))) = some (r1, r2) := by first | (rw [hy230]; with_reducible exact H) | (have H2_ := (Option.bind_some _ _).symm.trans H; rw [hy230]; with_reducible exact H2_) | (have H2_ := (Option.bind_some _ _).symm.trans H; with_reducible exact H2_) | with_reducible exact H | (rw [hy230]; exact H) | exact H
            have Ny230 := am hy230
            clear hy230
            have H' := am H
            clear H
            obtain ⟨Ao29, co29, eo29⟩ := Kd.R_slice HO_4.out
            subst eo29
            have p229 : 0 ≤ (x17_1 : Int) := of_decide_eq_true (by first | (with_reducible assumption) | assumption)
            have q229 : x17_1 < (x4_2.length : Int) := of_decide_eq_true (by first | (with_reducible assumption) | assumption)
            obtain ⟨ad229, e229, hx229_0⟩ := Kd.at_int (Kd.R_reads' HO_4.out).2.2 x17_1 p229 q229
            cases e229
            replace p229 := eq_true p229
            replace q229 := eq_true q229
            have p28 : 0 ≤ (x17_1 : Int) := of_decide_eq_true (by first | (with_reducible assumption) | assumption)
            have q28 : (x17_1 : Int) < ((x4_2.length : Int) : Int) := of_decide_eq_true (by first | (with_reducible assumption) | assumption)
            obtain ⟨go28, co28, eo28, gb28, gl28, cl28, HG28⟩ := Kd.R_form HO_4.out (by omega)
            (first | cases eo28 | (injection eo28 with ea_ en_ ec_; (first | subst ea_ | (injection ea_ with ea_; subst ea_)); subst ec_; clear en_))
            have GB28 := am gb28
            have GG28 := am HG28
            clear gb28 gl28 HG28
            (first | simp only [add_plain] at hx229_0 | skip)
            obtain ⟨hx28_0, hf28_0⟩ := Kd.R_celln 0 HO_4.out (x17_1 : Int) p28 q28
            replace p28 := eq_true p28
            replace q28 := eq_true q28
            have HP30 := Kd.R_putg HO_4.out (x17_1 : Int) (wrap64 ((rd x4_2 x17_1) + 1))
            go_wp2_with (first | ((with_reducible refine gate_store (t := 3) (p := 47) rfl ?_); refine store_event (t := 3) (p := 47) (v := ?vo_w31) (w1 := (wr.setCell ⟨go28, (x17_1 : Int).toNat, none⟩ (.int .i64 (wrap64 ((rd x4_2 x17_1) + 1))))) ?hg ?ho ?hn ?hr ?_; (case ho => rfl); (case hg => rfl); (case hn => rfl); (case hr => first | (go_simp; done) | (go_simp; rfl)); intro w31 hw; have hg : wr.grownBy w31 (some go28) := (by rw [hw]; exact HP30.2); have hp_ : Kd.R (Kd.int .i64) 3 w31 w.heap.size (fun _ => True) (.slice (some ⟨go28, 0, none⟩) x4_2.length co29) y230 := (by rw [hw, Ny230.out]; exact HP30.1); clear HP30; have n0_ := am (hp_); have n1_ := am (blk_grown (g := gb224) (o := .cells #[.int .i64 ((rd_T45 l0 x17_1).f0), .int .i64 ((rd_T45 l0 x17_1).f1), .string ((rd_T45 l0 x17_1).f2), .slice A223_3 ((rd_T45 l0 x17_1).f3).length c223_3] 45 (0, 0)) (by (with_reducible repeat (first | refine blk_drewN ?_ _ | refine blk_drew ?_ | refine blk_alloc ?_ _)); exact BK224.out) hg (Kd.R_ne HO_4.out BK224.out (by decide))); have n2_ := am ((by rw [hw]; exact below_set (HB.out) GB28.out : Below w.heap.size w w31)); clear HO_4; clear BK224; clear HB; have HO_4 := n0_; have BK224 := n1_; have HB := n2_; clear n0_ n1_ n2_; clear hg hw hp_))
            go_roundg k2
            case measure => have := HK1.out; have := HK2.out; omega
            case rel => exact ⟨(y230), (wrap64 (x17_1 + 1)), (by first | rfl | (simp; done) | (simp [*]; done)), H', ⟨by have := HK1.out; have := HK2.out; omega⟩, ⟨by (with_reducible repeat (first | apply Kd.R_alloc | apply Kd.R_drewN | apply Kd.R_drew)); exact HO_4.out⟩, ⟨by repeat (first | (with_reducible first | exact HB.out | apply below_alloc | apply pw_below_drewN | apply below_drew1 | refine below_set ?_ GE224.out) | exact HB.out)⟩⟩
          rw [if_pos c14] at H
          have c14b0 : decide (x25_2 < (((rd_T45 l0 x17_1).f3).length : Int)) = true := decide_eq_true c14
          clear c14
          by_cases c15 : 0 ≤ x25_2
          rotate_left
          · rw [if_neg c15] at H
            exact absurd H (by simp)
          rw [if_pos c15] at H
          have c15b0 : decide (0 ≤ x25_2) = true := decide_eq_true c15
          clear c15
          by_cases c16 : x25_2 < (((rd_T45 l0 x17_1).f3).length : Int)
          rotate_left
          · rw [if_neg c16] at H
            exact absurd H (by simp)
          rw [if_pos c16] at H
          have c16b0 : decide (x25_2 < (((rd_T45 l0 x17_1).f3).length : Int)) = true := decide_eq_true c16
          clear c16
          by_cases c17 : 0 ≤ x17_1
          rotate_left
          · rw [if_neg c17] at H
            exact absurd H (by simp)
          rw [if_pos c17] at H
          have c17b0 : decide (0 ≤ x17_1) = true := decide_eq_true c17
          clear c17
          by_cases c18 : x17_1 < (x4_2.length : Int)
          rotate_left
          · rw [if_neg c18] at H
            exact absurd H (by simp)
          rw [if_pos c18] at H
          have c18b0 : decide (x17_1 < (x4_2.length : Int)) = true := decide_eq_true c18
          clear c18
          by_cases c19 : 0 ≤ (rd ((rd_T45 l0 x17_1).f3) x25_2)
          rotate_left
          · rw [if_neg c19] at H
            exact absurd H (by simp)
          rw [if_pos c19] at H
          have c19b0 : decide (0 ≤ (rd ((rd_T45 l0 x17_1).f3) x25_2)) = true := decide_eq_true c19
          clear c19
          by_cases c20 : (rd ((rd_T45 l0 x17_1).f3) x25_2) < (x4_2.length : Int)
          rotate_left
          · rw [if_neg c20] at H
            exact absurd H (by simp)
          rw [if_pos c20] at H
          have c20b0 : decide ((rd ((rd_T45 l0 x17_1).f3) x25_2) < (x4_2.length : Int)) = true := decide_eq_true c20
          clear c20
          obtain ⟨ji21, hji21⟩ : ∃ j_ : Int, (mx (rd x4_2 x17_1) (rd x4_2 (rd ((rd_T45 l0 x17_1).f3) x25_2))) = j_ := ⟨_, rfl⟩
          replace H : (expr_Depth.l1 k2 l0 (x4_2.set (x17_1 : Int).toNat (ji21)) x17_1 l0 (l0.length : Int) x17_1 ((rd_T45 l0 x17_1).f3) (((rd_T45 l0 x17_1).f3).length : Int) (wrap64 (x25_2 + 1))) = some (r1, r2) := by first | (rw [hji21] at H; exact H) | (simp only [hji21] at H ⊢; exact H)
          have hji21_ : (if (rd x4_2 x17_1) < (rd x4_2 (rd ((rd_T45 l0 x17_1).f3) x25_2)) then (rd x4_2 (rd ((rd_T45 l0 x17_1).f3) x25_2)) else (rd x4_2 x17_1)) = ji21 := hji21
          obtain ⟨y228, hy228⟩ : ∃ y_ : List Int, y_ = (x4_2.set (x17_1 : Int).toNat (ji21)) := ⟨_, rfl⟩
          replace H : (expr_Depth.l1 k2 l0 y228 x17_1 l0 (l0.length : Int) x17_1 ((rd_T45 l0 x17_1).f3) (((rd_T45 l0 x17_1).f3).length : Int) (wrap64 (x25_2 + 1))) = some (r1, r2) := by first | (rw [hy228]; with_reducible exact H) | (have H2_ := (Option.bind_some _ _).symm.trans H; rw [hy228]; with_reducible exact H2_) | (have H2_ := (Option.bind_some _ _).symm.trans H; with_reducible exact H2_) | with_reducible exact H | (rw [hy228]; exact H) | exact H
          have Ny228 := am hy228
          clear hy228
          have H' := am H
          clear H
          have p225 : 0 ≤ (x25_2 : Int) := of_decide_eq_true (by first | (with_reducible assumption) | assumption)
          have q225 : x25_2 < (((rd_T45 l0 x17_1).f3).length : Int) := of_decide_eq_true (by first | (with_reducible assumption) | assumption)
          obtain ⟨ad225, e225, hx225_0⟩ := Kd.at_int HR223_3.out x25_2 p225 q225
          cases e225
          replace hx225_0 := (HB.out.cell (World.block_lt_of_cell? w _ hx225_0)).trans hx225_0
          replace p225 := eq_true p225
          replace q225 := eq_true q225
          try go_wp2
          have n0_ := am (Kd.R_drew HO_4.out)
          have n1_ := am (blk_drew BK224.out)
          have n2_ := am (below_drew1 HB.out)
          clear HO_4
          clear BK224
          clear HB
          have HO_4 := n0_
          have BK224 := n1_
          have HB := n2_
          clear n0_ n1_ n2_
          obtain ⟨Ao24, co24, eo24⟩ := Kd.R_slice HO_4.out
          (first | subst eo24 | (injection eo24 with f1_ f2_ f3_; have f4_ := f1_.symm; have f5_ := f3_.symm; clear f1_ f2_ f3_; subst f4_; subst f5_))
          have p226 : 0 ≤ (x17_1 : Int) := of_decide_eq_true (by first | (with_reducible assumption) | assumption)
          have q226 : x17_1 < (x4_2.length : Int) := of_decide_eq_true (by first | (with_reducible assumption) | assumption)
          obtain ⟨ad226, e226, hx226_0⟩ := Kd.at_int (Kd.R_reads' HO_4.out).2.2 x17_1 p226 q226
          cases e226
          replace p226 := eq_true p226
          replace q226 := eq_true q226
          have p227 : 0 ≤ ((rd ((rd_T45 l0 x17_1).f3) x25_2) : Int) := of_decide_eq_true (by first | (with_reducible assumption) | assumption)
          have q227 : (rd ((rd_T45 l0 x17_1).f3) x25_2) < (x4_2.length : Int) := of_decide_eq_true (by first | (with_reducible assumption) | assumption)
          obtain ⟨ad227, e227, hx227_0⟩ := Kd.at_int (Kd.R_reads' HO_4.out).2.2 (rd ((rd_T45 l0 x17_1).f3) x25_2) p227 q227
          obtain rfl : ad226 = ad227 := (by injection e227)
          replace p227 := eq_true p227
          replace q227 := eq_true q227
          have p22 : 0 ≤ (x17_1 : Int) := of_decide_eq_true (by first | (with_reducible assumption) | assumption)
          have q22 : (x17_1 : Int) < ((x4_2.length : Int) : Int) := of_decide_eq_true (by first | (with_reducible assumption) | assumption)
          obtain ⟨go22, co22, eo22, gb22, gl22, cl22, HG22⟩ := Kd.R_form HO_4.out (by omega)
          (first | cases eo22 | (injection eo22 with ea_ en_ ec_; (first | subst ea_ | (injection ea_ with ea_; subst ea_)); subst ec_; clear en_))
          have GB22 := am gb22
          have GG22 := am HG22
          clear gb22 gl22 HG22
          (first | simp only [add_plain] at hx226_0 | skip)
          (first | simp only [add_plain] at hx227_0 | skip)
          obtain ⟨hx22_0, hf22_0⟩ := Kd.R_celln 0 HO_4.out (x17_1 : Int) p22 q22
          replace p22 := eq_true p22
          replace q22 := eq_true q22
          have HP25 := Kd.R_putn HO_4.out (x17_1 : Int) ji21
          rw [← Ny228.out] at HP25
          have HQ25 := am HP25
          clear HP25
          refine start_ (n := 13) (S := fun w' => w'.cell? ⟨go22, (x17_1).toNat, none⟩ = some (.int .i64 (rd x4_2 x17_1)) ∧ w'.cell? ⟨go22, ((rd ((rd_T45 l0 x17_1).f3) x25_2)).toNat, none⟩ = some (.int .i64 (rd x4_2 (rd ((rd_T45 l0 x17_1).f3) x25_2)))) (ds := [12]) #[false, false, false, false, false, false, false, false, false, false, false, false, false] (by kernel_rfl) rfl rfl ⟨hx226_0, hx227_0⟩ (fun hHeld => ?_); refine with_tabW expr_Depth.tab10 expr_Depth.bits10 (fun HT_ HW_ => ?_)
          generalize wr.drew = w23 at HO_4 BK224 HB GG22 HQ25 hf22_0 hx226_0 hx227_0 hx22_0 hHeld ⊢
          refine pure_ (i := 0) (N := some 29) (v := ?_) (a' := ?_) #[true, false, false, false, false, false, false, false, false, false, false, false, false] rfl rfl (any_of HT_.out (by kernel_rfl)) (fun _ _ _ h => h) (Or.inl ⟨by rfl, ?_⟩) ?_ ?_
          rotate_left
          · intro w'
            go_simp
            with_reducible rfl
          rotate_left
          · simp only [Act.put, List.setIfInBounds_toArray, List.set_cons_zero, List.set_cons_succ, i64_w, i32_w]
            rfl
          refine pure_ (i := 1) (N := some 30) (v := ?_) (a' := ?_) #[true, true, false, false, false, false, false, false, false, false, false, false, false] rfl rfl (any_of HT_.out (by kernel_rfl)) (fun _ _ _ h => h) (Or.inl ⟨by rfl, ?_⟩) ?_ ?_
          rotate_left
          · intro w'
            go_simp
            with_reducible rfl
          rotate_left
          · simp only [Act.put, List.setIfInBounds_toArray, List.set_cons_zero, List.set_cons_succ, i64_w, i32_w]
            rfl
          refine pure_ (i := 2) (N := some 31) (v := ?_) (a' := ?_) #[true, true, true, false, false, false, false, false, false, false, false, false, false] rfl rfl (any_of HT_.out (by kernel_rfl)) (fun _ _ _ h => h) (Or.inl ⟨by rfl, ?_⟩) ?_ ?_
          rotate_left
          · intro w'
            go_simp
            with_reducible rfl
          rotate_left
          · simp only [Act.put, List.setIfInBounds_toArray, List.set_cons_zero, List.set_cons_succ, i64_w, i32_w]
            rfl
          refine pure_ (i := 3) (N := some 32) (v := ?_) (a' := ?_) #[true, true, true, true, false, false, false, false, false, false, false, false, false] rfl rfl (any_of HT_.out (by kernel_rfl)) (fun _ _ _ h => h) (Or.inl ⟨by rfl, ?_⟩) ?_ ?_
          rotate_left
          · intro w'
            go_simp
            with_reducible rfl
          rotate_left
          · simp only [Act.put, List.setIfInBounds_toArray, List.set_cons_zero, List.set_cons_succ, i64_w, i32_w]
            rfl
          refine pure_ (i := 4) (N := some 33) (v := ?_) (a' := ?_) #[true, true, true, true, true, false, false, false, false, false, false, false, false] rfl rfl (any_of HT_.out (by kernel_rfl)) (fun _ _ _ h => h) (Or.inl ⟨by rfl, ?_⟩) ?_ ?_
          rotate_left
          · intro w'
            go_simp
            with_reducible rfl
          rotate_left
          · simp only [Act.put, List.setIfInBounds_toArray, List.set_cons_zero, List.set_cons_succ, i64_w, i32_w]
            rfl
          refine pure_ (i := 6) (N := some 35) (v := ?_) (a' := ?_) #[true, true, true, true, true, false, true, false, false, false, false, false, false] rfl rfl (any_of HT_.out (by kernel_rfl)) (fun _ _ _ h => h) (Or.inl ⟨by rfl, ?_⟩) ?_ ?_
          rotate_left
          · intro w'
            go_simp
            with_reducible rfl
          rotate_left
          · simp only [Act.put, List.setIfInBounds_toArray, List.set_cons_zero, List.set_cons_succ, i64_w, i32_w]
            rfl
          refine pure_ (i := 7) (N := some 36) (v := ?_) (a' := ?_) #[true, true, true, true, true, false, true, true, false, false, false, false, false] rfl rfl (any_of HT_.out (by kernel_rfl)) (fun _ _ _ h => h) (Or.inl ⟨by rfl, ?_⟩) ?_ ?_
          rotate_left
          · intro w'
            go_simp
            with_reducible rfl
          rotate_left
          · simp only [Act.put, List.setIfInBounds_toArray, List.set_cons_zero, List.set_cons_succ, i64_w, i32_w]
            rfl
          refine pure_ (i := 8) (N := some 37) (v := ?_) (a' := ?_) #[true, true, true, true, true, false, true, true, true, false, false, false, false] rfl rfl (any_of HT_.out (by kernel_rfl)) (fun _ _ _ h => h) (Or.inl ⟨by rfl, ?_⟩) ?_ ?_
          rotate_left
          · intro w'
            go_simp
            with_reducible rfl
          rotate_left
          · simp only [Act.put, List.setIfInBounds_toArray, List.set_cons_zero, List.set_cons_succ, i64_w, i32_w]
            rfl
          refine take_ (i := 5) (N := some 34) (v := ?_) (a' := ?_) #[true, true, true, true, true, true, true, true, true, false, false, false, false] rfl rfl (take_ofW HT_.out HW_.out (by kernel_rfl)) (fun _ _ _ h => h) (Or.inl ⟨by rfl, ?_⟩) hHeld ?_ ?_
          rotate_left
          · rintro w' ⟨s0, s1⟩
            go_simp
            with_reducible rfl
          rotate_left
          · simp only [Act.put, List.setIfInBounds_toArray, List.set_cons_zero, List.set_cons_succ, i64_w, i32_w]
            rfl
          refine take_ (i := 9) (N := some 38) (v := ?_) (a' := ?_) #[true, true, true, true, true, true, true, true, true, true, false, false, false] rfl rfl (take_ofW HT_.out HW_.out (by kernel_rfl)) (fun _ _ _ h => h) (Or.inl ⟨by rfl, ?_⟩) hHeld ?_ ?_
          rotate_left
          · rintro w' ⟨s0, s1⟩
            go_simp
            with_reducible rfl
          rotate_left
          · simp only [Act.put, List.setIfInBounds_toArray, List.set_cons_zero, List.set_cons_succ, i64_w, i32_w]
            rfl
          refine pure_ (i := 10) (N := some 39) (v := ?_) (a' := ?_) #[true, true, true, true, true, true, true, true, true, true, true, false, false] rfl rfl (any_of HT_.out (by kernel_rfl)) (fun _ _ _ h => h) (Or.inl ⟨by rfl, ?_⟩) ?_ ?_
          rotate_left
          · intro w'
            go_simp
            with_reducible rfl
          rotate_left
          · simp only [Act.put, List.setIfInBounds_toArray, List.set_cons_zero, List.set_cons_succ, i64_w, i32_w]
            rfl
          refine pure_ (i := 11) (N := some 40) (v := ?_) (a' := ?_) #[true, true, true, true, true, true, true, true, true, true, true, true, false] rfl rfl (any_of HT_.out (by kernel_rfl)) (fun _ _ _ h => h) (Or.inl ⟨by rfl, ?_⟩) ?_ ?_
          rotate_left
          · intro w'
            go_simp
            with_reducible rfl
          rotate_left
          · simp only [Act.put, List.setIfInBounds_toArray, List.set_cons_zero, List.set_cons_succ, i64_w, i32_w]
            rfl
          refine last_ (i := 12) (N := none) #[true, true, true, true, true, true, true, true, true, true, true, true, true] rfl rfl (one_of HT_.out (by kernel_rfl)) (by decide) (fun K hK => ?_)
          refine skip_ (w1 := ?_) (by rfl) rfl ?_ ?_
          rotate_left
          · go_simp
            rfl
          refine hK.out _ _ ?_
          clear hK K
          refine done_ (done_of HT_.out (by kernel_rfl)) ?_
          try go_wp2
          go_roundg k2
          case measure => have := HK1.out; have := HK2.out; omega
          case rel => exact ⟨(y228), (wrap64 (x25_2 + 1)), (by first | rfl | (simp; done) | (simp [*]; done)), H', ⟨by have := HK1.out; have := HK2.out; omega⟩, ⟨by (with_reducible repeat (first | apply Kd.R_alloc | apply Kd.R_drewN | apply Kd.R_drew)); exact HQ25.out⟩, ⟨by (with_reducible repeat (first | refine blk_drewN ?_ _ | refine blk_drew ?_ | refine blk_alloc ?_ _)); refine blk_far ?_ (by have h_ := Kd.R_ne HO_4.out BK224.out (by decide); intro e_; exact h_ (by rw [e_]; rfl)) _; (with_reducible repeat (first | refine blk_drewN ?_ _ | refine blk_drew ?_ | refine blk_alloc ?_ _)); exact BK224.out⟩, ⟨by repeat (first | (with_reducible first | exact HB.out | apply below_alloc | apply pw_below_drewN | apply below_drew1 | refine below_set ?_ GB22.out | refine below_set ?_ GE224.out) | exact HB.out)⟩⟩
/-! ### expr_Vars: function 69 -/
def expr_Vars.l0 : Nat → List ByteArray → List (S45) → Int → Int → Option (List ByteArray × Int)
  | 0, _, _, _, _ => none
  | k + 1, x4, x10, x11, x12 => if x12 < x11 then (if 0 ≤ x12 then (if x12 < (x10.length : Int) then (if ((rd_T45 x10 x12).f0) = 2 then (if x4.length < 8796093022208 then (expr_Vars.l0 k (x4 ++ [(rd_T45 x10 x12).f2]) x10 x11 (wrap64 (x12 + 1))) else (none)) else (expr_Vars.l0 k x4 x10 x11 (wrap64 (x12 + 1)))) else (none)) else (none)) else ((vars_tail.f x4).bind fun t237 => (some (t237, 0)))
def expr_Vars.f (k : Nat) (l0 : List (S45)) : Option (List ByteArray × Int) := (expr_Check.f k l0).bind fun t231 => (if t231 = 0 then (expr_Vars.l0 k ([] : List ByteArray) l0 (l0.length : Int) 0) else (some (([] : List ByteArray), 1)))
theorem expr_Vars.mono_l : ∀ k, (∀ y0 y1 y2 y3, LeO (expr_Vars.l0 k y0 y1 y2 y3) (expr_Vars.l0 (k + 1) y0 y1 y2 y3))
  | 0 => fun _ _ _ _ r h => by simp [expr_Vars.l0] at h
  | k + 1 => by
    have ih0 := expr_Vars.mono_l k
    intro y0 y1 y2 y3
    unfold expr_Vars.l0
    repeat' first
    | (with_reducible exact ih0 _ _ _ _)
    | (with_reducible exact expr_Check.mono _ _)
    | (with_reducible exact LeO.refl _)
    | (with_reducible exact LeO.none _)
    | (with_reducible refine LeO.ite ?_ ?_)
    | (with_reducible refine LeO.bind ?_ (fun _ => ?_))
    | exact ih0 _ _ _ _
    | exact expr_Check.mono _ _
    | exact LeO.none _
    | refine LeO.ite ?_ ?_
    | refine LeO.bind ?_ (fun _ => ?_)
theorem expr_Vars.mono : ∀ a0 k, LeO (expr_Vars.f k a0) (expr_Vars.f (k + 1) a0) := by
  intro a0 k
  have ih0 := expr_Vars.mono_l k
  unfold expr_Vars.f
  repeat' first
      | (with_reducible exact ih0 _ _ _ _)
      | (with_reducible exact expr_Check.mono _ _)
      | (with_reducible exact LeO.refl _)
      | (with_reducible exact LeO.none _)
      | (with_reducible refine LeO.ite ?_ ?_)
      | (with_reducible refine LeO.bind ?_ (fun _ => ?_))
      | exact ih0 _ _ _ _
      | exact expr_Check.mono _ _
      | exact LeO.none _
      | refine LeO.ite ?_ ?_
      | refine LeO.bind ?_ (fun _ => ?_)
set_option maxHeartbeats 8000000 in
set_option maxRecDepth 100000 in
theorem expr_Vars.calls (k : Nat) (A0 : Option Addr) (c0 : Nat) (l0 : List (S45)) (r1 : List ByteArray) (r2 : Int) (w : World) (hr0 : Kd.C k45 w A0 l0.length l0) (hc0 : l0.length ≤ c0) (hG : GL w) (h : expr_Vars.f k l0 = some (r1, r2)) :
    Calls Tryd.prog 69 #[.slice A0 l0.length c0] w fun e w' => ∃ v0_ : Value, e = .returned (.tuple #[v0_, .int .i64 r2]) ∧ Kd.R Kd.string 9 w' w.heap.size (fun _ => True) v0_ r1 ∧ Below w.heap.size w w' := by
  have hu45 := Tryd.underlying45
  have HG := am hG
  clear hG
  have HR0 := am hr0
  have HC0 := am hc0
  clear hr0 hc0
  have HB := am (Below.refl w.heap.size w)
  have H : ((expr_Check.f k l0).bind fun t231 => (if t231 = 0 then (expr_Vars.l0 k ([] : List ByteArray) l0 (l0.length : Int) 0) else (some (([] : List ByteArray), 1)))) = some (r1, r2) := h
  clear h
  replace H := Option.bind_eq_some_iff.mp H
  obtain ⟨t231, A20, H⟩ := H
  replace H : (if t231 = 0 then (expr_Vars.l0 k ([] : List ByteArray) l0 (l0.length : Int) 0) else (some (([] : List ByteArray), 1))) = some (r1, r2) := H
  have A2 := am A20
  clear A20
  by_cases c3 : t231 = 0
  rotate_left
  · rw [if_neg c3] at H
    have c3b0 : (t231 == 0) = false := beq_eq_false_iff_ne.mpr c3
    have c3b1 : (t231 != 0) = true := bne_iff_ne.mpr c3
    simp only [Option.some.injEq, Prod.mk.injEq] at H
    obtain ⟨rfl, rfl⟩ := H
    go_enter Tryd.func69, Tryd.ntmps69
    go_wp2_with (first | ((with_reducible refine gate_callee (f := 51) rfl ?_); refine goesL_ (some 8) rfl rfl Tryd.func51 (by kernel_rfl) rfl #[.slice A0 l0.length c0] rfl (by (try simp only [List.map_toArray, List.map_cons, List.map_nil]); first | done | rfl | (simp only [List.length_drop, List.length_take]; rfl)) ?_; (with_reducible refine (expr_Check.calls k _ _ l0 t231 _ ?side1 ?side2 ?side3 A2.out).mono ?_); (case side1 => repeat (first | exact HR0.out | (with_reducible refine Kd.C_alloc ?_ _) | (with_reducible refine Kd.C_drewN ?_ _) | (with_reducible refine Kd.C_drew ?_))); (case side2 => exact HC0.out); (case side3 => first | exact GL.below HG.out (by repeat (first | (with_reducible first | exact HB.out | apply below_alloc | apply pw_below_drewN | apply below_drew1) | exact HB.out)) | exact HG.out); rintro e w18 ⟨rfl, hb⟩; refine ⟨_, rfl, ?_⟩; have n0_ := am (below_step (by repeat (first | (with_reducible first | exact HB.out | apply below_alloc | apply pw_below_drewN | apply below_drew1) | exact HB.out)) hb); clear HB; have HB := n0_; clear n0_; (try clear hb); (try clear hb2); (try clear hk); (try clear hi)))
    go_ret2
    exact ⟨_, by first | rfl | (simp [errW_none, errW_some] <;> rfl) | (simp [*, errW_none, errW_some] <;> rfl), by first | exact Kd.R_nil _ _ _ _ _ | exact Kd.N_nil _ _ _ _ _ | exact Kd.V_nil _ _ _ _ _ | exact Kd.Q_nil _ _ _ _ _ | exact Kd.S_nil _ _ _ _ _, by repeat (first | (with_reducible first | exact HB.out | apply below_alloc | apply pw_below_drewN | apply below_drew1) | exact HB.out)⟩
  rw [if_pos c3] at H
  have c3b0 : (t231 == 0) = true := beq_iff_eq.mpr c3
  have c3b1 : (t231 != 0) = false := bne_eq_false_iff_eq.mpr c3
  clear c3
  have H' := am H
  clear H
  go_enter Tryd.func69, Tryd.ntmps69
  go_wp2_with (first | ((with_reducible refine gate_callee (f := 51) rfl ?_); refine goesL_ (some 8) rfl rfl Tryd.func51 (by kernel_rfl) rfl #[.slice A0 l0.length c0] rfl (by (try simp only [List.map_toArray, List.map_cons, List.map_nil]); first | done | rfl | (simp only [List.length_drop, List.length_take]; rfl)) ?_; (with_reducible refine (expr_Check.calls k _ _ l0 t231 _ ?side1 ?side2 ?side3 A2.out).mono ?_); (case side1 => repeat (first | exact HR0.out | (with_reducible refine Kd.C_alloc ?_ _) | (with_reducible refine Kd.C_drewN ?_ _) | (with_reducible refine Kd.C_drew ?_))); (case side2 => exact HC0.out); (case side3 => first | exact GL.below HG.out (by repeat (first | (with_reducible first | exact HB.out | apply below_alloc | apply pw_below_drewN | apply below_drew1) | exact HB.out)) | exact HG.out); rintro e w4 ⟨rfl, hb⟩; refine ⟨_, rfl, ?_⟩; have n0_ := am (below_step (by repeat (first | (with_reducible first | exact HB.out | apply below_alloc | apply pw_below_drewN | apply below_drew1) | exact HB.out)) hb); clear HB; have HB := n0_; clear n0_; (try clear hb); (try clear hb2); (try clear hk); (try clear hi)))
  go_loopg [4, 12] k (fun kq v4 v12 w' => ∃ (x4_1 : List ByteArray) (x12_1 : Int), v12 = .int .i64 x12_1 ∧ Aside0 (expr_Vars.l0 kq x4_1 l0 (l0.length : Int) x12_1 = some (r1, r2)) ∧ Aside0 (kq ≤ k) ∧ Aside0 (Kd.R Kd.string 9 w' w.heap.size (fun _ => True) v4 x4_1) ∧ Aside0 (Below w.heap.size w w'))
  case atStart => exact ⟨(([] : List ByteArray)), (0), (by first | rfl | (simp; done) | (simp [*]; done)), H', ⟨Nat.le_refl _⟩, ⟨by first | exact Kd.R_nil _ _ _ _ _ | exact Kd.N_nil _ _ _ _ _ | exact Kd.V_nil _ _ _ _ _ | exact Kd.Q_nil _ _ _ _ _ | exact Kd.S_nil _ _ _ _ _⟩, ⟨by repeat (first | (with_reducible first | exact HB.out | apply below_alloc | apply pw_below_drewN | apply below_drew1) | exact HB.out)⟩⟩
  case round =>
    clear H'
    try clear p2
    try clear c3
    try clear c3b0
    try clear c3b1
    obtain ⟨x4_1, x12_1, rfl, HA, HK1, HO_4, HB⟩ := hrel
    cases gk with
    | zero => exact absurd HA.out (by simp [expr_Vars.l0])
    | succ k1 =>
      have H := HA.out
      clear HA
      simp only [expr_Vars.l0] at H
      by_cases c5 : x12_1 < (l0.length : Int)
      rotate_left
      · rw [if_neg c5] at H
        have c5b0 : decide (x12_1 < (l0.length : Int)) = false := decide_eq_false c5
        clear c5
        replace H := Option.bind_eq_some_iff.mp H
        obtain ⟨t237, A150, H⟩ := H
        replace H : (some (t237, 0)) = some (r1, r2) := H
        have A15 := am A150
        clear A150
        simp only [Option.some.injEq, Prod.mk.injEq] at H
        obtain ⟨rfl, rfl⟩ := H
        obtain ⟨Ao16, co16, eo16⟩ := Kd.R_slice HO_4.out
        subst eo16
        have hf_ := A15.out
        unfold vars_tail.f at hf_
        split at hf_
        rotate_left
        · cases hf_
        rename_i hc_
        clear A15
        obtain rfl := Option.some.inj hf_
        clear hf_
        have hok_ : ∀ x ∈ x4_1, okName x = true := fun x hx => List.all_eq_true.1 hc_.1 x hx
        have hl_ := hc_.2
        clear hc_
        have HK_ := am hok_
        have HL_ := am hl_
        clear hok_ hl_
        go_wp2_with (first | ((with_reducible refine gate_callee (f := 116) rfl ?_); refine goesL_ (some 26) rfl rfl Tryd.func116 (by kernel_rfl) rfl #[.slice Ao16 x4_1.length co16, .func (.func 117) #[] #[]] rfl (by (try simp only [List.map_toArray, List.map_cons, List.map_nil]); first | done | rfl) ?_; (refine (sort_own HO_4.out HK_.out HL_.out HB.out.size).mono ?_); rintro e ws1_ ⟨rfl, ho0, hb⟩; refine ⟨_, rfl, ?_⟩; have HS_ := am ho0; have n0_ := am (Below.trans HB.out hb); clear HB ho0 hb; have HB := n0_; clear n0_) | ((with_reducible refine gate_callee (f := 118) rfl ?_); refine goesL_ (some 28) rfl rfl Tryd.func118 (by kernel_rfl) rfl #[.slice Ao16 x4_1.length co16] rfl (by (try simp only [List.map_toArray, List.map_cons, List.map_nil]); first | done | rfl) ?_; (refine (comp_own_n (sortN_len x4_1) HS_.out HB.out.size).mono ?_); rintro e ws2_ ⟨vs_, rfl, ho0, hb⟩; refine ⟨_, rfl, ?_⟩; have HO239 := am ho0; have n0_ := am (Below.trans HB.out hb); clear HB ho0 hb; have HB := n0_; clear n0_))
        go_ret2
        exact ⟨_, by first | rfl | (simp [errW_none, errW_some] <;> rfl) | (simp [*, errW_none, errW_some] <;> rfl), by (with_reducible repeat (first | apply Kd.R_alloc | apply Kd.R_drewN | apply Kd.R_drew)); exact Kd.R_mono HO239.out (fun _ hk => trivial), by repeat (first | (with_reducible first | exact HB.out | apply below_alloc | apply pw_below_drewN | apply below_drew1) | exact HB.out)⟩
      rw [if_pos c5] at H
      have c5b0 : decide (x12_1 < (l0.length : Int)) = true := decide_eq_true c5
      clear c5
      by_cases c6 : 0 ≤ x12_1
      rotate_left
      · rw [if_neg c6] at H
        exact absurd H (by simp)
      rw [if_pos c6] at H
      have c6b0 : decide (0 ≤ x12_1) = true := decide_eq_true c6
      clear c6
      by_cases c7 : x12_1 < (l0.length : Int)
      rotate_left
      · rw [if_neg c7] at H
        exact absurd H (by simp)
      rw [if_pos c7] at H
      have c7b0 : decide (x12_1 < (l0.length : Int)) = true := decide_eq_true c7
      clear c7
      by_cases c8 : ((rd_T45 l0 x12_1).f0) = 2
      rotate_left
      · rw [if_neg c8] at H
        have c8b0 : (((rd_T45 l0 x12_1).f0) == 2) = false := beq_eq_false_iff_ne.mpr c8
        have c8b1 : (((rd_T45 l0 x12_1).f0) != 2) = true := bne_iff_ne.mpr c8
        have H' := am H
        clear H
        have p232 : 0 ≤ (x12_1 : Int) := of_decide_eq_true (by first | (with_reducible assumption) | assumption)
        have q232 : x12_1 < (l0.length : Int) := of_decide_eq_true (by first | (with_reducible assumption) | assumption)
        obtain ⟨ad232, A232_3, c232_3, e232, hx232_0, hx232_1, hx232_2, hx232_3, hl232_3, hi232_3⟩ := at_T45 HR0.out x12_1 p232 q232
        cases e232
        replace hx232_0 := (HB.out.cell (World.block_lt_of_cell? w _ hx232_0)).trans hx232_0
        replace hx232_1 := (HB.out.cell (World.block_lt_of_cell? w _ hx232_1)).trans hx232_1
        replace hx232_2 := (HB.out.cell (World.block_lt_of_cell? w _ hx232_2)).trans hx232_2
        replace hx232_3 := (HB.out.cell (World.block_lt_of_cell? w _ hx232_3)).trans hx232_3
        have HR232_3 := am hi232_3
        have HC232_3 := am hl232_3
        clear hi232_3 hl232_3
        replace p232 := eq_true p232
        replace q232 := eq_true q232
        go_wp2_with (first | ((with_reducible refine gate_dst (N := 6) rfl ?_); refine box_event ?hg (N := 6) ?hd (cs := #[.int .i64 0, .int .i64 0, .string (⟨#[]⟩ : ByteArray), .slice none 0 0]) (t := 45) ?hr ?_; (case hd => rfl); (case hg => rfl); (case hr => first | (go_simp; done) | (go_simp; rfl)); intro gb233 hg w13 hbox hb; have n0_ := am (Kd.R_below (by (with_reducible repeat (first | apply Kd.R_alloc | apply Kd.R_drewN | apply Kd.R_drew)); exact HO_4.out) hb); have n1_ := am (below_step (by repeat (first | (with_reducible first | exact HB.out | apply below_alloc | apply pw_below_drewN | apply below_drew1) | exact HB.out)) hb); have n2_ := am (hbox); have n3_ := am ((by rw [hg]; exact (below_size (by repeat (first | (with_reducible first | exact HB.out | apply below_alloc | apply pw_below_drewN | apply below_drew1) | exact HB.out))) : w.heap.size ≤ gb233)); have n4_ := am ((by rw [hg]; exact (below_size (by repeat (first | (with_reducible first | exact HB.out | apply below_alloc | apply pw_below_drewN | apply below_drew1) | exact HB.out))) : w.heap.size ≤ gb233)); clear HO_4; clear HB; have HO_4 := n0_; have HB := n1_; have BK233 := n2_; have GW233 := n3_; have GE233 := n4_; clear n0_ n1_ n2_ n3_ n4_; clear hb hbox hg; have hcz14_0 : w13.cell? ⟨gb233, 0, none⟩ = some (.int .i64 0) := (blk_cell BK233.out 0).trans rfl; have hcz14_1 : w13.cell? ⟨gb233, 1, none⟩ = some (.int .i64 0) := (blk_cell BK233.out 1).trans rfl; have hcz14_2 : w13.cell? ⟨gb233, 2, none⟩ = some (.string (⟨#[]⟩ : ByteArray)) := (blk_cell BK233.out 2).trans rfl; have hcz14_3 : w13.cell? ⟨gb233, 3, none⟩ = some (.slice none 0 0) := (blk_cell BK233.out 3).trans rfl; have hfz14_0 := blk_frozen BK233.out 0; have hfz14_1 := blk_frozen BK233.out 1; have hfz14_2 := blk_frozen BK233.out 2; have hfz14_3 := blk_frozen BK233.out 3))
        go_roundg k1
        case measure => have := HK1.out; omega
        case rel => exact ⟨(x4_1), (wrap64 (x12_1 + 1)), (by first | rfl | (simp; done) | (simp [*]; done)), H', ⟨by have := HK1.out; omega⟩, ⟨by (with_reducible repeat (first | apply Kd.R_alloc | apply Kd.R_drewN | apply Kd.R_drew)); exact Kd.R_mono (Kd.R_far (p := ⟨gb233, 3, none⟩) (Kd.R_far (p := ⟨gb233, 2, none⟩) (Kd.R_far (p := ⟨gb233, 1, none⟩) (Kd.R_far (p := ⟨gb233, 0, none⟩) (Kd.R_types HO_4.out BK233.out (by decide)) (fun _ hk => hk.2) (.int .i64 ((rd_T45 l0 x12_1).f0))) (fun _ hk => hk.2) (.int .i64 ((rd_T45 l0 x12_1).f1))) (fun _ hk => hk.2) (.string ((rd_T45 l0 x12_1).f2))) (fun _ hk => hk.2) (.slice A232_3 ((rd_T45 l0 x12_1).f3).length c232_3)) (fun _ hk => trivial)⟩, ⟨by repeat (first | (with_reducible first | exact HB.out | apply below_alloc | apply pw_below_drewN | apply below_drew1 | refine below_set ?_ GE233.out) | exact HB.out)⟩⟩
      rw [if_pos c8] at H
      have c8b0 : (((rd_T45 l0 x12_1).f0) == 2) = true := beq_iff_eq.mpr c8
      have c8b1 : (((rd_T45 l0 x12_1).f0) != 2) = false := bne_eq_false_iff_eq.mpr c8
      clear c8
      by_cases c9 : x4_1.length < 8796093022208
      rotate_left
      · rw [if_neg c9] at H
        exact absurd H (by simp)
      rw [if_pos c9] at H
      have LMc9 := am c9
      clear c9
      obtain ⟨y234, hy234⟩ : ∃ y_ : List ByteArray, y_ = (x4_1 ++ [(rd_T45 l0 x12_1).f2]) := ⟨_, rfl⟩
      replace H : (expr_Vars.l0 k1 y234 l0 (l0.length : Int) (wrap64 (x12_1 + 1))) = some (r1, r2) := by first | (rw [hy234]; with_reducible exact H) | (have H2_ := (Option.bind_some _ _).symm.trans H; rw [hy234]; with_reducible exact H2_) | (have H2_ := (Option.bind_some _ _).symm.trans H; with_reducible exact H2_) | with_reducible exact H | (rw [hy234]; exact H) | exact H
      have Ny234 := am hy234
      clear hy234
      have H' := am H
      clear H
      have p232 : 0 ≤ (x12_1 : Int) := of_decide_eq_true (by first | (with_reducible assumption) | assumption)
      have q232 : x12_1 < (l0.length : Int) := of_decide_eq_true (by first | (with_reducible assumption) | assumption)
      obtain ⟨ad232, A232_3, c232_3, e232, hx232_0, hx232_1, hx232_2, hx232_3, hl232_3, hi232_3⟩ := at_T45 HR0.out x12_1 p232 q232
      cases e232
      replace hx232_0 := (HB.out.cell (World.block_lt_of_cell? w _ hx232_0)).trans hx232_0
      replace hx232_1 := (HB.out.cell (World.block_lt_of_cell? w _ hx232_1)).trans hx232_1
      replace hx232_2 := (HB.out.cell (World.block_lt_of_cell? w _ hx232_2)).trans hx232_2
      replace hx232_3 := (HB.out.cell (World.block_lt_of_cell? w _ hx232_3)).trans hx232_3
      have HR232_3 := am hi232_3
      have HC232_3 := am hl232_3
      clear hi232_3 hl232_3
      replace p232 := eq_true p232
      replace q232 := eq_true q232
      go_wp2_with (first | ((with_reducible refine gate_dst (N := 6) rfl ?_); refine box_event ?hg (N := 6) ?hd (cs := #[.int .i64 0, .int .i64 0, .string (⟨#[]⟩ : ByteArray), .slice none 0 0]) (t := 45) ?hr ?_; (case hd => rfl); (case hg => rfl); (case hr => first | (go_simp; done) | (go_simp; rfl)); intro gb233 hg w10 hbox hb; have n0_ := am (Kd.R_below (by (with_reducible repeat (first | apply Kd.R_alloc | apply Kd.R_drewN | apply Kd.R_drew)); exact HO_4.out) hb); have n1_ := am (below_step (by repeat (first | (with_reducible first | exact HB.out | apply below_alloc | apply pw_below_drewN | apply below_drew1) | exact HB.out)) hb); have n2_ := am (hbox); have n3_ := am ((by rw [hg]; exact (below_size (by repeat (first | (with_reducible first | exact HB.out | apply below_alloc | apply pw_below_drewN | apply below_drew1) | exact HB.out))) : w.heap.size ≤ gb233)); have n4_ := am ((by rw [hg]; exact (below_size (by repeat (first | (with_reducible first | exact HB.out | apply below_alloc | apply pw_below_drewN | apply below_drew1) | exact HB.out))) : w.heap.size ≤ gb233)); clear HO_4; clear HB; have HO_4 := n0_; have HB := n1_; have BK233 := n2_; have GW233 := n3_; have GE233 := n4_; clear n0_ n1_ n2_ n3_ n4_; clear hb hbox hg; have hcz11_0 : w10.cell? ⟨gb233, 0, none⟩ = some (.int .i64 0) := (blk_cell BK233.out 0).trans rfl; have hcz11_1 : w10.cell? ⟨gb233, 1, none⟩ = some (.int .i64 0) := (blk_cell BK233.out 1).trans rfl; have hcz11_2 : w10.cell? ⟨gb233, 2, none⟩ = some (.string (⟨#[]⟩ : ByteArray)) := (blk_cell BK233.out 2).trans rfl; have hcz11_3 : w10.cell? ⟨gb233, 3, none⟩ = some (.slice none 0 0) := (blk_cell BK233.out 3).trans rfl; have hfz11_0 := blk_frozen BK233.out 0; have hfz11_1 := blk_frozen BK233.out 1; have hfz11_2 := blk_frozen BK233.out 2; have hfz11_3 := blk_frozen BK233.out 3) | ((with_reducible refine gate_builtin (b := .append) (xs := #[.tmp 19, .tmp 22]) rfl ?_); at_builtin; refine Kd.R_append Kd.string (w0 := w) w.heap.size rfl (.tmp 19) (.tmp 22) 37 9 (.string ⟨#[]⟩) 16 rfl Tryd.underlying37 info9 rfl (by decide) (by omega) u4 x4_1 ((rd_T45 l0 x12_1).f2) [.string ((rd_T45 l0 x12_1).f2)] (fun _ => True) (fun _ => False) rfl (by first | (go_simp; done) | (go_simp; rfl)) ?aP (fun _ hk => hk.elim) ?aF ?aO ?aB ?aS ?aL ?_; (case aP => exact rfl); (case aB => exact (by repeat (first | (with_reducible first | exact HB.out | apply below_alloc | apply pw_below_drewN | apply below_drew1 | refine below_set ?_ GE233.out) | exact HB.out))); (case aF => exact (fun _ _ => trivial)); (case aO => exact (by (with_reducible repeat (first | apply Kd.R_alloc | apply Kd.R_drewN | apply Kd.R_drew)); exact Kd.R_mono (Kd.R_far (p := ⟨gb233, 3, none⟩) (Kd.R_far (p := ⟨gb233, 2, none⟩) (Kd.R_far (p := ⟨gb233, 1, none⟩) (Kd.R_far (p := ⟨gb233, 0, none⟩) (Kd.R_types HO_4.out BK233.out (by decide)) (fun _ hk => hk.2) (.int .i64 ((rd_T45 l0 x12_1).f0))) (fun _ hk => hk.2) (.int .i64 ((rd_T45 l0 x12_1).f1))) (fun _ hk => hk.2) (.string ((rd_T45 l0 x12_1).f2))) (fun _ hk => hk.2) (.slice A232_3 ((rd_T45 l0 x12_1).f3).length c232_3)) (fun _ hk => trivial))); (case aS => exact (below_size (by repeat (first | (with_reducible first | exact HB.out | apply below_alloc | apply pw_below_drewN | apply below_drew1 | refine below_set ?_ GE233.out) | exact HB.out)))); (case aL => have := LMc9.out; omega); intro v235 w12 ho hb hg hat; rw [← Ny234.out] at ho; have n0_ := am (blk_grown (g := gb233) (o := .cells #[.int .i64 ((rd_T45 l0 x12_1).f0), .int .i64 ((rd_T45 l0 x12_1).f1), .string ((rd_T45 l0 x12_1).f2), .slice A232_3 ((rd_T45 l0 x12_1).f3).length c232_3] 45 (0, 0)) (by (with_reducible repeat (first | refine blk_drewN ?_ _ | refine blk_drew ?_ | refine blk_alloc ?_ _)); refine blk_put (cs := #[.int .i64 ((rd_T45 l0 x12_1).f0), .int .i64 ((rd_T45 l0 x12_1).f1), .string ((rd_T45 l0 x12_1).f2), .slice none 0 0]) ?_ 3 _ rfl; (with_reducible repeat (first | refine blk_drewN ?_ _ | refine blk_drew ?_ | refine blk_alloc ?_ _)); refine blk_put (cs := #[.int .i64 ((rd_T45 l0 x12_1).f0), .int .i64 ((rd_T45 l0 x12_1).f1), .string (⟨#[]⟩ : ByteArray), .slice none 0 0]) ?_ 2 _ rfl; (with_reducible repeat (first | refine blk_drewN ?_ _ | refine blk_drew ?_ | refine blk_alloc ?_ _)); refine blk_put (cs := #[.int .i64 ((rd_T45 l0 x12_1).f0), .int .i64 0, .string (⟨#[]⟩ : ByteArray), .slice none 0 0]) ?_ 1 _ rfl; (with_reducible repeat (first | refine blk_drewN ?_ _ | refine blk_drew ?_ | refine blk_alloc ?_ _)); refine blk_put (cs := #[.int .i64 0, .int .i64 0, .string (⟨#[]⟩ : ByteArray), .slice none 0 0]) ?_ 0 _ rfl; (with_reducible repeat (first | refine blk_drewN ?_ _ | refine blk_drew ?_ | refine blk_alloc ?_ _)); exact BK233.out) hg (Kd.R_ne HO_4.out BK233.out (by decide))); have n1_ := am (hb); have n2_ := am (ho); clear BK233; clear HB; clear HO_4; have BK233 := n0_; have HB := n1_; have HO236 := n2_; clear n0_ n1_ n2_; clear ho hb hg hat))
      go_roundg k1
      case measure => have := HK1.out; omega
      case rel => exact ⟨(y234), (wrap64 (x12_1 + 1)), (by first | rfl | (simp; done) | (simp [*]; done)), H', ⟨by have := HK1.out; omega⟩, ⟨by (with_reducible repeat (first | apply Kd.R_alloc | apply Kd.R_drewN | apply Kd.R_drew)); exact HO236.out⟩, ⟨by repeat (first | (with_reducible first | exact HB.out | apply below_alloc | apply pw_below_drewN | apply below_drew1 | refine below_set ?_ GE233.out) | exact HB.out)⟩⟩
end Go.Proofs.YtacjjfoelhckcaaDoor.PExprPlays
