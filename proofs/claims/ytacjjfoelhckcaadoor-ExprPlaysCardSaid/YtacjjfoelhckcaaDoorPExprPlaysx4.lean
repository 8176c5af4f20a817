/- Contracts of functions, printed by the session's own changed copy of the print generator (see its notes); the plain functions tell what the calls answer. -/
import Derived.Test.YtacjjfoelhckcaaDoorPExprPlaysx0
import Derived.Test.YtacjjfoelhckcaaDoorPExprPlaysx3
namespace Go.Proofs.YtacjjfoelhckcaaDoor.PExprPlays
open Go.RowKit Go.Proofs.YtacjjfoelhckcaaDoorW.PrintWords Go.Proofs.YtacjjfoelhckcaaDoorW.PrintLast Go.Proofs.YtacjjfoelhckcaaDoorW.PrintMore
attribute [local go_sem] max2_int min2_int max_two min_two max_three min_three max_four min_four   -- for this text's walks alone
set_option linter.unusedVariables false
set_option linter.unusedSimpArgs false
/-! ### sorrelref02_Same: function 28 -/
def sorrelref02_Same.l0 : Nat → List (S45) → List (S45) → Int → Option (Bool)
  | 0, _, _, _ => none
  | k + 1, x0, x1, x5 => if x5 < (x0.length : Int) then (if 0 ≤ x5 then (if x5 < (x1.length : Int) then ((sorrelref02_SameNode.f k ((rd_T45 x0 x5).f0) ((rd_T45 x0 x5).f1) ((rd_T45 x0 x5).f2) ((rd_T45 x0 x5).f3) ((rd_T45 x1 x5).f0) ((rd_T45 x1 x5).f1) ((rd_T45 x1 x5).f2) ((rd_T45 x1 x5).f3)).bind fun t159 => (if t159 = true then (sorrelref02_Same.l0 k x0 x1 (wrap64 (x5 + 1))) else (some false))) else (none)) else (none)) else (some true)
def sorrelref02_Same.f (k : Nat) (l0 : List (S45)) (l1 : List (S45)) : Option (Bool) := if (l0.length : Int) = (l1.length : Int) then (sorrelref02_Same.l0 k l0 l1 0) else (some false)
theorem sorrelref02_Same.mono_l : ∀ k, (∀ y0 y1 y2, LeO (sorrelref02_Same.l0 k y0 y1 y2) (sorrelref02_Same.l0 (k + 1) y0 y1 y2))
  | 0 => fun _ _ _ r h => by simp [sorrelref02_Same.l0] at h
  | k + 1 => by
    have ih0 := sorrelref02_Same.mono_l k
    intro y0 y1 y2
    unfold sorrelref02_Same.l0
    repeat' first
    | (with_reducible exact ih0 _ _ _)
    | (with_reducible exact sorrelref02_SameNode.mono _ _ _ _ _ _ _ _ _)
    | (with_reducible exact LeO.refl _)
    | (with_reducible exact LeO.none _)
    | (with_reducible refine LeO.ite ?_ ?_)
    | (with_reducible refine LeO.bind ?_ (fun _ => ?_))
    | exact ih0 _ _ _
    | exact sorrelref02_SameNode.mono _ _ _ _ _ _ _ _ _
    | exact LeO.none _
    | refine LeO.ite ?_ ?_
    | refine LeO.bind ?_ (fun _ => ?_)
theorem sorrelref02_Same.mono : ∀ a0 a1 k, LeO (sorrelref02_Same.f k a0 a1) (sorrelref02_Same.f (k + 1) a0 a1) := by
  intro a0 a1 k
  have ih0 := sorrelref02_Same.mono_l k
  unfold sorrelref02_Same.f
  repeat' first
      | (with_reducible exact ih0 _ _ _)
      | (with_reducible exact sorrelref02_SameNode.mono _ _ _ _ _ _ _ _ _)
      | (with_reducible exact LeO.refl _)
      | (with_reducible exact LeO.none _)
      | (with_reducible refine LeO.ite ?_ ?_)
      | (with_reducible refine LeO.bind ?_ (fun _ => ?_))
      | exact ih0 _ _ _
      | exact sorrelref02_SameNode.mono _ _ _ _ _ _ _ _ _
      | exact LeO.none _
      | refine LeO.ite ?_ ?_
      | refine LeO.bind ?_ (fun _ => ?_)
def sorrelref02_Same.T6 : Bool × List (List Nat × List Nat) := (true, [([], []), ([], []), ([0, 1], [0, 1]), ([2], [2]), ([], []), ([], []), ([4, 5], [4, 5]), ([6], [6]), ([3, 7], [3, 7]), ([8], [8])])
def sorrelref02_Same.B6 : List Nat := [0, 0, 3, 7, 0, 0, 48, 112, 255, 511]
theorem sorrelref02_Same.tab6 : rtab .any (opsOf Tryd.f28 6) = sorrelref02_Same.T6 := by kernel_rfl
theorem sorrelref02_Same.bits6 : waitsOk sorrelref02_Same.T6.2 sorrelref02_Same.B6 = true := by kernel_rfl
set_option maxHeartbeats 8000000 in
set_option maxRecDepth 100000 in
theorem sorrelref02_Same.calls (k : Nat) (A0 : Option Addr) (c0 : Nat) (l0 : List (S45)) (A1 : Option Addr) (c1 : Nat) (l1 : List (S45)) (r : Bool) (w : World) (hr0 : Kd.C k45 w A0 l0.length l0) (hc0 : l0.length ≤ c0) (hr1 : Kd.C k45 w A1 l1.length l1) (hc1 : l1.length ≤ c1) (h : sorrelref02_Same.f k l0 l1 = some r) :
    Calls Tryd.prog 28 #[.slice A0 l0.length c0, .slice A1 l1.length c1] w fun e w' => e = .returned (.bool r) ∧ Below w.heap.size w w' := by
  have hu45 := Tryd.underlying45
  have HR0 := am hr0
  have HC0 := am hc0
  clear hr0 hc0
  have HR1 := am hr1
  have HC1 := am hc1
  clear hr1 hc1
  have HB := am (Below.refl w.heap.size w)
  have H : (if (l0.length : Int) = (l1.length : Int) then (sorrelref02_Same.l0 k l0 l1 0) else (some false)) = some r := h
  clear h
  by_cases c3 : (l0.length : Int) = (l1.length : Int)
  rotate_left
  · rw [if_neg c3] at H
    have c3b0 : ((l0.length : Int) == (l1.length : Int)) = false := beq_eq_false_iff_ne.mpr c3
    have c3b1 : ((l0.length : Int) != (l1.length : Int)) = true := bne_iff_ne.mpr c3
    have c3b2 : (l0.length == l1.length) = false := by first | simpa using c3 | (simp at c3 ⊢; omega)
    obtain rfl := Option.some.inj H
    go_enter Tryd.func28, Tryd.ntmps28
    go_wp2
    go_ret
    exact ⟨by first | rfl | (simp [errW_none, errW_some] <;> rfl) | (simp [*, errW_none, errW_some] <;> rfl), by repeat (first | (with_reducible first | exact HB.out | apply below_alloc | apply pw_below_drewN | apply below_drew1) | exact HB.out)⟩
  rw [if_pos c3] at H
  have c3b0 : ((l0.length : Int) == (l1.length : Int)) = true := beq_iff_eq.mpr c3
  have c3b1 : ((l0.length : Int) != (l1.length : Int)) = false := bne_eq_false_iff_eq.mpr c3
  have c3b2 : (l0.length == l1.length) = true := by first | simpa using c3 | (simp at c3 ⊢; omega)
  clear c3
  have H' := am H
  clear H
  go_enter Tryd.func28, Tryd.ntmps28
  go_wp2
  go_loopg [5] k (fun kq v5 w' => ∃ (x5_1 : Int), v5 = .int .i64 x5_1 ∧ Aside0 (sorrelref02_Same.l0 kq l0 l1 x5_1 = some r) ∧ Aside0 (kq ≤ k) ∧ Aside0 (Below w.heap.size w w'))
  case atStart => exact ⟨(0), (by first | rfl | (simp; done) | (simp [*]; done)), H', ⟨Nat.le_refl _⟩, ⟨by repeat (first | (with_reducible first | exact HB.out | apply below_alloc | apply pw_below_drewN | apply below_drew1) | exact HB.out)⟩⟩
  case round =>
    clear H'
    try clear c1
    try clear c2
    try clear p2
    try clear c3
    try clear c3b0
    try clear c3b1
    try clear c3b2
    obtain ⟨x5_1, rfl, HA, HK1, HB⟩ := hrel
    cases gk with
    | zero => exact absurd HA.out (by simp [sorrelref02_Same.l0])
    | succ k1 =>
      have H := HA.out
      clear HA
      simp only [sorrelref02_Same.l0] at H
      by_cases c4 : x5_1 < (l0.length : Int)
      rotate_left
      · rw [if_neg c4] at H
        have c4b0 : decide (x5_1 < (l0.length : Int)) = false := decide_eq_false c4
        clear c4
        obtain rfl := Option.some.inj H
        go_wp2
        go_ret
        exact ⟨by first | rfl | (simp [errW_none, errW_some] <;> rfl) | (simp [*, errW_none, errW_some] <;> rfl), by repeat (first | (with_reducible first | exact HB.out | apply below_alloc | apply pw_below_drewN | apply below_drew1) | exact HB.out)⟩
      rw [if_pos c4] at H
      have c4b0 : decide (x5_1 < (l0.length : Int)) = true := decide_eq_true c4
      clear c4
      by_cases c5 : 0 ≤ x5_1
      rotate_left
      · rw [if_neg c5] at H
        exact absurd H (by simp)
      rw [if_pos c5] at H
      have c5b0 : decide (0 ≤ x5_1) = true := decide_eq_true c5
      clear c5
      by_cases c6 : x5_1 < (l1.length : Int)
      rotate_left
      · rw [if_neg c6] at H
        exact absurd H (by simp)
      rw [if_pos c6] at H
      have c6b0 : decide (x5_1 < (l1.length : Int)) = true := decide_eq_true c6
      clear c6
      replace H := Option.bind_eq_some_iff.mp H
      obtain ⟨t159, A70, H⟩ := H
      replace H : (if t159 = true then (sorrelref02_Same.l0 k1 l0 l1 (wrap64 (x5_1 + 1))) else (some false)) = some r := H
      have A7 := am A70
      clear A70
      by_cases c8 : t159 = true
      rotate_left
      · replace c8 := Bool.eq_false_iff.mpr c8
        subst c8
        have H1 : (some false) = some r := by rw [if_neg (show ¬ (false = true) by decide)] at H; exact H
        clear H
        have H := H1
        clear H1
        obtain rfl := Option.some.inj H
        try go_wp2
        have n0_ := am (below_drew1 HB.out)
        clear HB
        have HB := n0_
        clear n0_
        have p157 : 0 ≤ (x5_1 : Int) := of_decide_eq_true (by first | (with_reducible assumption) | assumption)
        have q157 : x5_1 < (l0.length : Int) := of_decide_eq_true (by first | (with_reducible assumption) | assumption)
        obtain ⟨ad157, A157_3, c157_3, e157, hx157_0, hx157_1, hx157_2, hx157_3, hl157_3, hi157_3⟩ := at_T45 HR0.out x5_1 p157 q157
        have hw157_3 := hx157_3
        have hw157_2 := hx157_2
        have hw157_1 := hx157_1
        have hw157_0 := hx157_0
        cases e157
        replace hx157_0 := (HB.out.cell (World.block_lt_of_cell? w _ hx157_0)).trans hx157_0
        replace hx157_1 := (HB.out.cell (World.block_lt_of_cell? w _ hx157_1)).trans hx157_1
        replace hx157_2 := (HB.out.cell (World.block_lt_of_cell? w _ hx157_2)).trans hx157_2
        replace hx157_3 := (HB.out.cell (World.block_lt_of_cell? w _ hx157_3)).trans hx157_3
        have HR157_3 := am hi157_3
        have HC157_3 := am hl157_3
        clear hi157_3 hl157_3
        replace p157 := eq_true p157
        replace q157 := eq_true q157
        have p158 : 0 ≤ (x5_1 : Int) := of_decide_eq_true (by first | (with_reducible assumption) | assumption)
        have q158 : x5_1 < (l1.length : Int) := of_decide_eq_true (by first | (with_reducible assumption) | assumption)
        obtain ⟨ad158, A158_3, c158_3, e158, hx158_0, hx158_1, hx158_2, hx158_3, hl158_3, hi158_3⟩ := at_T45 HR1.out x5_1 p158 q158
        have hw158_3 := hx158_3
        have hw158_2 := hx158_2
        have hw158_1 := hx158_1
        have hw158_0 := hx158_0
        cases e158
        replace hx158_0 := (HB.out.cell (World.block_lt_of_cell? w _ hx158_0)).trans hx158_0
        replace hx158_1 := (HB.out.cell (World.block_lt_of_cell? w _ hx158_1)).trans hx158_1
        replace hx158_2 := (HB.out.cell (World.block_lt_of_cell? w _ hx158_2)).trans hx158_2
        replace hx158_3 := (HB.out.cell (World.block_lt_of_cell? w _ hx158_3)).trans hx158_3
        have HR158_3 := am hi158_3
        have HC158_3 := am hl158_3
        clear hi158_3 hl158_3
        replace p158 := eq_true p158
        replace q158 := eq_true q158
        refine start_ (n := 10) (S := fun w' => w'.cell? (ad157.add ((x5_1).toNat * 4)) = some (.int .i64 ((rd_T45 l0 x5_1).f0)) ∧ w'.cell? ⟨(ad157.add ((x5_1).toNat * 4)).block, (ad157.add ((x5_1).toNat * 4)).off + 1, none⟩ = some (.int .i64 ((rd_T45 l0 x5_1).f1)) ∧ w'.cell? ⟨(ad157.add ((x5_1).toNat * 4)).block, (ad157.add ((x5_1).toNat * 4)).off + 2, none⟩ = some (.string ((rd_T45 l0 x5_1).f2)) ∧ w'.cell? ⟨(ad157.add ((x5_1).toNat * 4)).block, (ad157.add ((x5_1).toNat * 4)).off + 3, none⟩ = some (.slice A157_3 ((rd_T45 l0 x5_1).f3).length c157_3) ∧ w'.cell? (ad158.add ((x5_1).toNat * 4)) = some (.int .i64 ((rd_T45 l1 x5_1).f0)) ∧ w'.cell? ⟨(ad158.add ((x5_1).toNat * 4)).block, (ad158.add ((x5_1).toNat * 4)).off + 1, none⟩ = some (.int .i64 ((rd_T45 l1 x5_1).f1)) ∧ w'.cell? ⟨(ad158.add ((x5_1).toNat * 4)).block, (ad158.add ((x5_1).toNat * 4)).off + 2, none⟩ = some (.string ((rd_T45 l1 x5_1).f2)) ∧ w'.cell? ⟨(ad158.add ((x5_1).toNat * 4)).block, (ad158.add ((x5_1).toNat * 4)).off + 3, none⟩ = some (.slice A158_3 ((rd_T45 l1 x5_1).f3).length c158_3)) (ds := []) #[false, false, false, false, false, false, false, false, false, false] (by kernel_rfl) rfl rfl ⟨((HB.out.cell (World.block_lt_of_cell? w _ hw157_0)).trans hw157_0), ((HB.out.cell (World.block_lt_of_cell? w _ hw157_1)).trans hw157_1), ((HB.out.cell (World.block_lt_of_cell? w _ hw157_2)).trans hw157_2), ((HB.out.cell (World.block_lt_of_cell? w _ hw157_3)).trans hw157_3), ((HB.out.cell (World.block_lt_of_cell? w _ hw158_0)).trans hw158_0), ((HB.out.cell (World.block_lt_of_cell? w _ hw158_1)).trans hw158_1), ((HB.out.cell (World.block_lt_of_cell? w _ hw158_2)).trans hw158_2), ((HB.out.cell (World.block_lt_of_cell? w _ hw158_3)).trans hw158_3)⟩ (fun hHeld => ?_); refine with_tabW sorrelref02_Same.tab6 sorrelref02_Same.bits6 (fun HT_ HW_ => ?_)
        generalize wr.drew = w11 at HB HR157_3 HR158_3 hx157_0 hx157_1 hx157_2 hx157_3 hx158_0 hx158_1 hx158_2 hx158_3 hHeld ⊢
        refine pure_ (i := 0) (N := some 17) (v := ?_) (a' := ?_) #[true, false, false, false, false, false, false, false, false, false] rfl rfl (any_of HT_.out (by kernel_rfl)) (fun _ _ _ h => h) (Or.inl ⟨by rfl, ?_⟩) ?_ ?_
        rotate_left
        · intro w'
          go_simp
          with_reducible rfl
        rotate_left
        · simp only [Act.put, List.setIfInBounds_toArray, List.set_cons_zero, List.set_cons_succ, i64_w, i32_w]
          rfl
        refine pure_ (i := 1) (N := some 18) (v := ?_) (a' := ?_) #[true, true, false, false, false, false, false, false, false, false] rfl rfl (any_of HT_.out (by kernel_rfl)) (fun _ _ _ h => h) (Or.inl ⟨by rfl, ?_⟩) ?_ ?_
        rotate_left
        · intro w'
          go_simp
          with_reducible rfl
        rotate_left
        · simp only [Act.put, List.setIfInBounds_toArray, List.set_cons_zero, List.set_cons_succ, i64_w, i32_w]
          rfl
        refine pure_ (i := 2) (N := some 19) (v := ?_) (a' := ?_) #[true, true, true, false, false, false, false, false, false, false] rfl rfl (any_of HT_.out (by kernel_rfl)) (fun _ _ _ h => h) (Or.inl ⟨by rfl, ?_⟩) ?_ ?_
        rotate_left
        · intro w'
          go_simp
          with_reducible rfl
        rotate_left
        · simp only [Act.put, List.setIfInBounds_toArray, List.set_cons_zero, List.set_cons_succ, i64_w, i32_w]
          rfl
        refine pure_ (i := 4) (N := some 21) (v := ?_) (a' := ?_) #[true, true, true, false, true, false, false, false, false, false] rfl rfl (any_of HT_.out (by kernel_rfl)) (fun _ _ _ h => h) (Or.inl ⟨by rfl, ?_⟩) ?_ ?_
        rotate_left
        · intro w'
          go_simp
          with_reducible rfl
        rotate_left
        · simp only [Act.put, List.setIfInBounds_toArray, List.set_cons_zero, List.set_cons_succ, i64_w, i32_w]
          rfl
        refine pure_ (i := 5) (N := some 22) (v := ?_) (a' := ?_) #[true, true, true, false, true, true, false, false, false, false] rfl rfl (any_of HT_.out (by kernel_rfl)) (fun _ _ _ h => h) (Or.inl ⟨by rfl, ?_⟩) ?_ ?_
        rotate_left
        · intro w'
          go_simp
          with_reducible rfl
        rotate_left
        · simp only [Act.put, List.setIfInBounds_toArray, List.set_cons_zero, List.set_cons_succ, i64_w, i32_w]
          rfl
        refine pure_ (i := 6) (N := some 23) (v := ?_) (a' := ?_) #[true, true, true, false, true, true, true, false, false, false] rfl rfl (any_of HT_.out (by kernel_rfl)) (fun _ _ _ h => h) (Or.inl ⟨by rfl, ?_⟩) ?_ ?_
        rotate_left
        · intro w'
          go_simp
          with_reducible rfl
        rotate_left
        · simp only [Act.put, List.setIfInBounds_toArray, List.set_cons_zero, List.set_cons_succ, i64_w, i32_w]
          rfl
        refine take_ (i := 3) (N := some 20) (v := ?_) (a' := ?_) #[true, true, true, true, true, true, true, false, false, false] rfl rfl (take_ofW HT_.out HW_.out (by kernel_rfl)) (fun _ _ _ h => h) (Or.inl ⟨by rfl, ?_⟩) hHeld ?_ ?_
        rotate_left
        · rintro w' ⟨s0, s1, s2, s3, s4, s5, s6, s7⟩
          go_simp
          with_reducible rfl
        rotate_left
        · simp only [Act.put, List.setIfInBounds_toArray, List.set_cons_zero, List.set_cons_succ, i64_w, i32_w]
          rfl
        refine take_ (i := 7) (N := some 24) (v := ?_) (a' := ?_) #[true, true, true, true, true, true, true, true, false, false] rfl rfl (take_ofW HT_.out HW_.out (by kernel_rfl)) (fun _ _ _ h => h) (Or.inl ⟨by rfl, ?_⟩) hHeld ?_ ?_
        rotate_left
        · rintro w' ⟨s0, s1, s2, s3, s4, s5, s6, s7⟩
          go_simp
          with_reducible rfl
        rotate_left
        · simp only [Act.put, List.setIfInBounds_toArray, List.set_cons_zero, List.set_cons_succ, i64_w, i32_w]
          rfl
        refine one_ (i := 8) (N := some 25) #[true, true, true, true, true, true, true, true, true, false] rfl rfl (one_of HT_.out (by kernel_rfl)) (by decide) (fun K hK => ?_)
        refine goes_ Tryd.func80 (by kernel_rfl) rfl #[.agg #[.int .i64 ((rd_T45 l0 x5_1).f0), .int .i64 ((rd_T45 l0 x5_1).f1), .string ((rd_T45 l0 x5_1).f2), .slice A157_3 ((rd_T45 l0 x5_1).f3).length c157_3], .agg #[.int .i64 ((rd_T45 l1 x5_1).f0), .int .i64 ((rd_T45 l1 x5_1).f1), .string ((rd_T45 l1 x5_1).f2), .slice A158_3 ((rd_T45 l1 x5_1).f3).length c158_3]] (by rfl) rfl rfl (by (try simp only [List.map_toArray, List.map_cons, List.map_nil]); first | done | rfl | (simp only [List.length_drop, List.length_take]; rfl)) ?_
        with_reducible refine (sorrelref02_SameNode.calls k1 ((rd_T45 l0 x5_1).f0) ((rd_T45 l0 x5_1).f1) ((rd_T45 l0 x5_1).f2) _ _ ((rd_T45 l0 x5_1).f3) ((rd_T45 l1 x5_1).f0) ((rd_T45 l1 x5_1).f1) ((rd_T45 l1 x5_1).f2) _ _ ((rd_T45 l1 x5_1).f3) false _ ?side1 ?side2 ?side3 ?side4 A7.out).mono ?_
        (case side1 => repeat (first | exact (Kd.C_below HR157_3.out HB.out) | (with_reducible refine Kd.C_alloc ?_ _) | (with_reducible refine Kd.C_drewN ?_ _) | (with_reducible refine Kd.C_drew ?_)))
        (case side2 => exact HC157_3.out)
        (case side3 => repeat (first | exact (Kd.C_below HR158_3.out HB.out) | (with_reducible refine Kd.C_alloc ?_ _) | (with_reducible refine Kd.C_drewN ?_ _) | (with_reducible refine Kd.C_drew ?_)))
        (case side4 => exact HC158_3.out)
        rintro e w12 ⟨rfl, hb⟩
        refine ⟨_, rfl, ?_⟩
        have n0_ := am (below_step (by repeat (first | (with_reducible first | exact HB.out | apply below_alloc | apply pw_below_drewN | apply below_drew1) | exact HB.out)) hb)
        clear HB
        have HB := n0_
        clear n0_
        (try clear hb)
        (try clear hb2)
        (try clear hk)
        (try clear hi)
        refine hK.out _ _ ⟨((HB.out.cell (World.block_lt_of_cell? w _ hw157_0)).trans hw157_0), ((HB.out.cell (World.block_lt_of_cell? w _ hw157_1)).trans hw157_1), ((HB.out.cell (World.block_lt_of_cell? w _ hw157_2)).trans hw157_2), ((HB.out.cell (World.block_lt_of_cell? w _ hw157_3)).trans hw157_3), ((HB.out.cell (World.block_lt_of_cell? w _ hw158_0)).trans hw158_0), ((HB.out.cell (World.block_lt_of_cell? w _ hw158_1)).trans hw158_1), ((HB.out.cell (World.block_lt_of_cell? w _ hw158_2)).trans hw158_2), ((HB.out.cell (World.block_lt_of_cell? w _ hw158_3)).trans hw158_3)⟩ (fun hHeld => ?_)
        clear hK K
        refine norm_ (a' := ?_) ?_ ?_
        rotate_left
        · show Act.put _ (some 25) _ = _
          simp only [Act.put, List.setIfInBounds_toArray, List.set_cons_zero, List.set_cons_succ, i64_w, i32_w]
          rfl
        refine pure_ (i := 9) (N := some 26) (v := ?_) (a' := ?_) #[true, true, true, true, true, true, true, true, true, true] rfl rfl (any_of HT_.out (by kernel_rfl)) (fun _ _ _ h => h) (Or.inl ⟨by rfl, ?_⟩) ?_ ?_
        rotate_left
        · intro w'
          go_simp
          with_reducible rfl
        rotate_left
        · simp only [Act.put, List.setIfInBounds_toArray, List.set_cons_zero, List.set_cons_succ, i64_w, i32_w]
          rfl
        refine done_ (done_of HT_.out (by kernel_rfl)) ?_
        try go_wp2
        go_ret
        exact ⟨by first | rfl | (simp [errW_none, errW_some] <;> rfl) | (simp [*, errW_none, errW_some] <;> rfl), by repeat (first | (with_reducible first | exact HB.out | apply below_alloc | apply pw_below_drewN | apply below_drew1) | exact HB.out)⟩
      subst c8
      have H1 : (sorrelref02_Same.l0 k1 l0 l1 (wrap64 (x5_1 + 1))) = some r := by rw [if_pos rfl] at H; exact H
      clear H
      have H := H1
      clear H1
      have H' := am H
      clear H
      try go_wp2
      have n0_ := am (below_drew1 HB.out)
      clear HB
      have HB := n0_
      clear n0_
      have p157 : 0 ≤ (x5_1 : Int) := of_decide_eq_true (by first | (with_reducible assumption) | assumption)
      have q157 : x5_1 < (l0.length : Int) := of_decide_eq_true (by first | (with_reducible assumption) | assumption)
      obtain ⟨ad157, A157_3, c157_3, e157, hx157_0, hx157_1, hx157_2, hx157_3, hl157_3, hi157_3⟩ := at_T45 HR0.out x5_1 p157 q157
      have hw157_3 := hx157_3
      have hw157_2 := hx157_2
      have hw157_1 := hx157_1
      have hw157_0 := hx157_0
      cases e157
      replace hx157_0 := (HB.out.cell (World.block_lt_of_cell? w _ hx157_0)).trans hx157_0
      replace hx157_1 := (HB.out.cell (World.block_lt_of_cell? w _ hx157_1)).trans hx157_1
      replace hx157_2 := (HB.out.cell (World.block_lt_of_cell? w _ hx157_2)).trans hx157_2
      replace hx157_3 := (HB.out.cell (World.block_lt_of_cell? w _ hx157_3)).trans hx157_3
      have HR157_3 := am hi157_3
      have HC157_3 := am hl157_3
      clear hi157_3 hl157_3
      replace p157 := eq_true p157
      replace q157 := eq_true q157
      have p158 : 0 ≤ (x5_1 : Int) := of_decide_eq_true (by first | (with_reducible assumption) | assumption)
      have q158 : x5_1 < (l1.length : Int) := of_decide_eq_true (by first | (with_reducible assumption) | assumption)
      obtain ⟨ad158, A158_3, c158_3, e158, hx158_0, hx158_1, hx158_2, hx158_3, hl158_3, hi158_3⟩ := at_T45 HR1.out x5_1 p158 q158
      have hw158_3 := hx158_3
      have hw158_2 := hx158_2
      have hw158_1 := hx158_1
      have hw158_0 := hx158_0
      cases e158
      replace hx158_0 := (HB.out.cell (World.block_lt_of_cell? w _ hx158_0)).trans hx158_0
      replace hx158_1 := (HB.out.cell (World.block_lt_of_cell? w _ hx158_1)).trans hx158_1
      replace hx158_2 := (HB.out.cell (World.block_lt_of_cell? w _ hx158_2)).trans hx158_2
      replace hx158_3 := (HB.out.cell (World.block_lt_of_cell? w _ hx158_3)).trans hx158_3
      have HR158_3 := am hi158_3
      have HC158_3 := am hl158_3
      clear hi158_3 hl158_3
      replace p158 := eq_true p158
      replace q158 := eq_true q158
      refine start_ (n := 10) (S := fun w' => w'.cell? (ad157.add ((x5_1).toNat * 4)) = some (.int .i64 ((rd_T45 l0 x5_1).f0)) ∧ w'.cell? ⟨(ad157.add ((x5_1).toNat * 4)).block, (ad157.add ((x5_1).toNat * 4)).off + 1, none⟩ = some (.int .i64 ((rd_T45 l0 x5_1).f1)) ∧ w'.cell? ⟨(ad157.add ((x5_1).toNat * 4)).block, (ad157.add ((x5_1).toNat * 4)).off + 2, none⟩ = some (.string ((rd_T45 l0 x5_1).f2)) ∧ w'.cell? ⟨(ad157.add ((x5_1).toNat * 4)).block, (ad157.add ((x5_1).toNat * 4)).off + 3, none⟩ = some (.slice A157_3 ((rd_T45 l0 x5_1).f3).length c157_3) ∧ w'.cell? (ad158.add ((x5_1).toNat * 4)) = some (.int .i64 ((rd_T45 l1 x5_1).f0)) ∧ w'.cell? ⟨(ad158.add ((x5_1).toNat * 4)).block, (ad158.add ((x5_1).toNat * 4)).off + 1, none⟩ = some (.int .i64 ((rd_T45 l1 x5_1).f1)) ∧ w'.cell? ⟨(ad158.add ((x5_1).toNat * 4)).block, (ad158.add ((x5_1).toNat * 4)).off + 2, none⟩ = some (.string ((rd_T45 l1 x5_1).f2)) ∧ w'.cell? ⟨(ad158.add ((x5_1).toNat * 4)).block, (ad158.add ((x5_1).toNat * 4)).off + 3, none⟩ = some (.slice A158_3 ((rd_T45 l1 x5_1).f3).length c158_3)) (ds := []) #[false, false, false, false, false, false, false, false, false, false] (by kernel_rfl) rfl rfl ⟨((HB.out.cell (World.block_lt_of_cell? w _ hw157_0)).trans hw157_0), ((HB.out.cell (World.block_lt_of_cell? w _ hw157_1)).trans hw157_1), ((HB.out.cell (World.block_lt_of_cell? w _ hw157_2)).trans hw157_2), ((HB.out.cell (World.block_lt_of_cell? w _ hw157_3)).trans hw157_3), ((HB.out.cell (World.block_lt_of_cell? w _ hw158_0)).trans hw158_0), ((HB.out.cell (World.block_lt_of_cell? w _ hw158_1)).trans hw158_1), ((HB.out.cell (World.block_lt_of_cell? w _ hw158_2)).trans hw158_2), ((HB.out.cell (World.block_lt_of_cell? w _ hw158_3)).trans hw158_3)⟩ (fun hHeld => ?_); refine with_tabW sorrelref02_Same.tab6 sorrelref02_Same.bits6 (fun HT_ HW_ => ?_)
      generalize wr.drew = w9 at HB HR157_3 HR158_3 hx157_0 hx157_1 hx157_2 hx157_3 hx158_0 hx158_1 hx158_2 hx158_3 hHeld ⊢
      refine pure_ (i := 0) (N := some 17) (v := ?_) (a' := ?_) #[true, false, false, false, false, false, false, false, false, false] rfl rfl (any_of HT_.out (by kernel_rfl)) (fun _ _ _ h => h) (Or.inl ⟨by rfl, ?_⟩) ?_ ?_
      rotate_left
      · intro w'
        go_simp
        with_reducible rfl
      rotate_left
      · simp only [Act.put, List.setIfInBounds_toArray, List.set_cons_zero, List.set_cons_succ, i64_w, i32_w]
        rfl
      refine pure_ (i := 1) (N := some 18) (v := ?_) (a' := ?_) #[true, true, false, false, false, false, false, false, false, false] rfl rfl (any_of HT_.out (by kernel_rfl)) (fun _ _ _ h => h) (Or.inl ⟨by rfl, ?_⟩) ?_ ?_
      rotate_left
      · intro w'
        go_simp
        with_reducible rfl
      rotate_left
      · simp only [Act.put, List.setIfInBounds_toArray, List.set_cons_zero, List.set_cons_succ, i64_w, i32_w]
        rfl
      refine pure_ (i := 2) (N := some 19) (v := ?_) (a' := ?_) #[true, true, true, false, false, false, false, false, false, false] rfl rfl (any_of HT_.out (by kernel_rfl)) (fun _ _ _ h => h) (Or.inl ⟨by rfl, ?_⟩) ?_ ?_
      rotate_left
      · intro w'
        go_simp
        with_reducible rfl
      rotate_left
      · simp only [Act.put, List.setIfInBounds_toArray, List.set_cons_zero, List.set_cons_succ, i64_w, i32_w]
        rfl
      refine pure_ (i := 4) (N := some 21) (v := ?_) (a' := ?_) #[true, true, true, false, true, false, false, false, false, false] rfl rfl (any_of HT_.out (by kernel_rfl)) (fun _ _ _ h => h) (Or.inl ⟨by rfl, ?_⟩) ?_ ?_
      rotate_left
      · intro w'
        go_simp
        with_reducible rfl
      rotate_left
      · simp only [Act.put, List.setIfInBounds_toArray, List.set_cons_zero, List.set_cons_succ, i64_w, i32_w]
        rfl
      refine pure_ (i := 5) (N := some 22) (v := ?_) (a' := ?_) #[true, true, true, false, true, true, false, false, false, false] rfl rfl (any_of HT_.out (by kernel_rfl)) (fun _ _ _ h => h) (Or.inl ⟨by rfl, ?_⟩) ?_ ?_
      rotate_left
      · intro w'
        go_simp
        with_reducible rfl
      rotate_left
      · simp only [Act.put, List.setIfInBounds_toArray, List.set_cons_zero, List.set_cons_succ, i64_w, i32_w]
        rfl
      refine pure_ (i := 6) (N := some 23) (v := ?_) (a' := ?_) #[true, true, true, false, true, true, true, false, false, false] rfl rfl (any_of HT_.out (by kernel_rfl)) (fun _ _ _ h => h) (Or.inl ⟨by rfl, ?_⟩) ?_ ?_
      rotate_left
      · intro w'
        go_simp
        with_reducible rfl
      rotate_left
      · simp only [Act.put, List.setIfInBounds_toArray, List.set_cons_zero, List.set_cons_succ, i64_w, i32_w]
        rfl
      refine take_ (i := 3) (N := some 20) (v := ?_) (a' := ?_) #[true, true, true, true, true, true, true, false, false, false] rfl rfl (take_ofW HT_.out HW_.out (by kernel_rfl)) (fun _ _ _ h => h) (Or.inl ⟨by rfl, ?_⟩) hHeld ?_ ?_
      rotate_left
      · rintro w' ⟨s0, s1, s2, s3, s4, s5, s6, s7⟩
        go_simp
        with_reducible rfl
      rotate_left
      · simp only [Act.put, List.setIfInBounds_toArray, List.set_cons_zero, List.set_cons_succ, i64_w, i32_w]
        rfl
      refine take_ (i := 7) (N := some 24) (v := ?_) (a' := ?_) #[true, true, true, true, true, true, true, true, false, false] rfl rfl (take_ofW HT_.out HW_.out (by kernel_rfl)) (fun _ _ _ h => h) (Or.inl ⟨by rfl, ?_⟩) hHeld ?_ ?_
      rotate_left
      · rintro w' ⟨s0, s1, s2, s3, s4, s5, s6, s7⟩
        go_simp
        with_reducible rfl
      rotate_left
      · simp only [Act.put, List.setIfInBounds_toArray, List.set_cons_zero, List.set_cons_succ, i64_w, i32_w]
        rfl
      refine one_ (i := 8) (N := some 25) #[true, true, true, true, true, true, true, true, true, false] rfl rfl (one_of HT_.out (by kernel_rfl)) (by decide) (fun K hK => ?_)
      refine goes_ Tryd.func80 (by kernel_rfl) rfl #[.agg #[.int .i64 ((rd_T45 l0 x5_1).f0), .int .i64 ((rd_T45 l0 x5_1).f1), .string ((rd_T45 l0 x5_1).f2), .slice A157_3 ((rd_T45 l0 x5_1).f3).length c157_3], .agg #[.int .i64 ((rd_T45 l1 x5_1).f0), .int .i64 ((rd_T45 l1 x5_1).f1), .string ((rd_T45 l1 x5_1).f2), .slice A158_3 ((rd_T45 l1 x5_1).f3).length c158_3]] (by rfl) rfl rfl (by (try simp only [List.map_toArray, List.map_cons, List.map_nil]); first | done | rfl | (simp only [List.length_drop, List.length_take]; rfl)) ?_
      with_reducible refine (sorrelref02_SameNode.calls k1 ((rd_T45 l0 x5_1).f0) ((rd_T45 l0 x5_1).f1) ((rd_T45 l0 x5_1).f2) _ _ ((rd_T45 l0 x5_1).f3) ((rd_T45 l1 x5_1).f0) ((rd_T45 l1 x5_1).f1) ((rd_T45 l1 x5_1).f2) _ _ ((rd_T45 l1 x5_1).f3) true _ ?side1 ?side2 ?side3 ?side4 A7.out).mono ?_
      (case side1 => repeat (first | exact (Kd.C_below HR157_3.out HB.out) | (with_reducible refine Kd.C_alloc ?_ _) | (with_reducible refine Kd.C_drewN ?_ _) | (with_reducible refine Kd.C_drew ?_)))
      (case side2 => exact HC157_3.out)
      (case side3 => repeat (first | exact (Kd.C_below HR158_3.out HB.out) | (with_reducible refine Kd.C_alloc ?_ _) | (with_reducible refine Kd.C_drewN ?_ _) | (with_reducible refine Kd.C_drew ?_)))
      (case side4 => exact HC158_3.out)
      rintro e w10 ⟨rfl, hb⟩
      refine ⟨_, rfl, ?_⟩
      have n0_ := am (below_step (by repeat (first | (with_reducible first | exact HB.out | apply below_alloc | apply pw_below_drewN | apply below_drew1) | exact HB.out)) hb)
      clear HB
      have HB := n0_
      clear n0_
      (try clear hb)
      (try clear hb2)
      (try clear hk)
      (try clear hi)
      refine hK.out _ _ ⟨((HB.out.cell (World.block_lt_of_cell? w _ hw157_0)).trans hw157_0), ((HB.out.cell (World.block_lt_of_cell? w _ hw157_1)).trans hw157_1), ((HB.out.cell (World.block_lt_of_cell? w _ hw157_2)).trans hw157_2), ((HB.out.cell (World.block_lt_of_cell? w _ hw157_3)).trans hw157_3), ((HB.out.cell (World.block_lt_of_cell? w _ hw158_0)).trans hw158_0), ((HB.out.cell (World.block_lt_of_cell? w _ hw158_1)).trans hw158_1), ((HB.out.cell (World.block_lt_of_cell? w _ hw158_2)).trans hw158_2), ((HB.out.cell (World.block_lt_of_cell? w _ hw158_3)).trans hw158_3)⟩ (fun hHeld => ?_)
      clear hK K
      refine norm_ (a' := ?_) ?_ ?_
      rotate_left
      · show Act.put _ (some 25) _ = _
        simp only [Act.put, List.setIfInBounds_toArray, List.set_cons_zero, List.set_cons_succ, i64_w, i32_w]
        rfl
      refine pure_ (i := 9) (N := some 26) (v := ?_) (a' := ?_) #[true, true, true, true, true, true, true, true, true, true] rfl rfl (any_of HT_.out (by kernel_rfl)) (fun _ _ _ h => h) (Or.inl ⟨by rfl, ?_⟩) ?_ ?_
      rotate_left
      · intro w'
        go_simp
        with_reducible rfl
      rotate_left
      · simp only [Act.put, List.setIfInBounds_toArray, List.set_cons_zero, List.set_cons_succ, i64_w, i32_w]
        rfl
      refine done_ (done_of HT_.out (by kernel_rfl)) ?_
      try go_wp2
      go_roundg k1
      case measure => have := HK1.out; omega
      case rel => exact ⟨(wrap64 (x5_1 + 1)), (by first | rfl | (simp; done) | (simp [*]; done)), H', ⟨by have := HK1.out; omega⟩, ⟨by repeat (first | (with_reducible first | exact HB.out | apply below_alloc | apply pw_below_drewN | apply below_drew1) | exact HB.out)⟩⟩
/-! ### sorrelref02_Copy: function 30 -/
def sorrelref02_Copy.l0 : Nat → List (S45) → List (S45) → Int → Option ((List (S45)))
  | 0, _, _, _ => none
  | k + 1, x0, x3, x4 => if x4 < (x0.length : Int) then (if 0 ≤ x4 then ((some (([] : List Int) : List Int)).bind fun y162 => (if y162.length + ((rd_T45 x0 x4).f3).length < 17592186044416 then (if x3.length < 2513169434916 then (sorrelref02_Copy.l0 k x0 (x3 ++ [(⟨(rd_T45 x0 x4).f0, (rd_T45 x0 x4).f1, (rd_T45 x0 x4).f2, (y162 ++ ((rd_T45 x0 x4).f3))⟩ : S45)]) (wrap64 (x4 + 1))) else (none)) else (none))) else (none)) else (some x3)
def sorrelref02_Copy.f (k : Nat) (l0 : List (S45)) : Option ((List (S45))) := sorrelref02_Copy.l0 k l0 ([] : List (S45)) 0
theorem sorrelref02_Copy.mono_l : ∀ k, (∀ y0 y1 y2, LeO (sorrelref02_Copy.l0 k y0 y1 y2) (sorrelref02_Copy.l0 (k + 1) y0 y1 y2))
  | 0 => fun _ _ _ r h => by simp [sorrelref02_Copy.l0] at h
  | k + 1 => by
    have ih0 := sorrelref02_Copy.mono_l k
    intro y0 y1 y2
    unfold sorrelref02_Copy.l0
    repeat' first
    | (with_reducible exact ih0 _ _ _)
    | (with_reducible exact LeO.refl _)
    | (with_reducible exact LeO.none _)
    | (with_reducible refine LeO.ite ?_ ?_)
    | (with_reducible refine LeO.bind ?_ (fun _ => ?_))
    | exact ih0 _ _ _
    | exact LeO.none _
    | refine LeO.ite ?_ ?_
    | refine LeO.bind ?_ (fun _ => ?_)
theorem sorrelref02_Copy.mono : ∀ a0 k, LeO (sorrelref02_Copy.f k a0) (sorrelref02_Copy.f (k + 1) a0) := by
  intro a0 k
  have ih0 := sorrelref02_Copy.mono_l k
  unfold sorrelref02_Copy.f
  repeat' first
      | (with_reducible exact ih0 _ _ _)
      | (with_reducible exact LeO.refl _)
      | (with_reducible exact LeO.none _)
      | (with_reducible refine LeO.ite ?_ ?_)
      | (with_reducible refine LeO.bind ?_ (fun _ => ?_))
      | exact ih0 _ _ _
      | exact LeO.none _
      | refine LeO.ite ?_ ?_
      | refine LeO.bind ?_ (fun _ => ?_)
set_option maxHeartbeats 8000000 in
set_option maxRecDepth 100000 in
theorem sorrelref02_Copy.calls (k : Nat) (A0 : Option Addr) (c0 : Nat) (l0 : List (S45)) (r : List (S45)) (w : World) (hr0 : Kd.C k45 w A0 l0.length l0) (hc0 : l0.length ≤ c0) (h : sorrelref02_Copy.f k l0 = some r) :
    Calls Tryd.prog 30 #[.slice A0 l0.length c0] w fun e w' => ∃ v0_ : Value, e = .returned (v0_) ∧ Kd.S k45 45 w' w.heap.size (fun _ => True) v0_ r ∧ Below w.heap.size w w' := by
  have hu45 := Tryd.underlying45
  have HR0 := am hr0
  have HC0 := am hc0
  clear hr0 hc0
  have HB := am (Below.refl w.heap.size w)
  have H : (sorrelref02_Copy.l0 k l0 ([] : List (S45)) 0) = some r := h
  clear h
  have H' := am H
  clear H
  go_enter Tryd.func30, Tryd.ntmps30
  go_wp2
  go_loopg [3, 4] k (fun kq v3 v4 w' => ∃ (x3_1 : List (S45)) (x4_1 : Int), v4 = .int .i64 x4_1 ∧ Aside0 (sorrelref02_Copy.l0 kq l0 x3_1 x4_1 = some r) ∧ Aside0 (kq ≤ k) ∧ Aside0 (Kd.S k45 45 w' w.heap.size (fun _ => True) v3 x3_1) ∧ Aside0 (Below w.heap.size w w'))
  case atStart => exact ⟨(([] : List (S45))), (0), (by first | rfl | (simp; done) | (simp [*]; done)), H', ⟨Nat.le_refl _⟩, ⟨by first | exact Kd.S_nil _ _ _ _ _ | exact Kd.N_nil _ _ _ _ _ | exact Kd.V_nil _ _ _ _ _ | exact Kd.Q_nil _ _ _ _ _ | exact Kd.R_nil _ _ _ _ _⟩, ⟨by repeat (first | (with_reducible first | exact HB.out | apply below_alloc | apply pw_below_drewN | apply below_drew1) | exact HB.out)⟩⟩
  case round =>
    clear H'
    obtain ⟨x3_1, x4_1, rfl, HA, HK1, HO_3, HB⟩ := hrel
    cases gk with
    | zero => exact absurd HA.out (by simp [sorrelref02_Copy.l0])
    | succ k1 =>
      have H := HA.out
      clear HA
      simp only [sorrelref02_Copy.l0] at H
      by_cases c2 : x4_1 < (l0.length : Int)
      rotate_left
      · rw [if_neg c2] at H
        have c2b0 : decide (x4_1 < (l0.length : Int)) = false := decide_eq_false c2
        clear c2
        obtain rfl := Option.some.inj H
        go_wp2
        go_ret
        exact ⟨_, by first | rfl | (simp [errW_none, errW_some] <;> rfl) | (simp [*, errW_none, errW_some] <;> rfl), by (with_reducible repeat (first | apply Kd.S_alloc | apply Kd.S_drewN | apply Kd.S_drew)); exact HO_3.out, by repeat (first | (with_reducible first | exact HB.out | apply below_alloc | apply pw_below_drewN | apply below_drew1) | exact HB.out)⟩
      rw [if_pos c2] at H
      have c2b0 : decide (x4_1 < (l0.length : Int)) = true := decide_eq_true c2
      clear c2
      by_cases c3 : 0 ≤ x4_1
      rotate_left
      · rw [if_neg c3] at H
        exact absurd H (by simp)
      rw [if_pos c3] at H
      have c3b0 : decide (0 ≤ x4_1) = true := decide_eq_true c3
      clear c3
      obtain ⟨y162, hy162⟩ : ∃ y_ : List Int, y_ = (([] : List Int)) := ⟨_, rfl⟩
      replace H : (if y162.length + ((rd_T45 l0 x4_1).f3).length < 17592186044416 then (if x3_1.length < 2513169434916 then (sorrelref02_Copy.l0 k1 l0 (x3_1 ++ [(⟨(rd_T45 l0 x4_1).f0, (rd_T45 l0 x4_1).f1, (rd_T45 l0 x4_1).f2, (y162 ++ ((rd_T45 l0 x4_1).f3))⟩ : S45)]) (wrap64 (x4_1 + 1))) else (none)) else (none)) = some r := by first | (rw [hy162]; with_reducible exact H) | (have H2_ := (Option.bind_some _ _).symm.trans H; rw [hy162]; with_reducible exact H2_) | (have H2_ := (Option.bind_some _ _).symm.trans H; with_reducible exact H2_) | with_reducible exact H | (rw [hy162]; exact H) | exact H
      have Ny162 := am hy162
      clear hy162
      by_cases c4 : y162.length + ((rd_T45 l0 x4_1).f3).length < 17592186044416
      rotate_left
      · rw [if_neg c4] at H
        exact absurd H (by simp)
      rw [if_pos c4] at H
      have LMc4 := am c4
      clear c4
      obtain ⟨y165, hy165⟩ : ∃ y_ : List Int, y_ = (y162 ++ ((rd_T45 l0 x4_1).f3)) := ⟨_, rfl⟩
      replace H : (if x3_1.length < 2513169434916 then (sorrelref02_Copy.l0 k1 l0 (x3_1 ++ [(⟨(rd_T45 l0 x4_1).f0, (rd_T45 l0 x4_1).f1, (rd_T45 l0 x4_1).f2, y165⟩ : S45)]) (wrap64 (x4_1 + 1))) else (none)) = some r := by first | (rw [hy165]; with_reducible exact H) | (have H2_ := (Option.bind_some _ _).symm.trans H; rw [hy165]; with_reducible exact H2_) | (have H2_ := (Option.bind_some _ _).symm.trans H; with_reducible exact H2_) | with_reducible exact H | (rw [hy165]; exact H) | exact H
      have Ny165 := am hy165
      clear hy165
      by_cases c5 : x3_1.length < 2513169434916
      rotate_left
      · rw [if_neg c5] at H
        exact absurd H (by simp)
      rw [if_pos c5] at H
      have LMc5 := am c5
      clear c5
      obtain ⟨y168, hy168⟩ : ∃ y_ : List (S45), y_ = (x3_1 ++ [(⟨(rd_T45 l0 x4_1).f0, (rd_T45 l0 x4_1).f1, (rd_T45 l0 x4_1).f2, y165⟩ : S45)]) := ⟨_, rfl⟩
      replace H : (sorrelref02_Copy.l0 k1 l0 y168 (wrap64 (x4_1 + 1))) = some r := by first | (rw [hy168]; with_reducible exact H) | (have H2_ := (Option.bind_some _ _).symm.trans H; rw [hy168]; with_reducible exact H2_) | (have H2_ := (Option.bind_some _ _).symm.trans H; with_reducible exact H2_) | with_reducible exact H | (rw [hy168]; exact H) | exact H
      have Ny168 := am hy168
      clear hy168
      have H' := am H
      clear H
      have p160 : 0 ≤ (x4_1 : Int) := of_decide_eq_true (by first | (with_reducible assumption) | assumption)
      have q160 : x4_1 < (l0.length : Int) := of_decide_eq_true (by first | (with_reducible assumption) | assumption)
      obtain ⟨ad160, A160_3, c160_3, e160, hx160_0, hx160_1, hx160_2, hx160_3, hl160_3, hi160_3⟩ := at_T45 HR0.out x4_1 p160 q160
      cases e160
      replace hx160_0 := (HB.out.cell (World.block_lt_of_cell? w _ hx160_0)).trans hx160_0
      replace hx160_1 := (HB.out.cell (World.block_lt_of_cell? w _ hx160_1)).trans hx160_1
      replace hx160_2 := (HB.out.cell (World.block_lt_of_cell? w _ hx160_2)).trans hx160_2
      replace hx160_3 := (HB.out.cell (World.block_lt_of_cell? w _ hx160_3)).trans hx160_3
      have HR160_3 := am hi160_3
      have HC160_3 := am hl160_3
      clear hi160_3 hl160_3
      replace p160 := eq_true p160
      replace q160 := eq_true q160
      go_wp2_with (first | ((with_reducible refine gate_dst (N := 5) rfl ?_); refine box_event ?hg (N := 5) ?hd (cs := #[.int .i64 0, .int .i64 0, .string (⟨#[]⟩ : ByteArray), .slice none 0 0]) (t := 45) ?hr ?_; (case hd => rfl); (case hg => rfl); (case hr => first | (go_simp; done) | (go_simp; rfl)); intro gb161 hg w6 hbox hb; have n0_ := am (Kd.S_below (Kd.S_elderB (by (with_reducible repeat (first | apply Kd.S_alloc | apply Kd.S_drewN | apply Kd.S_drew)); exact HO_3.out) gb161 (Nat.le_of_eq hg.symm)) hb); have n1_ := am (below_step (by repeat (first | (with_reducible first | exact HB.out | apply below_alloc | apply pw_below_drewN | apply below_drew1) | exact HB.out)) hb); have n2_ := am (hbox); have n3_ := am ((by rw [hg]; exact (below_size (by repeat (first | (with_reducible first | exact HB.out | apply below_alloc | apply pw_below_drewN | apply below_drew1) | exact HB.out))) : w.heap.size ≤ gb161)); have n4_ := am ((by rw [hg]; exact (below_size (by repeat (first | (with_reducible first | exact HB.out | apply below_alloc | apply pw_below_drewN | apply below_drew1) | exact HB.out))) : w.heap.size ≤ gb161)); clear HO_3; clear HB; have HO_3 := n0_; have HB := n1_; have BK161 := n2_; have GW161 := n3_; have GE161 := n4_; clear n0_ n1_ n2_ n3_ n4_; clear hb hbox hg; have hcz7_0 : w6.cell? ⟨gb161, 0, none⟩ = some (.int .i64 0) := (blk_cell BK161.out 0).trans rfl; have hcz7_1 : w6.cell? ⟨gb161, 1, none⟩ = some (.int .i64 0) := (blk_cell BK161.out 1).trans rfl; have hcz7_2 : w6.cell? ⟨gb161, 2, none⟩ = some (.string (⟨#[]⟩ : ByteArray)) := (blk_cell BK161.out 2).trans rfl; have hcz7_3 : w6.cell? ⟨gb161, 3, none⟩ = some (.slice none 0 0) := (blk_cell BK161.out 3).trans rfl; have hfz7_0 := blk_frozen BK161.out 0; have hfz7_1 := blk_frozen BK161.out 1; have hfz7_2 := blk_frozen BK161.out 2; have hfz7_3 := blk_frozen BK161.out 3) | ((with_reducible refine gate_dst (N := 16) rfl ?_); refine Kd.R_lit (Kd.int .i64) _ 3 ?hg (N := 16) ?hd (xs := ([] : List Int)) (inner := []) (ok := fun _ => True) (okp := fun _ => True) ?hr ?hp (fun _ hk => hk) trivial (Below.refl _ _) (Nat.le_refl _) (by simp) ?_; (case hd => rfl); (case hg => rfl); (case hr => first | (go_simp; done) | (go_simp; rfl)); (case hp => exact (Reps.none _ _)); intro v163 w8 ho9 hb hg_ hnew_; clear hg_ hnew_; (first | rw [← Ny162.out] at ho9 | (simp only [Int.reduceToNat] at ho9; rw [← Ny162.out] at ho9)); have n0_ := am (Kd.S_elder' (by (with_reducible repeat (first | apply Kd.S_alloc | apply Kd.S_drewN | apply Kd.S_drew)); exact (Kd.S_mono (Kd.S_far (p := ⟨gb161, 3, none⟩) (Kd.S_far (p := ⟨gb161, 2, none⟩) (Kd.S_far (p := ⟨gb161, 1, none⟩) (Kd.S_far (p := ⟨gb161, 0, none⟩) (Kd.S_mono HO_3.out (fun k_ hk => (⟨hk, hk.2⟩ : _ ∧ k_ ≠ gb161))) (fun _ hk => hk.2) (.int .i64 ((rd_T45 l0 x4_1).f0))) (fun _ hk => hk.2) (.int .i64 ((rd_T45 l0 x4_1).f1))) (fun _ hk => hk.2) (.string ((rd_T45 l0 x4_1).f2))) (fun _ hk => hk.2) (.slice A160_3 ((rd_T45 l0 x4_1).f3).length c160_3)) (fun _ h_ => h_.1))) (Kd.R_base ho9) hb); have n1_ := am (Kd.R_lower ho9 (below_size (by repeat (first | (with_reducible first | exact HB.out | apply below_alloc | apply pw_below_drewN | apply below_drew1 | refine below_set ?_ GE161.out) | exact HB.out)))); have n2_ := am (blk_below (g := gb161) (o := .cells #[.int .i64 ((rd_T45 l0 x4_1).f0), .int .i64 ((rd_T45 l0 x4_1).f1), .string ((rd_T45 l0 x4_1).f2), .slice A160_3 ((rd_T45 l0 x4_1).f3).length c160_3] 45 (0, 0)) (by (with_reducible repeat (first | refine blk_drewN ?_ _ | refine blk_drew ?_ | refine blk_alloc ?_ _)); refine blk_put (cs := #[.int .i64 ((rd_T45 l0 x4_1).f0), .int .i64 ((rd_T45 l0 x4_1).f1), .string ((rd_T45 l0 x4_1).f2), .slice none 0 0]) ?_ 3 _ rfl; (with_reducible repeat (first | refine blk_drewN ?_ _ | refine blk_drew ?_ | refine blk_alloc ?_ _)); refine blk_put (cs := #[.int .i64 ((rd_T45 l0 x4_1).f0), .int .i64 ((rd_T45 l0 x4_1).f1), .string (⟨#[]⟩ : ByteArray), .slice none 0 0]) ?_ 2 _ rfl; (with_reducible repeat (first | refine blk_drewN ?_ _ | refine blk_drew ?_ | refine blk_alloc ?_ _)); refine blk_put (cs := #[.int .i64 ((rd_T45 l0 x4_1).f0), .int .i64 0, .string (⟨#[]⟩ : ByteArray), .slice none 0 0]) ?_ 1 _ rfl; (with_reducible repeat (first | refine blk_drewN ?_ _ | refine blk_drew ?_ | refine blk_alloc ?_ _)); refine blk_put (cs := #[.int .i64 0, .int .i64 0, .string (⟨#[]⟩ : ByteArray), .slice none 0 0]) ?_ 0 _ rfl; (with_reducible repeat (first | refine blk_drewN ?_ _ | refine blk_drew ?_ | refine blk_alloc ?_ _)); exact BK161.out) hb); have n3_ := am (below_step (by repeat (first | (with_reducible first | exact HB.out | apply below_alloc | apply pw_below_drewN | apply below_drew1 | refine below_set ?_ GE161.out) | exact HB.out)) hb); clear HO_3; clear BK161; clear HB; have HO_3 := n0_; have HO164 := n1_; have BK161 := n2_; have HB := n3_; clear n0_ n1_ n2_ n3_; clear hb ho9; have hcz10_0 : w8.cell? ⟨gb161, 0, none⟩ = some (.int .i64 ((rd_T45 l0 x4_1).f0)) := (blk_cell BK161.out 0).trans rfl; have hcz10_1 : w8.cell? ⟨gb161, 1, none⟩ = some (.int .i64 ((rd_T45 l0 x4_1).f1)) := (blk_cell BK161.out 1).trans rfl; have hcz10_2 : w8.cell? ⟨gb161, 2, none⟩ = some (.string ((rd_T45 l0 x4_1).f2)) := (blk_cell BK161.out 2).trans rfl; have hcz10_3 : w8.cell? ⟨gb161, 3, none⟩ = some (.slice A160_3 ((rd_T45 l0 x4_1).f3).length c160_3) := (blk_cell BK161.out 3).trans rfl; have hfz10_0 := blk_frozen BK161.out 0; have hfz10_1 := blk_frozen BK161.out 1; have hfz10_2 := blk_frozen BK161.out 2; have hfz10_3 := blk_frozen BK161.out 3) | ((with_reducible refine gate_builtin (b := .append) (xs := #[.tmp 16, .tmp 18]) rfl ?_); at_builtin; refine Kd.R_append_rows (Kd.int .i64) (w0 := w) w.heap.size rfl (.tmp 16) (.tmp 18) 43 3 (.int .i64 0) 8 rfl Tryd.underlying43 info3 rfl (by decide) (by omega) v163 y162 ((rd_T45 l0 x4_1).f3) _ _ _ (fun _ => True) (fun _ => False) rfl rfl ?aO ?aR (fun _ _ h => h) (fun _ h => h.elim) ?aF ?aB ?aS ?aL ?_; (case aR => repeat (first | exact (Kd.C_below HR160_3.out HB.out) | (with_reducible refine Kd.C_alloc ?_ _) | (with_reducible refine Kd.C_drewN ?_ _) | (with_reducible refine Kd.C_drew ?_))); (case aB => exact (by repeat (first | (with_reducible first | exact HB.out | apply below_alloc | apply pw_below_drewN | apply below_drew1 | refine below_set ?_ GE161.out) | exact HB.out))); (case aF => exact (fun _ _ => trivial)); (case aO => exact (by (with_reducible repeat (first | apply Kd.R_alloc | apply Kd.R_drewN | apply Kd.R_drew)); exact HO164.out)); (case aS => exact (below_size (by repeat (first | (with_reducible first | exact HB.out | apply below_alloc | apply pw_below_drewN | apply below_drew1 | refine below_set ?_ GE161.out) | exact HB.out)))); (case aL => have := LMc4.out; omega); intro v166 w11 ho hb hg hat; rw [← Ny165.out] at ho; have n0_ := am (Kd.S_after (ok := (fun k_ => k_ ≠ gb161)) (by (with_reducible repeat (first | apply Kd.S_alloc | apply Kd.S_drewN | apply Kd.S_drew)); exact Kd.S_mono HO_3.out (fun _ hk => ⟨hk.1.2, hk.2⟩)) hg hat); have n1_ := am (blk_grown (g := gb161) (o := .cells #[.int .i64 ((rd_T45 l0 x4_1).f0), .int .i64 ((rd_T45 l0 x4_1).f1), .string ((rd_T45 l0 x4_1).f2), .slice A160_3 ((rd_T45 l0 x4_1).f3).length c160_3] 45 (0, 0)) (by (with_reducible repeat (first | refine blk_drewN ?_ _ | refine blk_drew ?_ | refine blk_alloc ?_ _)); exact BK161.out) hg (Kd.R_ne HO164.out BK161.out (by decide))); have n2_ := am (hb); have n3_ := am (ho); clear HO_3; clear BK161; clear HB; clear HO164; have HO_3 := n0_; have BK161 := n1_; have HB := n2_; have HO167 := n3_; clear n0_ n1_ n2_ n3_; clear ho hb hg hat; obtain ⟨Ao12, co12, eo12⟩ := Kd.R_slice HO167.out; subst eo12; have hcz13_0 : w11.cell? ⟨gb161, 0, none⟩ = some (.int .i64 ((rd_T45 l0 x4_1).f0)) := (blk_cell BK161.out 0).trans rfl; have hcz13_1 : w11.cell? ⟨gb161, 1, none⟩ = some (.int .i64 ((rd_T45 l0 x4_1).f1)) := (blk_cell BK161.out 1).trans rfl; have hcz13_2 : w11.cell? ⟨gb161, 2, none⟩ = some (.string ((rd_T45 l0 x4_1).f2)) := (blk_cell BK161.out 2).trans rfl; have hcz13_3 : w11.cell? ⟨gb161, 3, none⟩ = some (.slice A160_3 ((rd_T45 l0 x4_1).f3).length c160_3) := (blk_cell BK161.out 3).trans rfl; have hfz13_0 := blk_frozen BK161.out 0; have hfz13_1 := blk_frozen BK161.out 1; have hfz13_2 := blk_frozen BK161.out 2; have hfz13_3 := blk_frozen BK161.out 3) | ((with_reducible refine gate_store (t := 43) (p := 20) rfl ?_); refine store_event (t := 43) (p := 20) (v := ?vo_w14) (w1 := (w11.setCell ⟨gb161, 3, none⟩ (.slice Ao12 y165.length co12))) ?hg ?ho ?hn ?hr ?_; (case ho => rfl); (case hg => rfl); (case hn => rfl); (case hr => first | (go_simp; done) | (go_simp; rfl)); intro w14 hw; have n0_ : Aside0 (Kd.S k45 45 w14 w.heap.size (fun k_ => some k_ ≠ (.slice Ao12 y165.length co12 : Value).ownBlock ∧ k_ ≠ gb161) u3 x3_1) := ⟨(by rw [hw]; exact (by (with_reducible repeat (first | apply Kd.S_alloc | apply Kd.S_drewN | apply Kd.S_drew)); exact Kd.S_mono (Kd.S_far (p := ⟨gb161, 3, none⟩) (Kd.S_mono HO_3.out (fun k_ hk => (⟨hk, hk.1⟩ : _ ∧ k_ ≠ gb161))) (fun _ hk => hk.2) (.slice Ao12 y165.length co12)) (fun _ hk => ⟨hk.1.2, hk.1.1⟩)))⟩; have n1_ : Aside0 (Kd.R (Kd.int .i64) 3 w14 w.heap.size (fun _ => True) (.slice Ao12 y165.length co12) y165) := ⟨(by rw [hw]; exact (by (with_reducible repeat (first | apply Kd.R_alloc | apply Kd.R_drewN | apply Kd.R_drew)); exact Kd.R_mono (Kd.R_far (p := ⟨gb161, 3, none⟩) (Kd.R_types HO167.out BK161.out (by decide)) (fun _ hk => hk.2) (.slice Ao12 y165.length co12)) (fun _ hk => trivial)))⟩; have n2_ : Aside0 (w14.heap[gb161]? = some (.cells #[.int .i64 ((rd_T45 l0 x4_1).f0), .int .i64 ((rd_T45 l0 x4_1).f1), .string ((rd_T45 l0 x4_1).f2), .slice Ao12 y165.length co12] 45 (0, 0))) := ⟨(by rw [hw]; exact (by (with_reducible repeat (first | refine blk_drewN ?_ _ | refine blk_drew ?_ | refine blk_alloc ?_ _)); refine blk_put (cs := #[.int .i64 ((rd_T45 l0 x4_1).f0), .int .i64 ((rd_T45 l0 x4_1).f1), .string ((rd_T45 l0 x4_1).f2), .slice A160_3 ((rd_T45 l0 x4_1).f3).length c160_3]) ?_ 3 _ rfl; (with_reducible repeat (first | refine blk_drewN ?_ _ | refine blk_drew ?_ | refine blk_alloc ?_ _)); exact BK161.out))⟩; have n3_ : Aside0 (Below w.heap.size w w14) := ⟨(by rw [hw]; exact (by repeat (first | (with_reducible first | exact HB.out | apply below_alloc | apply pw_below_drewN | apply below_drew1 | refine below_set ?_ GE161.out) | exact HB.out)))⟩; clear hw; clear HO_3; clear HO167; clear BK161; clear HB; have HO_3 := n0_; have HO167 := n1_; have BK161 := n2_; have HB := n3_; clear n0_ n1_ n2_ n3_; have hcz15_0 : w14.cell? ⟨gb161, 0, none⟩ = some (.int .i64 ((rd_T45 l0 x4_1).f0)) := (blk_cell BK161.out 0).trans rfl; have hcz15_1 : w14.cell? ⟨gb161, 1, none⟩ = some (.int .i64 ((rd_T45 l0 x4_1).f1)) := (blk_cell BK161.out 1).trans rfl; have hcz15_2 : w14.cell? ⟨gb161, 2, none⟩ = some (.string ((rd_T45 l0 x4_1).f2)) := (blk_cell BK161.out 2).trans rfl; have hcz15_3 : w14.cell? ⟨gb161, 3, none⟩ = some (.slice Ao12 y165.length co12) := (blk_cell BK161.out 3).trans rfl; have hfz15_0 := blk_frozen BK161.out 0; have hfz15_1 := blk_frozen BK161.out 1; have hfz15_2 := blk_frozen BK161.out 2; have hfz15_3 := blk_frozen BK161.out 3) | ((with_reducible refine gate_builtin (b := .append) (xs := #[.tmp 21, .tmp 23]) rfl ?_); at_builtin; refine Kd.S_append k45 (w0 := w) w.heap.size rfl (.tmp 21) (.tmp 23) 30 45 (.agg #[(.int .i64 0), (.int .i64 0), (.string ⟨#[]⟩), (.slice none 0 0)]) 56 rfl Tryd.underlying30 info45 rfl (by decide) (by omega) u3 x3_1 (⟨(rd_T45 l0 x4_1).f0, (rd_T45 l0 x4_1).f1, (rd_T45 l0 x4_1).f2, y165⟩ : S45) [.int .i64 ((rd_T45 l0 x4_1).f0), .int .i64 ((rd_T45 l0 x4_1).f1), .string ((rd_T45 l0 x4_1).f2), .slice Ao12 y165.length co12] (fun k_ => k_ ≠ gb161) (fun k_ => some k_ = (.slice Ao12 y165.length co12 : Value).ownBlock) rfl rfl ?aP (fun k_ hk_ => ((Kd.R_mono (ok' := fun k_ => ((fun k_ => k_ ≠ gb161)) k_ ∧ some k_ ≠ (u3 : Value).ownBlock) (Kd.R_types (Kd.R_apart' (HO167.out) (Kd.S_typed HO_3.out) (by decide)) BK161.out (by decide)) (fun k_ hk => ⟨hk.2, hk.1.2⟩))).1 k_ hk_.symm) ?aF ?aO ?aB ?aS ?aL ?_; (case aP => exact k45_mkM _ _ _ (⟨(rd_T45 l0 x4_1).f0, (rd_T45 l0 x4_1).f1, (rd_T45 l0 x4_1).f2, y165⟩ : S45) (Kd.R_mono (Kd.R_tight rfl (Kd.R_mono (ok' := fun k_ => ((fun k_ => k_ ≠ gb161)) k_ ∧ some k_ ≠ (u3 : Value).ownBlock) (Kd.R_types (Kd.R_apart' (HO167.out) (Kd.S_typed HO_3.out) (by decide)) BK161.out (by decide)) (fun k_ hk => ⟨hk.2, hk.1.2⟩))) (fun _ h_ => h_))); (case aB => exact (by repeat (first | (with_reducible first | exact HB.out | apply below_alloc | apply pw_below_drewN | apply below_drew1 | refine below_set ?_ GE161.out) | exact HB.out))); (case aF => exact (fun k_ hk => Kd.freshB (g := gb161) (o := .cells #[.int .i64 ((rd_T45 l0 x4_1).f0), .int .i64 ((rd_T45 l0 x4_1).f1), .string ((rd_T45 l0 x4_1).f2), .slice Ao12 y165.length co12] 45 (0, 0)) (by (with_reducible repeat (first | refine blk_drewN ?_ _ | refine blk_drew ?_ | refine blk_alloc ?_ _)); exact BK161.out) k_ hk)); (case aO => exact (by (with_reducible repeat (first | apply Kd.S_alloc | apply Kd.S_drewN | apply Kd.S_drew)); exact Kd.S_mono HO_3.out (fun k_ hk => ⟨hk.2, fun e_ => hk.1 e_⟩))); (case aS => exact (below_size (by repeat (first | (with_reducible first | exact HB.out | apply below_alloc | apply pw_below_drewN | apply below_drew1 | refine below_set ?_ GE161.out) | exact HB.out)))); (case aL => have := LMc5.out; omega); intro v169 w16 ho hb hg hat; rw [← Ny168.out] at ho; have n0_ := am (blk_grown (g := gb161) (o := .cells #[.int .i64 ((rd_T45 l0 x4_1).f0), .int .i64 ((rd_T45 l0 x4_1).f1), .string ((rd_T45 l0 x4_1).f2), .slice Ao12 y165.length co12] 45 (0, 0)) (by (with_reducible repeat (first | refine blk_drewN ?_ _ | refine blk_drew ?_ | refine blk_alloc ?_ _)); exact BK161.out) hg (Kd.S_away HO_3.out (fun _ hk => hk.2))); have n1_ := am (hb); have n2_ := am (ho); clear BK161; clear HB; clear HO_3; clear HO167; have BK161 := n0_; have HB := n1_; have HO170 := n2_; clear n0_ n1_ n2_; clear ho hb hg hat))
      go_roundg k1
      case measure => have := HK1.out; omega
      case rel => exact ⟨(y168), (wrap64 (x4_1 + 1)), (by first | rfl | (simp; done) | (simp [*]; done)), H', ⟨by have := HK1.out; omega⟩, ⟨by (with_reducible repeat (first | apply Kd.S_alloc | apply Kd.S_drewN | apply Kd.S_drew)); exact Kd.S_mono HO170.out (fun _ hk => trivial)⟩, ⟨by repeat (first | (with_reducible first | exact HB.out | apply below_alloc | apply pw_below_drewN | apply below_drew1 | refine below_set ?_ GE161.out) | exact HB.out)⟩⟩
/-! ### sorrelref02_walk: function 84 -/
mutual
def sorrelref02_walk.l0 : Nat → List (S45) → Int → List Int → Int → Option (Int)
  | 0, _, _, _, _ => none
  | k + 1, x0, x5, x6, x7 => if x7 ≥ 0 then (if 0 ≤ x7 then (if x7 < (x6.length : Int) then (if (rd x6 x7) = x5 then ((sorrelref02_walk.f k x0 x5).bind fun t173 => (if t173 = (-2) then (some (-2)) else (sorrelref02_walk.l0 k x0 t173 x6 (wrap64 (x7 - 1))))) else (some (-2))) else (none)) else (none)) else (some x5)
def sorrelref02_walk.f : Nat → List (S45) → Int → Option (Int)
  | 0, _, _ => none
  | k + 1, l0, a1 => if a1 < 0 then (some (-2)) else (if 0 ≤ a1 then (if a1 < (l0.length : Int) then (sorrelref02_walk.l0 k l0 (wrap64 (a1 - 1)) ((rd_T45 l0 a1).f3) (wrap64 ((((rd_T45 l0 a1).f3).length : Int) - 1))) else (none)) else (none))
end
theorem sorrelref02_walk.mono_l : ∀ k, (∀ y0 y1, LeO (sorrelref02_walk.f k y0 y1) (sorrelref02_walk.f (k + 1) y0 y1)) ∧ (∀ y0 y1 y2 y3, LeO (sorrelref02_walk.l0 k y0 y1 y2 y3) (sorrelref02_walk.l0 (k + 1) y0 y1 y2 y3))
  | 0 => ⟨fun _ _ r h => by simp [sorrelref02_walk.f] at h, fun _ _ _ _ r h => by simp [sorrelref02_walk.l0] at h⟩
  | k + 1 => by
    obtain ⟨ih0, ih1⟩ := sorrelref02_walk.mono_l k
    refine ⟨?_, ?_⟩
    rotate_left
    · intro y0 y1 y2 y3
      unfold sorrelref02_walk.l0
      repeat' first
      | (with_reducible exact ih0 _ _)
      | (with_reducible exact ih1 _ _ _ _)
      | (with_reducible exact LeO.refl _)
      | (with_reducible exact LeO.none _)
      | (with_reducible refine LeO.ite ?_ ?_)
      | (with_reducible refine LeO.bind ?_ (fun _ => ?_))
      | exact ih0 _ _
      | exact ih1 _ _ _ _
      | exact LeO.none _
      | refine LeO.ite ?_ ?_
      | refine LeO.bind ?_ (fun _ => ?_)
    intro y0 y1
    unfold sorrelref02_walk.f
    repeat' first
    | (with_reducible exact ih0 _ _)
    | (with_reducible exact ih1 _ _ _ _)
    | (with_reducible exact LeO.refl _)
    | (with_reducible exact LeO.none _)
    | (with_reducible refine LeO.ite ?_ ?_)
    | (with_reducible refine LeO.bind ?_ (fun _ => ?_))
    | exact ih0 _ _
    | exact ih1 _ _ _ _
    | exact LeO.none _
    | refine LeO.ite ?_ ?_
    | refine LeO.bind ?_ (fun _ => ?_)
theorem sorrelref02_walk.mono : ∀ a0 a1 k, LeO (sorrelref02_walk.f k a0 a1) (sorrelref02_walk.f (k + 1) a0 a1) := by
  intro a0 a1 k
  obtain ⟨ih0, ih1⟩ := sorrelref02_walk.mono_l k
  exact ih0 a0 a1
set_option maxHeartbeats 8000000 in
set_option maxRecDepth 100000 in
theorem sorrelref02_walk.calls (k : Nat) : ∀ (A0 : Option Addr) (c0 : Nat) (l0 : List (S45)) (a1 : Int) (r : Int) (w : World) (hr0 : Kd.C k45 w A0 l0.length l0) (hc0 : l0.length ≤ c0) (h : sorrelref02_walk.f k l0 a1 = some r),
    Calls Tryd.prog 84 #[.slice A0 l0.length c0, .int .i64 a1] w fun e w' => e = .returned (.int .i64 r) ∧ Drawn0 w w' := by
  induction k using Nat.strongRecOn with
  | _ k ih =>
  intro A0 c0 l0 a1 r w hr0 hc0 h
  cases k with
  | zero => exact absurd h (by simp [sorrelref02_walk.f])
  | succ k =>
  simp only [sorrelref02_walk.f] at h
  have HR0 := am hr0
  have HC0 := am hc0
  clear hr0 hc0
  have H : (if a1 < 0 then (some (-2)) else (if 0 ≤ a1 then (if a1 < (l0.length : Int) then (sorrelref02_walk.l0 k l0 (wrap64 (a1 - 1)) ((rd_T45 l0 a1).f3) (wrap64 ((((rd_T45 l0 a1).f3).length : Int) - 1))) else (none)) else (none))) = some r := h
  clear h
  by_cases c3 : a1 < 0
  · rw [if_pos c3] at H
    have c3b0 : decide (a1 < 0) = true := decide_eq_true c3
    clear c3
    obtain rfl := Option.some.inj H
    go_enter Tryd.func84, Tryd.ntmps84
    go_wp2
    go_ret
    exact ⟨by first | rfl | (simp; done) | (simp [*]; done), by repeat (first | exact Drawn0.refl _ | apply Drawn0.step)⟩
  rw [if_neg c3] at H
  have c3b0 : decide (a1 < 0) = false := decide_eq_false c3
  clear c3
  by_cases c4 : 0 ≤ a1
  rotate_left
  · rw [if_neg c4] at H
    exact absurd H (by simp)
  rw [if_pos c4] at H
  have c4b0 : decide (0 ≤ a1) = true := decide_eq_true c4
  clear c4
  by_cases c5 : a1 < (l0.length : Int)
  rotate_left
  · rw [if_neg c5] at H
    exact absurd H (by simp)
  rw [if_pos c5] at H
  have c5b0 : decide (a1 < (l0.length : Int)) = true := decide_eq_true c5
  clear c5
  have H' := am H
  clear H
  have p171 : 0 ≤ (a1 : Int) := of_decide_eq_true (by first | (with_reducible assumption) | assumption)
  have q171 : a1 < (l0.length : Int) := of_decide_eq_true (by first | (with_reducible assumption) | assumption)
  obtain ⟨ad171, A171_3, c171_3, e171, hx171_0, hx171_1, hx171_2, hx171_3, hl171_3, hi171_3⟩ := at_T45 HR0.out a1 p171 q171
  cases e171
  have HR171_3 := am hi171_3
  have HC171_3 := am hl171_3
  clear hi171_3 hl171_3
  replace p171 := eq_true p171
  replace q171 := eq_true q171
  go_enter Tryd.func84, Tryd.ntmps84
  go_wp2
  go_loopg [5, 7] k (fun kq v5 v7 w' => ∃ (x5_1 : Int) (x7_1 : Int), v5 = .int .i64 x5_1 ∧ v7 = .int .i64 x7_1 ∧ Aside0 (sorrelref02_walk.l0 kq l0 x5_1 ((rd_T45 l0 a1).f3) x7_1 = some r) ∧ Aside0 (kq ≤ k) ∧ Drawn0 w w')
  case atStart => exact ⟨(wrap64 (a1 - 1)), (wrap64 ((((rd_T45 l0 a1).f3).length : Int) - 1)), (by first | rfl | (simp; done) | (simp [*]; done)), (by first | rfl | (simp; done) | (simp [*]; done)), H', ⟨Nat.le_refl _⟩, by repeat (first | exact Drawn0.refl _ | apply Drawn0.step)⟩
  case round =>
    clear H'
    try clear c1
    try clear p1
    try clear q1
    try clear hx1
    try clear p2
    try clear c3
    try clear c3b0
    try clear c4
    try clear c4b0
    try clear c5
    try clear c5b0
    try clear hx171_0
    try clear hx171_1
    try clear hx171_2
    try clear hx171_3
    try clear p171
    try clear q171
    obtain ⟨x5_1, x7_1, rfl, rfl, HA, HK1, ⟨m1, rfl⟩⟩ := hrel
    cases gk with
    | zero => exact absurd HA.out (by simp [sorrelref02_walk.l0])
    | succ k1 =>
      have H := HA.out
      clear HA
      simp only [sorrelref02_walk.l0] at H
      by_cases c6 : x7_1 ≥ 0
      rotate_left
      · rw [if_neg c6] at H
        have c6b0 : decide (0 ≤ x7_1) = false := decide_eq_false c6
        clear c6
        obtain rfl := Option.some.inj H
        go_wp2
        go_ret
        exact ⟨by first | rfl | (simp; done) | (simp [*]; done), by repeat (first | exact Drawn0.refl _ | apply Drawn0.step)⟩
      rw [if_pos c6] at H
      have c6b0 : decide (0 ≤ x7_1) = true := decide_eq_true c6
      clear c6
      by_cases c7 : 0 ≤ x7_1
      rotate_left
      · rw [if_neg c7] at H
        exact absurd H (by simp)
      rw [if_pos c7] at H
      have c7b0 : decide (0 ≤ x7_1) = true := decide_eq_true c7
      clear c7
      by_cases c8 : x7_1 < (((rd_T45 l0 a1).f3).length : Int)
      rotate_left
      · rw [if_neg c8] at H
        exact absurd H (by simp)
      rw [if_pos c8] at H
      have c8b0 : decide (x7_1 < (((rd_T45 l0 a1).f3).length : Int)) = true := decide_eq_true c8
      clear c8
      by_cases c9 : (rd ((rd_T45 l0 a1).f3) x7_1) = x5_1
      rotate_left
      · rw [if_neg c9] at H
        have c9b0 : ((rd ((rd_T45 l0 a1).f3) x7_1) == x5_1) = false := beq_eq_false_iff_ne.mpr c9
        have c9b1 : ((rd ((rd_T45 l0 a1).f3) x7_1) != x5_1) = true := bne_iff_ne.mpr c9
        obtain rfl := Option.some.inj H
        have p172 : 0 ≤ (x7_1 : Int) := of_decide_eq_true (by first | (with_reducible assumption) | assumption)
        have q172 : x7_1 < (((rd_T45 l0 a1).f3).length : Int) := of_decide_eq_true (by first | (with_reducible assumption) | assumption)
        obtain ⟨ad172, e172, hx172_0⟩ := Kd.at_int HR171_3.out x7_1 p172 q172
        cases e172
        replace p172 := eq_true p172
        replace q172 := eq_true q172
        go_wp2
        go_ret
        exact ⟨by first | rfl | (simp; done) | (simp [*]; done), by repeat (first | exact Drawn0.refl _ | apply Drawn0.step)⟩
      rw [if_pos c9] at H
      have c9b0 : ((rd ((rd_T45 l0 a1).f3) x7_1) == x5_1) = true := beq_iff_eq.mpr c9
      have c9b1 : ((rd ((rd_T45 l0 a1).f3) x7_1) != x5_1) = false := bne_eq_false_iff_eq.mpr c9
      clear c9
      replace H := Option.bind_eq_some_iff.mp H
      obtain ⟨t173, A100, H⟩ := H
      replace H : (if t173 = (-2) then (some (-2)) else (sorrelref02_walk.l0 k1 l0 t173 ((rd_T45 l0 a1).f3) (wrap64 (x7_1 - 1)))) = some r := H
      have A10 := am A100
      clear A100
      by_cases c11 : t173 = (-2)
      · rw [if_pos c11] at H
        have c11b0 : (t173 == (-2)) = true := beq_iff_eq.mpr c11
        have c11b1 : (t173 != (-2)) = false := bne_eq_false_iff_eq.mpr c11
        clear c11
        obtain rfl := Option.some.inj H
        have p172 : 0 ≤ (x7_1 : Int) := of_decide_eq_true (by first | (with_reducible assumption) | assumption)
        have q172 : x7_1 < (((rd_T45 l0 a1).f3).length : Int) := of_decide_eq_true (by first | (with_reducible assumption) | assumption)
        obtain ⟨ad172, e172, hx172_0⟩ := Kd.at_int HR171_3.out x7_1 p172 q172
        cases e172
        replace p172 := eq_true p172
        replace q172 := eq_true q172
        go_wp2_with (first | ((with_reducible refine gate_callee (f := 84) rfl ?_); refine goesL_ (some 32) rfl rfl Tryd.func84 (by kernel_rfl) rfl #[.slice (some ad171) l0.length c0, .int .i64 x5_1] rfl (by (try simp only [List.map_toArray, List.map_cons, List.map_nil]); first | done | rfl | (simp only [List.length_drop, List.length_take]; rfl)) ?_; (with_reducible refine (ih k1 (by have := HK1.out; omega) _ _ l0 x5_1 t173 _ ?side1 ?side2 A10.out).mono ?_); (case side1 => repeat (first | exact HR0.out | (with_reducible refine Kd.C_alloc ?_ _) | (with_reducible refine Kd.C_drewN ?_ _) | (with_reducible refine Kd.C_drew ?_))); (case side2 => exact HC0.out); rintro e w' ⟨rfl, ⟨nd, rfl⟩⟩; refine ⟨_, rfl, ?_⟩))
        go_ret
        exact ⟨by first | rfl | (simp; done) | (simp [*]; done), by repeat (first | exact Drawn0.refl _ | apply Drawn0.step)⟩
      rw [if_neg c11] at H
      have c11b0 : (t173 == (-2)) = false := beq_eq_false_iff_ne.mpr c11
      have c11b1 : (t173 != (-2)) = true := bne_iff_ne.mpr c11
      have H' := am H
      clear H
      have p172 : 0 ≤ (x7_1 : Int) := of_decide_eq_true (by first | (with_reducible assumption) | assumption)
      have q172 : x7_1 < (((rd_T45 l0 a1).f3).length : Int) := of_decide_eq_true (by first | (with_reducible assumption) | assumption)
      obtain ⟨ad172, e172, hx172_0⟩ := Kd.at_int HR171_3.out x7_1 p172 q172
      cases e172
      replace p172 := eq_true p172
      replace q172 := eq_true q172
      go_wp2_with (first | ((with_reducible refine gate_callee (f := 84) rfl ?_); refine goesL_ (some 32) rfl rfl Tryd.func84 (by kernel_rfl) rfl #[.slice (some ad171) l0.length c0, .int .i64 x5_1] rfl (by (try simp only [List.map_toArray, List.map_cons, List.map_nil]); first | done | rfl | (simp only [List.length_drop, List.length_take]; rfl)) ?_; (with_reducible refine (ih k1 (by have := HK1.out; omega) _ _ l0 x5_1 t173 _ ?side1 ?side2 A10.out).mono ?_); (case side1 => repeat (first | exact HR0.out | (with_reducible refine Kd.C_alloc ?_ _) | (with_reducible refine Kd.C_drewN ?_ _) | (with_reducible refine Kd.C_drew ?_))); (case side2 => exact HC0.out); rintro e w' ⟨rfl, ⟨nd, rfl⟩⟩; refine ⟨_, rfl, ?_⟩))
      go_roundg k1
      case measure => have := HK1.out; omega
      case rel => exact ⟨(t173), (wrap64 (x7_1 - 1)), (by first | rfl | (simp; done) | (simp [*]; done)), (by first | rfl | (simp; done) | (simp [*]; done)), H', ⟨by have := HK1.out; omega⟩, by repeat (first | exact Drawn0.refl _ | apply Drawn0.step)⟩
end Go.Proofs.YtacjjfoelhckcaaDoor.PExprPlays
