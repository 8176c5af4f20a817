/- Contracts of functions, printed by the session's own changed copy of the print generator (see its notes); the plain functions tell what the calls answer. -/
import Derived.Test.YtacjjfoelhckcaaDoorPExprPlaysx0
import Derived.Test.YtacjjfoelhckcaaDoorPExprPlaysx4
import Derived.Test.YtacjjfoelhckcaaDoorPExprPlaysx5
namespace Go.Proofs.YtacjjfoelhckcaaDoor.PExprPlays
open Go.RowKit Go.Proofs.YtacjjfoelhckcaaDoorW.PrintWords Go.Proofs.YtacjjfoelhckcaaDoorW.PrintLast Go.Proofs.YtacjjfoelhckcaaDoorW.PrintMore
attribute [local go_sem] max2_int min2_int max_two min_two max_three min_three max_four min_four   -- for this text's walks alone
set_option linter.unusedVariables false
set_option linter.unusedSimpArgs false
/-! ### sorrelref02_PartOf: function 119 -/
mutual
def sorrelref02_PartOf.l0 : Nat → Int → List (S45) → Int → Option ((List (S45)))
  | 0, _, _, _ => none
  | k + 1, x5, x6, x7 => if x7 < (x6.length : Int) then (sorrelref02_PartOf.l1 k x5 x6 x7 0) else (some x6)
def sorrelref02_PartOf.l1 : Nat → Int → List (S45) → Int → Int → Option ((List (S45)))
  | 0, _, _, _, _ => none
  | k + 1, x5, x6, x7, x8 => if 0 ≤ x7 then (if x7 < (x6.length : Int) then (if x8 < (((rd_T45 x6 x7).f3).length : Int) then (if 0 ≤ x8 then (sorrelref02_PartOf.l1 k x5 (x6.set (x7 : Int).toNat (⟨(rd_T45 x6 x7).f0, (rd_T45 x6 x7).f1, (rd_T45 x6 x7).f2, (((rd_T45 x6 x7).f3).set (x8 : Int).toNat (wrap64 ((rd ((rd_T45 x6 x7).f3) x8) - x5)))⟩ : S45)) x7 (wrap64 (x8 + 1))) else (none)) else (sorrelref02_PartOf.l0 k x5 x6 (wrap64 (x7 + 1)))) else (none)) else (none)
end
def sorrelref02_PartOf.f (k : Nat) (l0 : List (S45)) (a1 : Int) : Option ((List (S45))) := (sorrelref02_walk.f k l0 a1).bind fun t240 => (if 0 ≤ (wrap64 (t240 + 1)) then (if (wrap64 (t240 + 1)) ≤ (wrap64 (a1 + 1)) then (if (wrap64 (a1 + 1)) ≤ (l0.length : Int) then ((sorrelref02_Copy.f k ((l0.take ((wrap64 (a1 + 1)) : Int).toNat).drop ((wrap64 (t240 + 1)) : Int).toNat)).bind fun t245 => (sorrelref02_PartOf.l0 k (wrap64 (t240 + 1)) t245 0)) else (none)) else (none)) else (none))
theorem sorrelref02_PartOf.mono_l : ∀ k, (∀ y0 y1 y2, LeO (sorrelref02_PartOf.l0 k y0 y1 y2) (sorrelref02_PartOf.l0 (k + 1) y0 y1 y2)) ∧ (∀ y0 y1 y2 y3, LeO (sorrelref02_PartOf.l1 k y0 y1 y2 y3) (sorrelref02_PartOf.l1 (k + 1) y0 y1 y2 y3))
  | 0 => ⟨fun _ _ _ r h => by simp [sorrelref02_PartOf.l0] at h, fun _ _ _ _ r h => by simp [sorrelref02_PartOf.l1] at h⟩
  | k + 1 => by
    obtain ⟨ih0, ih1⟩ := sorrelref02_PartOf.mono_l k
    refine ⟨?_, ?_⟩
    rotate_left
    · intro y0 y1 y2 y3
      unfold sorrelref02_PartOf.l1
      repeat' first
      | (with_reducible exact ih0 _ _ _)
      | (with_reducible exact ih1 _ _ _ _)
      | (with_reducible exact sorrelref02_Copy.mono _ _)
      | (with_reducible exact sorrelref02_walk.mono _ _ _)
      | (with_reducible exact LeO.refl _)
      | (with_reducible exact LeO.none _)
      | (with_reducible refine LeO.ite ?_ ?_)
      | (with_reducible refine LeO.bind ?_ (fun _ => ?_))
      | exact ih0 _ _ _
      | exact ih1 _ _ _ _
      | exact sorrelref02_Copy.mono _ _
      | exact sorrelref02_walk.mono _ _ _
      | exact LeO.none _
      | refine LeO.ite ?_ ?_
      | refine LeO.bind ?_ (fun _ => ?_)
    intro y0 y1 y2
    unfold sorrelref02_PartOf.l0
    repeat' first
    | (with_reducible exact ih0 _ _ _)
    | (with_reducible exact ih1 _ _ _ _)
    | (with_reducible exact sorrelref02_Copy.mono _ _)
    | (with_reducible exact sorrelref02_walk.mono _ _ _)
    | (with_reducible exact LeO.refl _)
    | (with_reducible exact LeO.none _)
    | (with_reducible refine LeO.ite ?_ ?_)
    | (with_reducible refine LeO.bind ?_ (fun _ => ?_))
    | exact ih0 _ _ _
    | exact ih1 _ _ _ _
    | exact sorrelref02_Copy.mono _ _
    | exact sorrelref02_walk.mono _ _ _
    | exact LeO.none _
    | refine LeO.ite ?_ ?_
    | refine LeO.bind ?_ (fun _ => ?_)
theorem sorrelref02_PartOf.mono : ∀ a0 a1 k, LeO (sorrelref02_PartOf.f k a0 a1) (sorrelref02_PartOf.f (k + 1) a0 a1) := by
  intro a0 a1 k
  obtain ⟨ih0, ih1⟩ := sorrelref02_PartOf.mono_l k
  unfold sorrelref02_PartOf.f
  repeat' first
      | (with_reducible exact ih0 _ _ _)
      | (with_reducible exact ih1 _ _ _ _)
      | (with_reducible exact sorrelref02_Copy.mono _ _)
      | (with_reducible exact sorrelref02_walk.mono _ _ _)
      | (with_reducible exact LeO.refl _)
      | (with_reducible exact LeO.none _)
      | (with_reducible refine LeO.ite ?_ ?_)
      | (with_reducible refine LeO.bind ?_ (fun _ => ?_))
      | exact ih0 _ _ _
      | exact ih1 _ _ _ _
      | exact sorrelref02_Copy.mono _ _
      | exact sorrelref02_walk.mono _ _ _
      | exact LeO.none _
      | refine LeO.ite ?_ ?_
      | refine LeO.bind ?_ (fun _ => ?_)
def sorrelref02_PartOf.T9 : Bool × List (List Nat × List Nat) := (true, [([], []), ([], []), ([0, 1], [0, 1]), ([2], [2]), ([3], [3]), ([], []), ([], []), ([], []), ([6, 7], [6, 7]), ([8], [8]), ([9], [9]), ([], []), ([10, 11], [10, 11]), ([12], [12]), ([], []), ([13, 14], [13, 14]), ([4, 5, 0, 1, 2, 3, 4, 5, 6, 7, 8, 9, 10, 11, 12, 13, 14, 15], [4, 5]), ([16, 15, 0, 1, 2, 3, 4, 5, 6, 7, 8, 9, 10, 11, 12, 13, 14, 15], [15, 16])])
def sorrelref02_PartOf.B9 : List Nat := [0, 0, 3, 7, 15, 0, 0, 0, 192, 448, 960, 0, 4032, 8128, 0, 32704, 65535, 131071]
theorem sorrelref02_PartOf.tab9 : rtab .any (opsOf Tryd.f119 9) = sorrelref02_PartOf.T9 := by kernel_rfl
theorem sorrelref02_PartOf.bits9 : waitsOk sorrelref02_PartOf.T9.2 sorrelref02_PartOf.B9 = true := by kernel_rfl
set_option maxHeartbeats 8000000 in
set_option maxRecDepth 100000 in
theorem sorrelref02_PartOf.calls (k : Nat) (A0 : Option Addr) (c0 : Nat) (l0 : List (S45)) (a1 : Int) (r : List (S45)) (w : World) (hr0 : Kd.C k45 w A0 l0.length l0) (hc0 : l0.length ≤ c0) (h : sorrelref02_PartOf.f k l0 a1 = some r) :
    Calls Tryd.prog 119 #[.slice A0 l0.length c0, .int .i64 a1] w fun e w' => ∃ v0_ : Value, e = .returned (v0_) ∧ Kd.S k45 45 w' w.heap.size (fun _ => True) v0_ r ∧ Below w.heap.size w w' := by
  have HR0 := am hr0
  have HC0 := am hc0
  clear hr0 hc0
  have HB := am (Below.refl w.heap.size w)
  have H : ((sorrelref02_walk.f k l0 a1).bind fun t240 => (if 0 ≤ (wrap64 (t240 + 1)) then (if (wrap64 (t240 + 1)) ≤ (wrap64 (a1 + 1)) then (if (wrap64 (a1 + 1)) ≤ (l0.length : Int) then ((sorrelref02_Copy.f k ((l0.take ((wrap64 (a1 + 1)) : Int).toNat).drop ((wrap64 (t240 + 1)) : Int).toNat)).bind fun t245 => (sorrelref02_PartOf.l0 k (wrap64 (t240 + 1)) t245 0)) else (none)) else (none)) else (none))) = some r := h
  clear h
  replace H := Option.bind_eq_some_iff.mp H
  obtain ⟨t240, A30, H⟩ := H
  replace H : (if 0 ≤ (wrap64 (t240 + 1)) then (if (wrap64 (t240 + 1)) ≤ (wrap64 (a1 + 1)) then (if (wrap64 (a1 + 1)) ≤ (l0.length : Int) then ((sorrelref02_Copy.f k ((l0.take ((wrap64 (a1 + 1)) : Int).toNat).drop ((wrap64 (t240 + 1)) : Int).toNat)).bind fun t245 => (sorrelref02_PartOf.l0 k (wrap64 (t240 + 1)) t245 0)) else (none)) else (none)) else (none)) = some r := H
  have A3 := am A30
  clear A30
  obtain ⟨ji4, hji4⟩ : ∃ j_ : Int, (wrap64 (t240 + 1)) = j_ := ⟨_, rfl⟩
  replace H : (if 0 ≤ (ji4) then (if (ji4) ≤ (wrap64 (a1 + 1)) then (if (wrap64 (a1 + 1)) ≤ (l0.length : Int) then ((sorrelref02_Copy.f k ((l0.take ((wrap64 (a1 + 1)) : Int).toNat).drop ((ji4) : Int).toNat)).bind fun t245 => (sorrelref02_PartOf.l0 k ji4 t245 0)) else (none)) else (none)) else (none)) = some r := by first | (rw [hji4] at H; exact H) | (simp only [hji4] at H ⊢; exact H)
  (try rw [hji4] at A3)
  have hji4w : (IntKind.i64.wrap (t240 + 1)) = ji4 := (i64_w _).trans hji4
  by_cases c5 : 0 ≤ (ji4)
  rotate_left
  · rw [if_neg c5] at H
    exact absurd H (by simp)
  rw [if_pos c5] at H
  have c5b0 := eq_true c5
  have c5b1 : decide (0 ≤ (ji4)) = true := decide_eq_true c5
  clear c5
  by_cases c6 : (ji4) ≤ (wrap64 (a1 + 1))
  rotate_left
  · rw [if_neg c6] at H
    exact absurd H (by simp)
  rw [if_pos c6] at H
  have c6b0 := eq_true c6
  have c6b1 : decide ((ji4) ≤ (wrap64 (a1 + 1))) = true := decide_eq_true c6
  by_cases c7 : (wrap64 (a1 + 1)) ≤ (l0.length : Int)
  rotate_left
  · rw [if_neg c7] at H
    exact absurd H (by simp)
  rw [if_pos c7] at H
  have c7b0 := eq_true c7
  have c7b1 : decide ((wrap64 (a1 + 1)) ≤ (l0.length : Int)) = true := decide_eq_true c7
  obtain ⟨y241, hy241⟩ : ∃ y_ : List (S45), y_ = ((l0.take ((wrap64 (a1 + 1)) : Int).toNat).drop ((ji4) : Int).toNat) := ⟨_, rfl⟩
  replace H : ((sorrelref02_Copy.f k y241).bind fun t245 => (sorrelref02_PartOf.l0 k ji4 t245 0)) = some r := by first | (rw [hy241]; with_reducible exact H) | (have H2_ := (Option.bind_some _ _).symm.trans H; rw [hy241]; with_reducible exact H2_) | (have H2_ := (Option.bind_some _ _).symm.trans H; with_reducible exact H2_) | with_reducible exact H | (rw [hy241]; exact H) | exact H
  have Ny241 := am hy241
  clear hy241
  replace H := Option.bind_eq_some_iff.mp H
  obtain ⟨t245, A80, H⟩ := H
  replace H : (sorrelref02_PartOf.l0 k ji4 t245 0) = some r := H
  have A8 := am A80
  clear A80
  have H' := am H
  clear H
  go_enter Tryd.func119, Tryd.ntmps119
  go_wp2_with (first | ((with_reducible refine gate_callee (f := 84) rfl ?_); refine goesL_ (some 11) rfl rfl Tryd.func84 (by kernel_rfl) rfl #[.slice A0 l0.length c0, .int .i64 a1] rfl (by (try simp only [List.map_toArray, List.map_cons, List.map_nil]); first | done | rfl | (simp only [List.length_drop, List.length_take]; rfl)) ?_; (with_reducible refine (sorrelref02_walk.calls k _ _ l0 a1 t240 _ ?side1 ?side2 A3.out).mono ?_); (case side1 => repeat (first | exact HR0.out | (with_reducible refine Kd.C_alloc ?_ _) | (with_reducible refine Kd.C_drewN ?_ _) | (with_reducible refine Kd.C_drew ?_))); (case side2 => exact HC0.out); rintro e w' ⟨rfl, ⟨nd, rfl⟩⟩; refine ⟨_, rfl, ?_⟩; have q9 : ((wrap64 (a1 + 1)) : Int) ≤ ((l0.length : Int) : Int) := of_decide_eq_true (by first | (with_reducible assumption) | assumption); obtain ⟨i09, hi09, _, hsz9, _⟩ := info_parts info45; have hroom9 : l0.length ≤ c0 := HC0.out; have hC9 : Kd.C k45 _ A0 l0.length l0 := HR0.out; have ql9 : ((ji4) : Int) ≤ ((wrap64 (a1 + 1)) : Int) := of_decide_eq_true (by first | (with_reducible assumption) | assumption); have q09 : (0 : Int) ≤ ((ji4) : Int) := of_decide_eq_true (by first | (with_reducible assumption) | assumption); have hcut9 := cut_mid (P := Tryd.prog) 30 45 .i64 .i64 Tryd.underlying30 hi09 4 hsz9 A0 l0.length c0 (ji4) (wrap64 (a1 + 1)) q09 ql9 q9 hroom9; have hr9 := Kd.C_mid (lo := ((ji4) : Int).toNat) (hi := ((wrap64 (a1 + 1)) : Int).toNat) (c := c0) hC9 (by omega) (by omega) hroom9; obtain ⟨A9, hA9⟩ : ∃ A1, A1 = (if c0 = ((ji4) : Int).toNat then A0 else (A0 : Option Addr).map (·.add (((ji4) : Int).toNat * 4))) := ⟨_, rfl⟩; obtain ⟨c9, hc9⟩ : ∃ c1, c1 = c0 - ((ji4) : Int).toNat := ⟨_, rfl⟩; have hy9 : y241.length = ((wrap64 (a1 + 1)) : Int).toNat - ((ji4) : Int).toNat := (by rw [Ny241.out, List.length_drop, List.length_take] <;> omega); rw [show ((l0).take ((wrap64 (a1 + 1)) : Int).toNat).drop ((ji4) : Int).toNat = y241 from Ny241.out.symm] at hr9; replace hr9 : Kd.C k45 _ A9 y241.length y241 := (by rw [hA9]; exact hr9); rw [← hy9, ← hA9, ← hc9] at hcut9; have HR244 := am hr9; have HC244 := am (show y241.length ≤ c9 from by rw [hy9, hc9]; exact Nat.sub_le_sub_right (Nat.le_trans (by omega) hroom9) _); clear hr9 hC9 hroom9 hi09 hsz9 hc9; have KY9 := am hy9; have KA9 := am hA9; clear hy9 hA9; replace q9 := eq_true q9) | ((with_reducible refine gate_callee (f := 30) rfl ?_); refine goesL_ (some 18) rfl rfl Tryd.func30 (by kernel_rfl) rfl #[.slice A9 y241.length c9] rfl (by (try simp only [List.map_toArray, List.map_cons, List.map_nil]); first | done | rfl | (simp only [List.length_drop, List.length_take]; rfl)) ?_; (with_reducible refine (sorrelref02_Copy.calls k _ _ y241 t245 _ ?side1 ?side2 A8.out).mono ?_); (case side1 => repeat (first | exact HR244.out | (with_reducible refine Kd.C_alloc ?_ _) | (with_reducible refine Kd.C_drewN ?_ _) | (with_reducible refine Kd.C_drew ?_))); (case side2 => exact HC244.out); rintro e w10 ⟨v246, rfl, ho0, hb⟩; refine ⟨_, rfl, ?_⟩; have n0_ := am (Kd.S_lower ho0 (below_size (by repeat (first | (with_reducible first | exact HB.out | apply below_alloc | apply pw_below_drewN | apply below_drew1) | exact HB.out)))); have n1_ := am (below_step (by repeat (first | (with_reducible first | exact HB.out | apply below_alloc | apply pw_below_drewN | apply below_drew1) | exact HB.out)) hb); clear HB; have HO247 := n0_; have HB := n1_; clear n0_ n1_; (try clear hb); (try clear hb2); (try clear hk); (try clear hi); (try clear ho0)))
  go_loopg [7] k (fun kq v7 w' => ∃ (x6_1 : List (S45)) (x7_1 : Int), v7 = .int .i64 x7_1 ∧ Aside0 (sorrelref02_PartOf.l0 kq ji4 x6_1 x7_1 = some r) ∧ Aside0 (kq ≤ k) ∧ Aside0 (Kd.S k45 45 w' w.heap.size (fun _ => True) v246 x6_1) ∧ Aside0 (Below w.heap.size w w'))
  case atStart => exact ⟨(t245), (0), (by first | rfl | (simp; done) | (simp [*]; done)), H', ⟨Nat.le_refl _⟩, ⟨by (with_reducible repeat (first | apply Kd.S_alloc | apply Kd.S_drewN | apply Kd.S_drew)); exact HO247.out⟩, ⟨by repeat (first | (with_reducible first | exact HB.out | apply below_alloc | apply pw_below_drewN | apply below_drew1) | exact HB.out)⟩⟩
  case round =>
    clear H'
    try clear c1
    try clear p2
    try clear c3
    try clear c5
    try clear c5b0
    try clear c5b1
    try clear c6
    try clear c6b0
    try clear c6b1
    try clear p6
    try clear c7
    try clear c7b0
    try clear c7b1
    try clear c8
    try clear c9
    try clear q9
    try clear q09
    try clear q9
    obtain ⟨x6_1, x7_1, rfl, HA, HK1, HO_6, HB⟩ := hrel
    cases gk with
    | zero => exact absurd HA.out (by simp [sorrelref02_PartOf.l0])
    | succ k1 =>
      have H := HA.out
      clear HA
      simp only [sorrelref02_PartOf.l0] at H
      by_cases c11 : x7_1 < (x6_1.length : Int)
      rotate_left
      · rw [if_neg c11] at H
        have c11b0 : decide (x7_1 < (x6_1.length : Int)) = false := decide_eq_false c11
        clear c11
        obtain rfl := Option.some.inj H
        obtain ⟨Ao21, co21, eo21⟩ := Kd.S_slice HO_6.out
        subst eo21
        go_wp2
        go_ret
        exact ⟨_, by first | rfl | (simp [errW_none, errW_some] <;> rfl) | (simp only [← hji4]; first | rfl | (simp [errW_none, errW_some] <;> rfl)) | (simp [*, errW_none, errW_some] <;> rfl), by (with_reducible repeat (first | apply Kd.S_alloc | apply Kd.S_drewN | apply Kd.S_drew)); exact HO_6.out, by repeat (first | (with_reducible first | exact HB.out | apply below_alloc | apply pw_below_drewN | apply below_drew1) | exact HB.out)⟩
      rw [if_pos c11] at H
      have c11b0 : decide (x7_1 < (x6_1.length : Int)) = true := decide_eq_true c11
      clear c11
      have H' := am H
      clear H
      obtain ⟨Ao12, co12, eo12⟩ := Kd.S_slice HO_6.out
      subst eo12
      go_wp2
      go_loopg [8] k1 (fun kq v8 w' => ∃ (x6_2 : List (S45)) (x8_2 : Int), v8 = .int .i64 x8_2 ∧ Aside0 (sorrelref02_PartOf.l1 kq ji4 x6_2 x7_1 x8_2 = some r) ∧ Aside0 (kq ≤ k1) ∧ Aside0 (Kd.S k45 45 w' w.heap.size (fun _ => True) (.slice Ao12 x6_1.length co12) x6_2) ∧ Aside0 (Below w.heap.size w w'))
      case atStart => exact ⟨(x6_1), (0), (by first | rfl | (simp; done) | (simp [*]; done)), H', ⟨Nat.le_refl _⟩, ⟨by (with_reducible repeat (first | apply Kd.S_alloc | apply Kd.S_drewN | apply Kd.S_drew)); exact HO_6.out⟩, ⟨by repeat (first | (with_reducible first | exact HB.out | apply below_alloc | apply pw_below_drewN | apply below_drew1) | exact HB.out)⟩⟩
      case round =>
        clear H'
        try clear c1
        try clear p2
        try clear c3
        try clear c5
        try clear c5b0
        try clear c5b1
        try clear c6
        try clear c6b0
        try clear c6b1
        try clear p6
        try clear c7
        try clear c7b0
        try clear c7b1
        try clear c8
        try clear c9
        try clear q9
        try clear c11
        try clear c11b0
        try clear p2
        try clear p6
        try clear q09
        try clear q9
        obtain ⟨x6_2, x8_2, rfl, HA, HK2, HO_6, HB⟩ := hrel
        have hl6_2 := (Kd.S_reads' HO_6.out).1
        rw [hl6_2] at HO_6
        (try simp only [hl6_2])
        cases gk with
        | zero => exact absurd HA.out (by simp [sorrelref02_PartOf.l1])
        | succ k2 =>
          have H := HA.out
          clear HA
          simp only [sorrelref02_PartOf.l1] at H
          by_cases c13 : 0 ≤ x7_1
          rotate_left
          · rw [if_neg c13] at H
            exact absurd H (by simp)
          rw [if_pos c13] at H
          have c13b0 : decide (0 ≤ x7_1) = true := decide_eq_true c13
          clear c13
          by_cases c14 : x7_1 < (x6_2.length : Int)
          rotate_left
          · rw [if_neg c14] at H
            exact absurd H (by simp)
          rw [if_pos c14] at H
          have c14b0 : decide (x7_1 < (x6_2.length : Int)) = true := decide_eq_true c14
          clear c14
          by_cases c15 : x8_2 < (((rd_T45 x6_2 x7_1).f3).length : Int)
          rotate_left
          · rw [if_neg c15] at H
            have c15b0 : decide (x8_2 < (((rd_T45 x6_2 x7_1).f3).length : Int)) = false := decide_eq_false c15
            clear c15
            have H' := am H
            clear H
            have p248 : 0 ≤ (x7_1 : Int) := of_decide_eq_true (by first | (with_reducible assumption) | assumption)
            have q248 : x7_1 < (x6_2.length : Int) := of_decide_eq_true (by first | (with_reducible assumption) | assumption)
            obtain ⟨ad248, A248_3, c248_3, e248, hx248_0, hx248_1, hx248_2, hx248_3, hl248_3, hi248_3⟩ := at_T45 (Kd.S_reads' HO_6.out).2.2 x7_1 p248 q248
            cases e248
            obtain ⟨ce248, hce248, hMe248, hcc248⟩ := Kd.S_get HO_6.out z45 x7_1 p248 (by first | exact q248 | exact of_decide_eq_true (by first | (with_reducible assumption) | assumption) | (have e_ := (Kd.S_reads' HO_6.out).1; omega))
            obtain ⟨ve248_3, rfl, ge248_3⟩ := k45_openM hMe248
            have hv248_3 := hcc248 3 _ rfl
            rw [add_field _ _ 3 (by omega)] at hv248_3
            replace hv248_3 := Option.some.inj (hv248_3.symm.trans hx248_3)
            rw [hv248_3] at ge248_3
            have HL248_3 := am (show Kd.R (Kd.int .i64) 3 _ _ _ _ ((rd_T45 x6_2 x7_1).f3) from ge248_3)
            clear hv248_3 ge248_3
            have HX248_3 := am hx248_3
            clear hcc248 hce248
            have HR248_3 := am hi248_3
            have HC248_3 := am hl248_3
            clear hi248_3 hl248_3
            replace p248 := eq_true p248
            replace q248 := eq_true q248
            go_wp2
            (try simp only [← hl6_2])
            go_roundg k2
            case measure => have := HK1.out; have := HK2.out; omega
            case rel => exact ⟨(x6_2), (wrap64 (x7_1 + 1)), (by first | rfl | (simp; done) | (simp [*]; done)), H', ⟨by have := HK1.out; have := HK2.out; omega⟩, ⟨by (try simp only [hl6_2]); (with_reducible repeat (first | apply Kd.S_alloc | apply Kd.S_drewN | apply Kd.S_drew)); exact HO_6.out⟩, ⟨by repeat (first | (with_reducible first | exact HB.out | apply below_alloc | apply pw_below_drewN | apply below_drew1) | exact HB.out)⟩⟩
          rw [if_pos c15] at H
          have c15b0 : decide (x8_2 < (((rd_T45 x6_2 x7_1).f3).length : Int)) = true := decide_eq_true c15
          clear c15
          by_cases c16 : 0 ≤ x8_2
          rotate_left
          · rw [if_neg c16] at H
            exact absurd H (by simp)
          rw [if_pos c16] at H
          have c16b0 : decide (0 ≤ x8_2) = true := decide_eq_true c16
          clear c16
          obtain ⟨y252, hy252⟩ : ∃ y_ : List Int, y_ = (((rd_T45 x6_2 x7_1).f3).set (x8_2 : Int).toNat (wrap64 ((rd ((rd_T45 x6_2 x7_1).f3) x8_2) - ji4))) := ⟨_, rfl⟩
          replace H : (sorrelref02_PartOf.l1 k2 ji4 (x6_2.set (x7_1 : Int).toNat (⟨(rd_T45 x6_2 x7_1).f0, (rd_T45 x6_2 x7_1).f1, (rd_T45 x6_2 x7_1).f2, y252⟩ : S45)) x7_1 (wrap64 (x8_2 + 1))) = some r := by first | (rw [hy252]; with_reducible exact H) | (have H2_ := (Option.bind_some _ _).symm.trans H; rw [hy252]; with_reducible exact H2_) | (have H2_ := (Option.bind_some _ _).symm.trans H; with_reducible exact H2_) | with_reducible exact H | (rw [hy252]; exact H) | exact H
          have Ny252 := am hy252
          clear hy252
          obtain ⟨y254, hy254⟩ : ∃ y_ : List (S45), y_ = (x6_2.set (x7_1 : Int).toNat (⟨(rd_T45 x6_2 x7_1).f0, (rd_T45 x6_2 x7_1).f1, (rd_T45 x6_2 x7_1).f2, y252⟩ : S45)) := ⟨_, rfl⟩
          replace H : (sorrelref02_PartOf.l1 k2 ji4 y254 x7_1 (wrap64 (x8_2 + 1))) = some r := by first | (rw [hy254]; with_reducible exact H) | (have H2_ := (Option.bind_some _ _).symm.trans H; rw [hy254]; with_reducible exact H2_) | (have H2_ := (Option.bind_some _ _).symm.trans H; with_reducible exact H2_) | with_reducible exact H | (rw [hy254]; exact H) | exact H
          have Ny254 := am hy254
          clear hy254
          have H' := am H
          clear H
          have p248 : 0 ≤ (x7_1 : Int) := of_decide_eq_true (by first | (with_reducible assumption) | assumption)
          have q248 : x7_1 < (x6_2.length : Int) := of_decide_eq_true (by first | (with_reducible assumption) | assumption)
          obtain ⟨ad248, A248_3, c248_3, e248, hx248_0, hx248_1, hx248_2, hx248_3, hl248_3, hi248_3⟩ := at_T45 (Kd.S_reads' HO_6.out).2.2 x7_1 p248 q248
          cases e248
          obtain ⟨ce248, hce248, hMe248, hcc248⟩ := Kd.S_get HO_6.out z45 x7_1 p248 (by first | exact q248 | exact of_decide_eq_true (by first | (with_reducible assumption) | assumption) | (have e_ := (Kd.S_reads' HO_6.out).1; omega))
          obtain ⟨ve248_3, rfl, ge248_3⟩ := k45_openM hMe248
          have hv248_3 := hcc248 3 _ rfl
          rw [add_field _ _ 3 (by omega)] at hv248_3
          replace hv248_3 := Option.some.inj (hv248_3.symm.trans hx248_3)
          rw [hv248_3] at ge248_3
          have HL248_3 := am (show Kd.R (Kd.int .i64) 3 _ _ _ _ ((rd_T45 x6_2 x7_1).f3) from ge248_3)
          clear hv248_3 ge248_3
          have HX248_3 := am hx248_3
          clear hcc248 hce248
          have HR248_3 := am hi248_3
          have HC248_3 := am hl248_3
          clear hi248_3 hl248_3
          replace p248 := eq_true p248
          replace q248 := eq_true q248
          try go_wp2
          have n0_ := am (Kd.S_drew HO_6.out)
          have n1_ := am (Kd.R_drew HL248_3.out)
          have n2_ := am (Kd.C_drew HR248_3.out)
          have n3_ := am (below_drew1 HB.out)
          clear HO_6
          clear HL248_3
          clear HR248_3
          clear HB
          have HO_6 := n0_
          have HL248_3 := n1_
          have HR248_3 := n2_
          have HB := n3_
          clear n0_ n1_ n2_ n3_
          have p249 : 0 ≤ (x7_1 : Int) := of_decide_eq_true (by first | (with_reducible assumption) | assumption)
          have q249 : x7_1 < (x6_2.length : Int) := of_decide_eq_true (by first | (with_reducible assumption) | assumption)
          obtain ⟨ad249, A249_3, c249_3, e249, hx249_0, hx249_1, hx249_2, hx249_3, hl249_3, hi249_3⟩ := at_T45 (Kd.S_reads' HO_6.out).2.2 x7_1 p249 q249
          obtain rfl : ad248 = ad249 := (by injection e249)
          obtain ⟨ce249, hce249, hMe249, hcc249⟩ := Kd.S_get HO_6.out z45 x7_1 p249 (by first | exact q249 | exact of_decide_eq_true (by first | (with_reducible assumption) | assumption) | (have e_ := (Kd.S_reads' HO_6.out).1; omega))
          obtain ⟨ve249_3, rfl, ge249_3⟩ := k45_openM hMe249
          have hv249_3 := hcc249 3 _ rfl
          rw [add_field _ _ 3 (by omega)] at hv249_3
          replace hv249_3 := Option.some.inj (hv249_3.symm.trans hx249_3)
          rw [hv249_3] at ge249_3
          have HL249_3 := am (show Kd.R (Kd.int .i64) 3 _ _ _ _ ((rd_T45 x6_2 x7_1).f3) from ge249_3)
          clear hv249_3 ge249_3
          have HX249_3 := am hx249_3
          clear hcc249 hce249
          have HR249_3 := am hi249_3
          have HC249_3 := am hl249_3
          clear hi249_3 hl249_3
          replace p249 := eq_true p249
          replace q249 := eq_true q249
          have p250 : 0 ≤ (x7_1 : Int) := of_decide_eq_true (by first | (with_reducible assumption) | assumption)
          have q250 : x7_1 < (x6_2.length : Int) := of_decide_eq_true (by first | (with_reducible assumption) | assumption)
          obtain ⟨ad250, A250_3, c250_3, e250, hx250_0, hx250_1, hx250_2, hx250_3, hl250_3, hi250_3⟩ := at_T45 (Kd.S_reads' HO_6.out).2.2 x7_1 p250 q250
          obtain rfl : ad248 = ad250 := (by injection e250)
          obtain ⟨ce250, hce250, hMe250, hcc250⟩ := Kd.S_get HO_6.out z45 x7_1 p250 (by first | exact q250 | exact of_decide_eq_true (by first | (with_reducible assumption) | assumption) | (have e_ := (Kd.S_reads' HO_6.out).1; omega))
          obtain ⟨ve250_3, rfl, ge250_3⟩ := k45_openM hMe250
          have hv250_3 := hcc250 3 _ rfl
          rw [add_field _ _ 3 (by omega)] at hv250_3
          replace hv250_3 := Option.some.inj (hv250_3.symm.trans hx250_3)
          rw [hv250_3] at ge250_3
          have HL250_3 := am (show Kd.R (Kd.int .i64) 3 _ _ _ _ ((rd_T45 x6_2 x7_1).f3) from ge250_3)
          clear hv250_3 ge250_3
          have HX250_3 := am hx250_3
          clear hcc250 hce250
          have HR250_3 := am hi250_3
          have HC250_3 := am hl250_3
          clear hi250_3 hl250_3
          replace p250 := eq_true p250
          replace q250 := eq_true q250
          have ea_ := Option.some.inj (hx249_3.symm.trans hx250_3)
          injection ea_ with ea_ en_ ec_
          subst ea_
          subst ec_
          clear en_
          have p251 : 0 ≤ (x8_2 : Int) := of_decide_eq_true (by first | (with_reducible assumption) | assumption)
          have q251 : x8_2 < (((rd_T45 x6_2 x7_1).f3).length : Int) := of_decide_eq_true (by first | (with_reducible assumption) | assumption)
          obtain ⟨ad251, e251, hx251_0⟩ := Kd.at_int (by repeat (first | (with_reducible exact HR250_3.out) | (with_reducible refine Kd.C_alloc ?_ _) | (with_reducible refine Kd.C_drewN ?_ _) | (with_reducible refine Kd.C_drew ?_) | exact HR250_3.out)) x8_2 p251 q251
          cases e251
          replace p251 := eq_true p251
          replace q251 := eq_true q251
          have p17 : 0 ≤ (x8_2 : Int) := of_decide_eq_true (by first | (with_reducible assumption) | assumption)
          have q17 : (x8_2 : Int) < ((((rd_T45 x6_2 x7_1).f3).length : Int) : Int) := of_decide_eq_true (by first | (with_reducible assumption) | assumption)
          obtain ⟨go17, co17, eo17, gb17, gl17, cl17, HG17⟩ := Kd.R_form HL249_3.out (by omega)
          (first | cases eo17 | (injection eo17 with ea_ en_ ec_; (first | subst ea_ | (injection ea_ with ea_; subst ea_)); subst ec_; clear en_))
          have GB17 := am gb17
          have GG17 := am HG17
          clear gb17 gl17 HG17
          (first | simp only [add_plain] at hx251_0 | skip)
          obtain ⟨hx17_0, hf17_0⟩ := Kd.R_celln 0 HL249_3.out (x8_2 : Int) p17 q17
          replace p17 := eq_true p17
          replace q17 := eq_true q17
          have hq19 : (x7_1 : Int) < (x6_2.length : Int) := (by have h_ : (x7_1 : Int) < ((x6_2.length : Int) : Int) := of_decide_eq_true (by first | (with_reducible assumption) | assumption); first | exact h_ | (have e_ := (Kd.S_reads' HO_6.out).1; omega) | simpa only [List.length_set, List.length_set] using h_)
          obtain ⟨oki19, ce19, hcl19, hM19, hcc19, hok19, hbk19⟩ := Kd.S_borrow HO_6.out z45 (x7_1 : Int) (of_decide_eq_true (by first | (with_reducible assumption) | assumption)) hq19
          obtain ⟨ve19_3, rfl, ge19_3⟩ := k45_openM hM19
          have hv19 := hcc19 3 _ rfl
          rw [add_field _ _ 3 (by omega)] at hv19
          replace hv19 := Option.some.inj (hv19.symm.trans HX249_3.out)
          subst hv19
          clear hcc19 hcl19
          replace ge19_3 := (show Kd.R (Kd.int .i64) 3 _ _ _ _ ((rd_T45 x6_2 x7_1).f3) from ge19_3)
          have HP19 := Kd.R_putg ge19_3 (x8_2 : Int) (wrap64 ((rd ((rd_T45 x6_2 x7_1).f3) x8_2) - ji4))
          rw [← Ny252.out] at HP19
          have HS19 := hbk19 HP19.2 (fun k_ e_ => by injection e_ with e_; subst e_; exact ge19_3.1 _ rfl) (x' := (⟨(rd_T45 x6_2 x7_1).f0, (rd_T45 x6_2 x7_1).f1, (rd_T45 x6_2 x7_1).f2, y252⟩ : S45)) (k45_mkM _ _ _ (⟨(rd_T45 x6_2 x7_1).f0, (rd_T45 x6_2 x7_1).f1, (rd_T45 x6_2 x7_1).f2, y252⟩ : S45) HP19.1)
          rw [← Ny254.out] at HS19
          have HQ19 := am HS19
          clear HP19 HS19 hbk19 hok19
          refine start_ (n := 18) (S := fun w' => w'.cell? (ad248.add ((x7_1).toNat * 4)) = some (.int .i64 ((rd_T45 x6_2 x7_1).f0)) ∧ w'.cell? ⟨(ad248.add ((x7_1).toNat * 4)).block, (ad248.add ((x7_1).toNat * 4)).off + 1, none⟩ = some (.int .i64 ((rd_T45 x6_2 x7_1).f1)) ∧ w'.cell? ⟨(ad248.add ((x7_1).toNat * 4)).block, (ad248.add ((x7_1).toNat * 4)).off + 2, none⟩ = some (.string ((rd_T45 x6_2 x7_1).f2)) ∧ w'.cell? ⟨(ad248.add ((x7_1).toNat * 4)).block, (ad248.add ((x7_1).toNat * 4)).off + 3, none⟩ = some (.slice (some ⟨go17, 0, none⟩) ((rd_T45 x6_2 x7_1).f3).length c249_3) ∧ w'.cell? (ad248.add ((x7_1).toNat * 4)) = some (.int .i64 ((rd_T45 x6_2 x7_1).f0)) ∧ w'.cell? ⟨(ad248.add ((x7_1).toNat * 4)).block, (ad248.add ((x7_1).toNat * 4)).off + 1, none⟩ = some (.int .i64 ((rd_T45 x6_2 x7_1).f1)) ∧ w'.cell? ⟨(ad248.add ((x7_1).toNat * 4)).block, (ad248.add ((x7_1).toNat * 4)).off + 2, none⟩ = some (.string ((rd_T45 x6_2 x7_1).f2)) ∧ w'.cell? ⟨(ad248.add ((x7_1).toNat * 4)).block, (ad248.add ((x7_1).toNat * 4)).off + 3, none⟩ = some (.slice (some ⟨go17, 0, none⟩) ((rd_T45 x6_2 x7_1).f3).length c249_3) ∧ w'.cell? ⟨go17, (x8_2).toNat, none⟩ = some (.int .i64 (rd ((rd_T45 x6_2 x7_1).f3) x8_2))) (ds := [17]) #[false, false, false, false, false, false, false, false, false, false, false, false, false, false, false, false, false, false] (by kernel_rfl) rfl rfl ⟨hx249_0, hx249_1, hx249_2, hx249_3, hx250_0, hx250_1, hx250_2, hx250_3, hx251_0⟩ (fun hHeld => ?_); refine with_tabW sorrelref02_PartOf.tab9 sorrelref02_PartOf.bits9 (fun HT_ HW_ => ?_)
          generalize wr.drew = w18 at HO_6 HL248_3 HR248_3 HB GG17 HL249_3 HL250_3 HQ19 HR249_3 HR250_3 HX249_3 HX250_3 hf17_0 hx17_0 hx249_0 hx249_1 hx249_2 hx249_3 hx250_0 hx250_1 hx250_2 hx250_3 hx251_0 hHeld ⊢
          refine pure_ (i := 0) (N := some 35) (v := ?_) (a' := ?_) #[true, false, false, false, false, false, false, false, false, false, false, false, false, false, false, false, false, false] rfl rfl (any_of HT_.out (by kernel_rfl)) (fun _ _ _ h => h) (Or.inl ⟨by rfl, ?_⟩) ?_ ?_
          rotate_left
          · intro w'
            go_simp
            with_reducible rfl
          rotate_left
          · simp only [Act.put, List.setIfInBounds_toArray, List.set_cons_zero, List.set_cons_succ, i64_w, i32_w]
            rfl
          refine pure_ (i := 1) (N := some 36) (v := ?_) (a' := ?_) #[true, true, false, false, false, false, false, false, false, false, false, false, false, false, false, false, false, false] rfl rfl (any_of HT_.out (by kernel_rfl)) (fun _ _ _ h => h) (Or.inl ⟨by rfl, ?_⟩) ?_ ?_
          rotate_left
          · intro w'
            go_simp
            with_reducible rfl
          rotate_left
          · simp only [Act.put, List.setIfInBounds_toArray, List.set_cons_zero, List.set_cons_succ, i64_w, i32_w]
            rfl
          refine pure_ (i := 2) (N := some 37) (v := ?_) (a' := ?_) #[true, true, true, false, false, false, false, false, false, false, false, false, false, false, false, false, false, false] rfl rfl (any_of HT_.out (by kernel_rfl)) (fun _ _ _ h => h) (Or.inl ⟨by rfl, ?_⟩) ?_ ?_
          rotate_left
          · intro w'
            go_simp
            with_reducible rfl
          rotate_left
          · simp only [Act.put, List.setIfInBounds_toArray, List.set_cons_zero, List.set_cons_succ, i64_w, i32_w]
            rfl
          refine pure_ (i := 3) (N := some 38) (v := ?_) (a' := ?_) #[true, true, true, true, false, false, false, false, false, false, false, false, false, false, false, false, false, false] rfl rfl (any_of HT_.out (by kernel_rfl)) (fun _ _ _ h => h) (Or.inl ⟨by rfl, ?_⟩) ?_ ?_
          rotate_left
          · intro w'
            go_simp
            with_reducible rfl
          rotate_left
          · simp only [Act.put, List.setIfInBounds_toArray, List.set_cons_zero, List.set_cons_succ, i64_w, i32_w]
            rfl
          refine pure_ (i := 5) (N := some 40) (v := ?_) (a' := ?_) #[true, true, true, true, false, true, false, false, false, false, false, false, false, false, false, false, false, false] rfl rfl (any_of HT_.out (by kernel_rfl)) (fun _ _ _ h => h) (Or.inl ⟨by rfl, ?_⟩) ?_ ?_
          rotate_left
          · intro w'
            go_simp
            with_reducible rfl
          rotate_left
          · simp only [Act.put, List.setIfInBounds_toArray, List.set_cons_zero, List.set_cons_succ, i64_w, i32_w]
            rfl
          refine pure_ (i := 6) (N := some 41) (v := ?_) (a' := ?_) #[true, true, true, true, false, true, true, false, false, false, false, false, false, false, false, false, false, false] rfl rfl (any_of HT_.out (by kernel_rfl)) (fun _ _ _ h => h) (Or.inl ⟨by rfl, ?_⟩) ?_ ?_
          rotate_left
          · intro w'
            go_simp
            with_reducible rfl
          rotate_left
          · simp only [Act.put, List.setIfInBounds_toArray, List.set_cons_zero, List.set_cons_succ, i64_w, i32_w]
            rfl
          refine pure_ (i := 7) (N := some 42) (v := ?_) (a' := ?_) #[true, true, true, true, false, true, true, true, false, false, false, false, false, false, false, false, false, false] rfl rfl (any_of HT_.out (by kernel_rfl)) (fun _ _ _ h => h) (Or.inl ⟨by rfl, ?_⟩) ?_ ?_
          rotate_left
          · intro w'
            go_simp
            with_reducible rfl
          rotate_left
          · simp only [Act.put, List.setIfInBounds_toArray, List.set_cons_zero, List.set_cons_succ, i64_w, i32_w]
            rfl
          refine pure_ (i := 8) (N := some 43) (v := ?_) (a' := ?_) #[true, true, true, true, false, true, true, true, true, false, false, false, false, false, false, false, false, false] rfl rfl (any_of HT_.out (by kernel_rfl)) (fun _ _ _ h => h) (Or.inl ⟨by rfl, ?_⟩) ?_ ?_
          rotate_left
          · intro w'
            go_simp
            with_reducible rfl
          rotate_left
          · simp only [Act.put, List.setIfInBounds_toArray, List.set_cons_zero, List.set_cons_succ, i64_w, i32_w]
            rfl
          refine pure_ (i := 9) (N := some 44) (v := ?_) (a' := ?_) #[true, true, true, true, false, true, true, true, true, true, false, false, false, false, false, false, false, false] rfl rfl (any_of HT_.out (by kernel_rfl)) (fun _ _ _ h => h) (Or.inl ⟨by rfl, ?_⟩) ?_ ?_
          rotate_left
          · intro w'
            go_simp
            with_reducible rfl
          rotate_left
          · simp only [Act.put, List.setIfInBounds_toArray, List.set_cons_zero, List.set_cons_succ, i64_w, i32_w]
            rfl
          refine pure_ (i := 11) (N := some 46) (v := ?_) (a' := ?_) #[true, true, true, true, false, true, true, true, true, true, false, true, false, false, false, false, false, false] rfl rfl (any_of HT_.out (by kernel_rfl)) (fun _ _ _ h => h) (Or.inl ⟨by rfl, ?_⟩) ?_ ?_
          rotate_left
          · intro w'
            go_simp
            with_reducible rfl
          rotate_left
          · simp only [Act.put, List.setIfInBounds_toArray, List.set_cons_zero, List.set_cons_succ, i64_w, i32_w]
            rfl
          refine pure_ (i := 14) (N := some 49) (v := ?_) (a' := ?_) #[true, true, true, true, false, true, true, true, true, true, false, true, false, false, true, false, false, false] rfl rfl (any_of HT_.out (by kernel_rfl)) (fun _ _ _ h => h) (Or.inl ⟨by rfl, ?_⟩) ?_ ?_
          rotate_left
          · intro w'
            go_simp
            with_reducible rfl
          rotate_left
          · simp only [Act.put, List.setIfInBounds_toArray, List.set_cons_zero, List.set_cons_succ, i64_w, i32_w]
            rfl
          refine take_ (i := 4) (N := some 39) (v := ?_) (a' := ?_) #[true, true, true, true, true, true, true, true, true, true, false, true, false, false, true, false, false, false] rfl rfl (take_ofW HT_.out HW_.out (by kernel_rfl)) (fun _ _ _ h => h) (Or.inl ⟨by rfl, ?_⟩) hHeld ?_ ?_
          rotate_left
          · rintro w' ⟨s0, s1, s2, s3, s4, s5, s6, s7, s8⟩
            go_simp
            with_reducible rfl
          rotate_left
          · simp only [Act.put, List.setIfInBounds_toArray, List.set_cons_zero, List.set_cons_succ, i64_w, i32_w]
            rfl
          refine take_ (i := 10) (N := some 45) (v := ?_) (a' := ?_) #[true, true, true, true, true, true, true, true, true, true, true, true, false, false, true, false, false, false] rfl rfl (take_ofW HT_.out HW_.out (by kernel_rfl)) (fun _ _ _ h => h) (Or.inl ⟨by rfl, ?_⟩) hHeld ?_ ?_
          rotate_left
          · rintro w' ⟨s0, s1, s2, s3, s4, s5, s6, s7, s8⟩
            go_simp
            with_reducible rfl
          rotate_left
          · simp only [Act.put, List.setIfInBounds_toArray, List.set_cons_zero, List.set_cons_succ, i64_w, i32_w]
            rfl
          refine pure_ (i := 12) (N := some 47) (v := ?_) (a' := ?_) #[true, true, true, true, true, true, true, true, true, true, true, true, true, false, true, false, false, false] rfl rfl (any_of HT_.out (by kernel_rfl)) (fun _ _ _ h => h) (Or.inl ⟨by rfl, ?_⟩) ?_ ?_
          rotate_left
          · intro w'
            go_simp
            with_reducible rfl
          rotate_left
          · simp only [Act.put, List.setIfInBounds_toArray, List.set_cons_zero, List.set_cons_succ, i64_w, i32_w]
            rfl
          refine take_ (i := 13) (N := some 48) (v := ?_) (a' := ?_) #[true, true, true, true, true, true, true, true, true, true, true, true, true, true, true, false, false, false] rfl rfl (take_ofW HT_.out HW_.out (by kernel_rfl)) (fun _ _ _ h => h) (Or.inl ⟨by rfl, ?_⟩) hHeld ?_ ?_
          rotate_left
          · rintro w' ⟨s0, s1, s2, s3, s4, s5, s6, s7, s8⟩
            go_simp
            with_reducible rfl
          rotate_left
          · simp only [Act.put, List.setIfInBounds_toArray, List.set_cons_zero, List.set_cons_succ, i64_w, i32_w]
            rfl
          refine pure_ (i := 15) (N := some 50) (v := ?_) (a' := ?_) #[true, true, true, true, true, true, true, true, true, true, true, true, true, true, true, true, false, false] rfl rfl (any_of HT_.out (by kernel_rfl)) (fun _ _ _ h => h) (Or.inl ⟨by rfl, ?_⟩) ?_ ?_
          rotate_left
          · intro w'
            go_simp
            with_reducible rfl
          rotate_left
          · simp only [Act.put, List.setIfInBounds_toArray, List.set_cons_zero, List.set_cons_succ, i64_w, i32_w]
            rfl
          refine pure_ (i := 16) (N := some 51) (v := ?_) (a' := ?_) #[true, true, true, true, true, true, true, true, true, true, true, true, true, true, true, true, true, false] rfl rfl (any_of HT_.out (by kernel_rfl)) (fun _ _ _ h => h) (Or.inl ⟨by rfl, ?_⟩) ?_ ?_
          rotate_left
          · intro w'
            go_simp
            with_reducible rfl
          rotate_left
          · simp only [Act.put, List.setIfInBounds_toArray, List.set_cons_zero, List.set_cons_succ, i64_w, i32_w]
            rfl
          refine last_ (i := 17) (N := none) #[true, true, true, true, true, true, true, true, true, true, true, true, true, true, true, true, true, true] rfl rfl (one_of HT_.out (by kernel_rfl)) (by decide) (fun K hK => ?_)
          refine skip_ (w1 := ?_) (by rfl) rfl ?_ ?_
          rotate_left
          · go_simp
            rfl
          refine hK.out _ _ ?_
          clear hK K
          refine done_ (done_of HT_.out (by kernel_rfl)) ?_
          try go_wp2
          (try simp only [← hl6_2])
          go_roundg k2
          case measure => have := HK1.out; have := HK2.out; omega
          case rel => exact ⟨(y254), (wrap64 (x8_2 + 1)), (by first | rfl | (simp; done) | (simp [*]; done)), H', ⟨by have := HK1.out; have := HK2.out; omega⟩, ⟨by (try simp only [hl6_2]); (with_reducible repeat (first | apply Kd.S_alloc | apply Kd.S_drewN | apply Kd.S_drew)); exact HQ19.out⟩, ⟨by repeat (first | (with_reducible first | exact HB.out | apply below_alloc | apply pw_below_drewN | apply below_drew1 | refine below_set ?_ GB17.out) | exact HB.out)⟩⟩
/-! ### sorrelref02_Part: function 71 -/
def sorrelref02_Part.f (k : Nat) (l0 : List (S45)) (a1 : Int) : Option ((List (S45)) × Int) := (sorrelref02_Check.f k l0).bind fun t255 => (if t255 = 0 then (if a1 < 0 then (some (([] : List (S45)), 2)) else (if a1 ≥ (l0.length : Int) then (some (([] : List (S45)), 2)) else ((sorrelref02_PartOf.f k l0 a1).bind fun t256 => (some (t256, 0))))) else (some (([] : List (S45)), 1)))
theorem sorrelref02_Part.mono : ∀ a0 a1 k, LeO (sorrelref02_Part.f k a0 a1) (sorrelref02_Part.f (k + 1) a0 a1) := by
  intro a0 a1 k
  unfold sorrelref02_Part.f
  repeat' first
      | (with_reducible exact sorrelref02_Check.mono _ _)
      | (with_reducible exact sorrelref02_PartOf.mono _ _ _)
      | (with_reducible exact LeO.refl _)
      | (with_reducible exact LeO.none _)
      | (with_reducible refine LeO.ite ?_ ?_)
      | (with_reducible refine LeO.bind ?_ (fun _ => ?_))
      | exact sorrelref02_Check.mono _ _
      | exact sorrelref02_PartOf.mono _ _ _
      | exact LeO.none _
      | refine LeO.ite ?_ ?_
      | refine LeO.bind ?_ (fun _ => ?_)
set_option maxHeartbeats 8000000 in
set_option maxRecDepth 100000 in
theorem sorrelref02_Part.calls (k : Nat) (A0 : Option Addr) (c0 : Nat) (l0 : List (S45)) (a1 : Int) (r1 : List (S45)) (r2 : Int) (w : World) (hr0 : Kd.C k45 w A0 l0.length l0) (hc0 : l0.length ≤ c0) (h : sorrelref02_Part.f k l0 a1 = some (r1, r2)) :
    Calls Tryd.prog 71 #[.slice A0 l0.length c0, .int .i64 a1] w fun e w' => ∃ v0_ : Value, e = .returned (.tuple #[v0_, .int .i64 r2]) ∧ Kd.S k45 45 w' w.heap.size (fun _ => True) v0_ r1 ∧ Below w.heap.size w w' := by
  have HR0 := am hr0
  have HC0 := am hc0
  clear hr0 hc0
  have HB := am (Below.refl w.heap.size w)
  have H : ((sorrelref02_Check.f k l0).bind fun t255 => (if t255 = 0 then (if a1 < 0 then (some (([] : List (S45)), 2)) else (if a1 ≥ (l0.length : Int) then (some (([] : List (S45)), 2)) else ((sorrelref02_PartOf.f k l0 a1).bind fun t256 => (some (t256, 0))))) else (some (([] : List (S45)), 1)))) = some (r1, r2) := h
  clear h
  replace H := Option.bind_eq_some_iff.mp H
  obtain ⟨t255, A30, H⟩ := H
  replace H : (if t255 = 0 then (if a1 < 0 then (some (([] : List (S45)), 2)) else (if a1 ≥ (l0.length : Int) then (some (([] : List (S45)), 2)) else ((sorrelref02_PartOf.f k l0 a1).bind fun t256 => (some (t256, 0))))) else (some (([] : List (S45)), 1))) = some (r1, r2) := H
  have A3 := am A30
  clear A30
  by_cases c4 : t255 = 0
  rotate_left
  · rw [if_neg c4] at H
    have c4b0 : (t255 == 0) = false := beq_eq_false_iff_ne.mpr c4
    have c4b1 : (t255 != 0) = true := bne_iff_ne.mpr c4
    simp only [Option.some.injEq, Prod.mk.injEq] at H
    obtain ⟨rfl, rfl⟩ := H
    go_enter Tryd.func71, Tryd.ntmps71
    go_wp2_with (first | ((with_reducible refine gate_callee (f := 32) rfl ?_); refine goesL_ (some 7) rfl rfl Tryd.func32 (by kernel_rfl) rfl #[.slice A0 l0.length c0] rfl (by (try simp only [List.map_toArray, List.map_cons, List.map_nil]); first | done | rfl | (simp only [List.length_drop, List.length_take]; rfl)) ?_; (with_reducible refine (sorrelref02_Check.calls k _ _ l0 t255 _ ?side1 ?side2 A3.out).mono ?_); (case side1 => repeat (first | exact HR0.out | (with_reducible refine Kd.C_alloc ?_ _) | (with_reducible refine Kd.C_drewN ?_ _) | (with_reducible refine Kd.C_drew ?_))); (case side2 => exact HC0.out); rintro e w12 ⟨rfl, hb⟩; refine ⟨_, rfl, ?_⟩; have n0_ := am (below_step (by repeat (first | (with_reducible first | exact HB.out | apply below_alloc | apply pw_below_drewN | apply below_drew1) | exact HB.out)) hb); clear HB; have HB := n0_; clear n0_; (try clear hb); (try clear hb2); (try clear hk); (try clear hi)))
    go_ret2
    exact ⟨_, by first | rfl | (simp [errW_none, errW_some] <;> rfl) | (simp [*, errW_none, errW_some] <;> rfl), by first | exact Kd.S_nil _ _ _ _ _ | exact Kd.N_nil _ _ _ _ _ | exact Kd.V_nil _ _ _ _ _ | exact Kd.Q_nil _ _ _ _ _ | exact Kd.R_nil _ _ _ _ _, by repeat (first | (with_reducible first | exact HB.out | apply below_alloc | apply pw_below_drewN | apply below_drew1) | exact HB.out)⟩
  rw [if_pos c4] at H
  have c4b0 : (t255 == 0) = true := beq_iff_eq.mpr c4
  have c4b1 : (t255 != 0) = false := bne_eq_false_iff_eq.mpr c4
  clear c4
  by_cases c5 : a1 < 0
  · rw [if_pos c5] at H
    have c5b0 : decide (a1 < 0) = true := decide_eq_true c5
    clear c5
    simp only [Option.some.injEq, Prod.mk.injEq] at H
    obtain ⟨rfl, rfl⟩ := H
    go_enter Tryd.func71, Tryd.ntmps71
    go_wp2_with (first | ((with_reducible refine gate_callee (f := 32) rfl ?_); refine goesL_ (some 7) rfl rfl Tryd.func32 (by kernel_rfl) rfl #[.slice A0 l0.length c0] rfl (by (try simp only [List.map_toArray, List.map_cons, List.map_nil]); first | done | rfl | (simp only [List.length_drop, List.length_take]; rfl)) ?_; (with_reducible refine (sorrelref02_Check.calls k _ _ l0 t255 _ ?side1 ?side2 A3.out).mono ?_); (case side1 => repeat (first | exact HR0.out | (with_reducible refine Kd.C_alloc ?_ _) | (with_reducible refine Kd.C_drewN ?_ _) | (with_reducible refine Kd.C_drew ?_))); (case side2 => exact HC0.out); rintro e w6 ⟨rfl, hb⟩; refine ⟨_, rfl, ?_⟩; have n0_ := am (below_step (by repeat (first | (with_reducible first | exact HB.out | apply below_alloc | apply pw_below_drewN | apply below_drew1) | exact HB.out)) hb); clear HB; have HB := n0_; clear n0_; (try clear hb); (try clear hb2); (try clear hk); (try clear hi)))
    go_ret2
    exact ⟨_, by first | rfl | (simp [errW_none, errW_some] <;> rfl) | (simp [*, errW_none, errW_some] <;> rfl), by first | exact Kd.S_nil _ _ _ _ _ | exact Kd.N_nil _ _ _ _ _ | exact Kd.V_nil _ _ _ _ _ | exact Kd.Q_nil _ _ _ _ _ | exact Kd.R_nil _ _ _ _ _, by repeat (first | (with_reducible first | exact HB.out | apply below_alloc | apply pw_below_drewN | apply below_drew1) | exact HB.out)⟩
  rw [if_neg c5] at H
  have c5b0 : decide (a1 < 0) = false := decide_eq_false c5
  clear c5
  by_cases c7 : a1 ≥ (l0.length : Int)
  · rw [if_pos c7] at H
    have c7b0 : decide ((l0.length : Int) ≤ a1) = true := decide_eq_true c7
    clear c7
    simp only [Option.some.injEq, Prod.mk.injEq] at H
    obtain ⟨rfl, rfl⟩ := H
    go_enter Tryd.func71, Tryd.ntmps71
    go_wp2_with (first | ((with_reducible refine gate_callee (f := 32) rfl ?_); refine goesL_ (some 7) rfl rfl Tryd.func32 (by kernel_rfl) rfl #[.slice A0 l0.length c0] rfl (by (try simp only [List.map_toArray, List.map_cons, List.map_nil]); first | done | rfl | (simp only [List.length_drop, List.length_take]; rfl)) ?_; (with_reducible refine (sorrelref02_Check.calls k _ _ l0 t255 _ ?side1 ?side2 A3.out).mono ?_); (case side1 => repeat (first | exact HR0.out | (with_reducible refine Kd.C_alloc ?_ _) | (with_reducible refine Kd.C_drewN ?_ _) | (with_reducible refine Kd.C_drew ?_))); (case side2 => exact HC0.out); rintro e w8 ⟨rfl, hb⟩; refine ⟨_, rfl, ?_⟩; have n0_ := am (below_step (by repeat (first | (with_reducible first | exact HB.out | apply below_alloc | apply pw_below_drewN | apply below_drew1) | exact HB.out)) hb); clear HB; have HB := n0_; clear n0_; (try clear hb); (try clear hb2); (try clear hk); (try clear hi)))
    go_ret2
    exact ⟨_, by first | rfl | (simp [errW_none, errW_some] <;> rfl) | (simp [*, errW_none, errW_some] <;> rfl), by first | exact Kd.S_nil _ _ _ _ _ | exact Kd.N_nil _ _ _ _ _ | exact Kd.V_nil _ _ _ _ _ | exact Kd.Q_nil _ _ _ _ _ | exact Kd.R_nil _ _ _ _ _, by repeat (first | (with_reducible first | exact HB.out | apply below_alloc | apply pw_below_drewN | apply below_drew1) | exact HB.out)⟩
  rw [if_neg c7] at H
  have c7b0 : decide ((l0.length : Int) ≤ a1) = false := decide_eq_false c7
  clear c7
  replace H := Option.bind_eq_some_iff.mp H
  obtain ⟨t256, A90, H⟩ := H
  replace H : (some (t256, 0)) = some (r1, r2) := H
  have A9 := am A90
  clear A90
  simp only [Option.some.injEq, Prod.mk.injEq] at H
  obtain ⟨rfl, rfl⟩ := H
  go_enter Tryd.func71, Tryd.ntmps71
  go_wp2_with (first | ((with_reducible refine gate_callee (f := 32) rfl ?_); refine goesL_ (some 7) rfl rfl Tryd.func32 (by kernel_rfl) rfl #[.slice A0 l0.length c0] rfl (by (try simp only [List.map_toArray, List.map_cons, List.map_nil]); first | done | rfl | (simp only [List.length_drop, List.length_take]; rfl)) ?_; (with_reducible refine (sorrelref02_Check.calls k _ _ l0 t255 _ ?side1 ?side2 A3.out).mono ?_); (case side1 => repeat (first | exact HR0.out | (with_reducible refine Kd.C_alloc ?_ _) | (with_reducible refine Kd.C_drewN ?_ _) | (with_reducible refine Kd.C_drew ?_))); (case side2 => exact HC0.out); rintro e w10 ⟨rfl, hb⟩; refine ⟨_, rfl, ?_⟩; have n0_ := am (below_step (by repeat (first | (with_reducible first | exact HB.out | apply below_alloc | apply pw_below_drewN | apply below_drew1) | exact HB.out)) hb); clear HB; have HB := n0_; clear n0_; (try clear hb); (try clear hb2); (try clear hk); (try clear hi)) | ((with_reducible refine gate_callee (f := 119) rfl ?_); refine goesL_ (some 19) rfl rfl Tryd.func119 (by kernel_rfl) rfl #[.slice A0 l0.length c0, .int .i64 a1] rfl (by (try simp only [List.map_toArray, List.map_cons, List.map_nil]); first | done | rfl | (simp only [List.length_drop, List.length_take]; rfl)) ?_; (with_reducible refine (sorrelref02_PartOf.calls k _ _ l0 a1 t256 _ ?side1 ?side2 A9.out).mono ?_); (case side1 => repeat (first | exact (Kd.C_below HR0.out HB.out) | (with_reducible refine Kd.C_alloc ?_ _) | (with_reducible refine Kd.C_drewN ?_ _) | (with_reducible refine Kd.C_drew ?_))); (case side2 => exact HC0.out); rintro e w11 ⟨v257, rfl, ho0, hb⟩; refine ⟨_, rfl, ?_⟩; have n0_ := am (Kd.S_lower ho0 (below_size (by repeat (first | (with_reducible first | exact HB.out | apply below_alloc | apply pw_below_drewN | apply below_drew1) | exact HB.out)))); have n1_ := am (below_step (by repeat (first | (with_reducible first | exact HB.out | apply below_alloc | apply pw_below_drewN | apply below_drew1) | exact HB.out)) hb); clear HB; have HO258 := n0_; have HB := n1_; clear n0_ n1_; (try clear hb); (try clear hb2); (try clear hk); (try clear hi); (try clear ho0)))
  go_ret2
  exact ⟨_, by first | rfl | (simp [errW_none, errW_some] <;> rfl) | (simp [*, errW_none, errW_some] <;> rfl), by (with_reducible repeat (first | apply Kd.S_alloc | apply Kd.S_drewN | apply Kd.S_drew)); exact HO258.out, by repeat (first | (with_reducible first | exact HB.out | apply below_alloc | apply pw_below_drewN | apply below_drew1) | exact HB.out)⟩
/-! ### sorrelref02_behind: function 122 -/
mutual
def sorrelref02_behind.l0 : Nat → List (S45) → List (S45) → Int → Int → Option ((List (S45)))
  | 0, _, _, _, _ => none
  | k + 1, x0, x1, x5, x6 => if x6 < (x1.length : Int) then (if 0 ≤ x6 then (if 0 ≤ (((rd_T45 x1 x6).f3).length : Int) then (if ((((rd_T45 x1 x6).f3).length : Int) : Int).toNat ≤ 35184372088832 then (sorrelref02_behind.l1 k x0 x1 x5 x6 (List.replicate ((((rd_T45 x1 x6).f3).length : Int) : Int).toNat 0) 0 ((rd_T45 x1 x6).f0) ((rd_T45 x1 x6).f1) ((rd_T45 x1 x6).f2) ((rd_T45 x1 x6).f3)) else (none)) else (none)) else (none)) else (some x0)
def sorrelref02_behind.l1 : Nat → List (S45) → List (S45) → Int → Int → List Int → Int → Int → Int → ByteArray → List Int → Option ((List (S45)))
  | 0, _, _, _, _, _, _, _, _, _, _ => none
  | k + 1, x0, x1, x5, x6, x8, x9, x261000, x261001, x261002, x261003 => if x9 < (x261003.length : Int) then (if 0 ≤ x9 then (if x9 < (x8.length : Int) then (sorrelref02_behind.l1 k x0 x1 x5 x6 (x8.set (x9 : Int).toNat (wrap64 ((rd x261003 x9) + x5))) (wrap64 (x9 + 1)) x261000 x261001 x261002 x261003) else (none)) else (none)) else (if x0.length < 2513169434916 then (sorrelref02_behind.l0 k (x0 ++ [(⟨x261000, x261001, x261002, x8⟩ : S45)]) x1 x5 (wrap64 (x6 + 1))) else (none))
end
def sorrelref02_behind.f (k : Nat) (l0 : List (S45)) (l1 : List (S45)) : Option ((List (S45))) := sorrelref02_behind.l0 k l0 l1 (l0.length : Int) 0
theorem sorrelref02_behind.mono_l : ∀ k, (∀ y0 y1 y2 y3, LeO (sorrelref02_behind.l0 k y0 y1 y2 y3) (sorrelref02_behind.l0 (k + 1) y0 y1 y2 y3)) ∧ (∀ y0 y1 y2 y3 y4 y5 y6 y7 y8 y9, LeO (sorrelref02_behind.l1 k y0 y1 y2 y3 y4 y5 y6 y7 y8 y9) (sorrelref02_behind.l1 (k + 1) y0 y1 y2 y3 y4 y5 y6 y7 y8 y9))
  | 0 => ⟨fun _ _ _ _ r h => by simp [sorrelref02_behind.l0] at h, fun _ _ _ _ _ _ _ _ _ _ r h => by simp [sorrelref02_behind.l1] at h⟩
  | k + 1 => by
    obtain ⟨ih0, ih1⟩ := sorrelref02_behind.mono_l k
    refine ⟨?_, ?_⟩
    rotate_left
    · intro y0 y1 y2 y3 y4 y5 y6 y7 y8 y9
      unfold sorrelref02_behind.l1
      repeat' first
      | (with_reducible exact ih0 _ _ _ _)
      | (with_reducible exact ih1 _ _ _ _ _ _ _ _ _ _)
      | (with_reducible exact LeO.refl _)
      | (with_reducible exact LeO.none _)
      | (with_reducible refine LeO.ite ?_ ?_)
      | (with_reducible refine LeO.bind ?_ (fun _ => ?_))
      | exact ih0 _ _ _ _
      | exact ih1 _ _ _ _ _ _ _ _ _ _
      | exact LeO.none _
      | refine LeO.ite ?_ ?_
      | refine LeO.bind ?_ (fun _ => ?_)
    intro y0 y1 y2 y3
    unfold sorrelref02_behind.l0
    repeat' first
    | (with_reducible exact ih0 _ _ _ _)
    | (with_reducible exact ih1 _ _ _ _ _ _ _ _ _ _)
    | (with_reducible exact LeO.refl _)
    | (with_reducible exact LeO.none _)
    | (with_reducible refine LeO.ite ?_ ?_)
    | (with_reducible refine LeO.bind ?_ (fun _ => ?_))
    | exact ih0 _ _ _ _
    | exact ih1 _ _ _ _ _ _ _ _ _ _
    | exact LeO.none _
    | refine LeO.ite ?_ ?_
    | refine LeO.bind ?_ (fun _ => ?_)
theorem sorrelref02_behind.mono : ∀ a0 a1 k, LeO (sorrelref02_behind.f k a0 a1) (sorrelref02_behind.f (k + 1) a0 a1) := by
  intro a0 a1 k
  obtain ⟨ih0, ih1⟩ := sorrelref02_behind.mono_l k
  unfold sorrelref02_behind.f
  repeat' first
      | (with_reducible exact ih0 _ _ _ _)
      | (with_reducible exact ih1 _ _ _ _ _ _ _ _ _ _)
      | (with_reducible exact LeO.refl _)
      | (with_reducible exact LeO.none _)
      | (with_reducible refine LeO.ite ?_ ?_)
      | (with_reducible refine LeO.bind ?_ (fun _ => ?_))
      | exact ih0 _ _ _ _
      | exact ih1 _ _ _ _ _ _ _ _ _ _
      | exact LeO.none _
      | refine LeO.ite ?_ ?_
      | refine LeO.bind ?_ (fun _ => ?_)
set_option maxHeartbeats 8000000 in
set_option maxRecDepth 100000 in
theorem sorrelref02_behind.calls (k : Nat) (P0_ : Nat → Prop) (u9000_ : Value) (l0 : List (S45)) (A1 : Option Addr) (c1 : Nat) (l1 : List (S45)) (r : List (S45)) (w0 w : World) (hB : Below w0.heap.size w0 w) (ho0 : Kd.S k45 45 w w0.heap.size P0_ u9000_ l0) (hr1 : Kd.C k45 w0 A1 l1.length l1) (hc1 : l1.length ≤ c1) (h : sorrelref02_behind.f k l0 l1 = some r) :
    Calls Tryd.prog 122 #[u9000_, .slice A1 l1.length c1] w fun e w' => ∃ v0_ : Value, e = .returned (v0_) ∧ Kd.S k45 45 w' w0.heap.size (fun k_ => (P0_ k_ ∨ w.heap.size ≤ k_)) v0_ r ∧ Below w0.heap.size w0 w' ∧ Kept w w' (fun k_ => P0_ k_) := by
  have hu45 := Tryd.underlying45
  have HO0 := am (show Kd.S k45 45 w w0.heap.size (fun k_ => (P0_ k_ ∨ w.heap.size ≤ k_)) u9000_ l0 from Kd.S_mono ho0 (fun k_ hk => (.inl hk)))
  have HR1 := am hr1
  have HC1 := am hc1
  clear hr1 hc1
  have HK := am (Kept.refl w (fun k_ => P0_ k_))
  have HW0 := am hB.size
  have HB := am hB
  clear hB
  have H : (sorrelref02_behind.l0 k l0 l1 (l0.length : Int) 0) = some r := h
  clear h
  have H' := am H
  clear H
  obtain ⟨Ao3, co3, eo3⟩ := Kd.S_slice HO0.out
  subst eo3
  go_enter Tryd.func122, Tryd.ntmps122
  go_wp2
  go_loopg [0, 6] k (fun kq v0 v6 w' => ∃ (x0_1 : List (S45)) (x6_1 : Int), v6 = .int .i64 x6_1 ∧ Aside0 (sorrelref02_behind.l0 kq x0_1 l1 (l0.length : Int) x6_1 = some r) ∧ Aside0 (kq ≤ k) ∧ Aside0 (Kd.S k45 45 w' w0.heap.size (fun k_ => (P0_ k_ ∨ w.heap.size ≤ k_)) v0 x0_1) ∧ Aside0 (Kept w w' (fun k_ => P0_ k_)) ∧ Aside0 (Below w0.heap.size w0 w'))
  case atStart => exact ⟨(l0), (0), (by first | rfl | (simp; done) | (simp [*]; done)), H', ⟨Nat.le_refl _⟩, ⟨by (with_reducible repeat (first | apply Kd.S_alloc | apply Kd.S_drewN | apply Kd.S_drew)); exact HO0.out⟩, ⟨by repeat (first | (with_reducible first | exact HK.out | apply Kept.alloc | apply Kept.drewN | apply Kept.drew) | exact HK.out)⟩, ⟨by repeat (first | (with_reducible first | exact HB.out | apply below_alloc | apply pw_below_drewN | apply below_drew1) | exact HB.out)⟩⟩
  case round =>
    clear H'
    try clear c1
    try clear p2
    obtain ⟨x0_1, x6_1, rfl, HA, HK1, HO_0, HK, HB⟩ := hrel
    cases gk with
    | zero => exact absurd HA.out (by simp [sorrelref02_behind.l0])
    | succ k1 =>
      have H := HA.out
      clear HA
      simp only [sorrelref02_behind.l0] at H
      by_cases c4 : x6_1 < (l1.length : Int)
      rotate_left
      · rw [if_neg c4] at H
        have c4b0 : decide (x6_1 < (l1.length : Int)) = false := decide_eq_false c4
        clear c4
        obtain rfl := Option.some.inj H
        go_wp2
        go_ret
        exact ⟨_, by first | rfl | (simp [errW_none, errW_some] <;> rfl) | (simp [*, errW_none, errW_some] <;> rfl), by (with_reducible repeat (first | apply Kd.S_alloc | apply Kd.S_drewN | apply Kd.S_drew)); exact HO_0.out, by repeat (first | (with_reducible first | exact HB.out | apply below_alloc | apply pw_below_drewN | apply below_drew1) | exact HB.out), by repeat (first | (with_reducible first | exact HK.out | apply Kept.alloc | apply Kept.drewN | apply Kept.drew) | exact HK.out)⟩
      rw [if_pos c4] at H
      have c4b0 : decide (x6_1 < (l1.length : Int)) = true := decide_eq_true c4
      clear c4
      by_cases c5 : 0 ≤ x6_1
      rotate_left
      · rw [if_neg c5] at H
        exact absurd H (by simp)
      rw [if_pos c5] at H
      have c5b0 : decide (0 ≤ x6_1) = true := decide_eq_true c5
      clear c5
      by_cases c6 : 0 ≤ (((rd_T45 l1 x6_1).f3).length : Int)
      rotate_left
      · rw [if_neg c6] at H
        exact absurd H (by simp)
      rw [if_pos c6] at H
      have c6b0 := eq_true c6
      have c6b1 : decide (0 ≤ (((rd_T45 l1 x6_1).f3).length : Int)) = true := decide_eq_true c6
      clear c6
      by_cases c7 : ((((rd_T45 l1 x6_1).f3).length : Int) : Int).toNat ≤ 35184372088832
      rotate_left
      · rw [if_neg c7] at H
        exact absurd H (by simp)
      rw [if_pos c7] at H
      have c7b0 := eq_true c7
      have c7b1 : decide (((((rd_T45 l1 x6_1).f3).length : Int) : Int).toNat ≤ 35184372088832) = true := decide_eq_true c7
      clear c7
      obtain ⟨y261, hy261⟩ : ∃ y_ : List Int, y_ = (List.replicate ((((rd_T45 l1 x6_1).f3).length : Int) : Int).toNat 0) := ⟨_, rfl⟩
      replace H : (sorrelref02_behind.l1 k1 x0_1 l1 (l0.length : Int) x6_1 y261 0 ((rd_T45 l1 x6_1).f0) ((rd_T45 l1 x6_1).f1) ((rd_T45 l1 x6_1).f2) ((rd_T45 l1 x6_1).f3)) = some r := by first | (rw [hy261]; with_reducible exact H) | (have H2_ := (Option.bind_some _ _).symm.trans H; rw [hy261]; with_reducible exact H2_) | (have H2_ := (Option.bind_some _ _).symm.trans H; with_reducible exact H2_) | with_reducible exact H | (rw [hy261]; exact H) | exact H
      have Ny261 := am hy261
      clear hy261
      have H' := am H
      clear H
      have p259 : 0 ≤ (x6_1 : Int) := of_decide_eq_true (by first | (with_reducible assumption) | assumption)
      have q259 : x6_1 < (l1.length : Int) := of_decide_eq_true (by first | (with_reducible assumption) | assumption)
      obtain ⟨ad259, A259_3, c259_3, e259, hx259_0, hx259_1, hx259_2, hx259_3, hl259_3, hi259_3⟩ := at_T45 HR1.out x6_1 p259 q259
      cases e259
      replace hx259_0 := (HB.out.cell (World.block_lt_of_cell? w0 _ hx259_0)).trans hx259_0
      replace hx259_1 := (HB.out.cell (World.block_lt_of_cell? w0 _ hx259_1)).trans hx259_1
      replace hx259_2 := (HB.out.cell (World.block_lt_of_cell? w0 _ hx259_2)).trans hx259_2
      replace hx259_3 := (HB.out.cell (World.block_lt_of_cell? w0 _ hx259_3)).trans hx259_3
      have HR259_3 := am hi259_3
      have HC259_3 := am hl259_3
      clear hi259_3 hl259_3
      replace p259 := eq_true p259
      replace q259 := eq_true q259
      go_wp2_with (first | ((with_reducible refine gate_dst (N := 7) rfl ?_); refine box_event ?hg (N := 7) ?hd (cs := #[.int .i64 0, .int .i64 0, .string (⟨#[]⟩ : ByteArray), .slice none 0 0]) (t := 45) ?hr ?_; (case hd => rfl); (case hg => rfl); (case hr => first | (go_simp; done) | (go_simp; rfl)); intro gb260 hg w8 hbox hb; have n0_ := am (Kd.S_below (Kd.S_elderB (by (with_reducible repeat (first | apply Kd.S_alloc | apply Kd.S_drewN | apply Kd.S_drew)); exact HO_0.out) gb260 (Nat.le_of_eq hg.symm)) hb); have n1_ := am (Kept.below (S := (fun k_ => P0_ k_)) (by repeat (first | (with_reducible first | exact HK.out | apply Kept.alloc | apply Kept.drewN | apply Kept.drew) | exact HK.out)) hb); have n2_ := am (below_step (by repeat (first | (with_reducible first | exact HB.out | apply below_alloc | apply pw_below_drewN | apply below_drew1) | exact HB.out)) hb); have n3_ := am (hbox); have n4_ := am ((by rw [hg]; exact (by first | exact HK.out.1 | exact (show Kept w _ (fun k_ => P0_ k_) from by repeat (first | (with_reducible first | exact HK.out | apply Kept.alloc | apply Kept.drewN | apply Kept.drew) | exact HK.out)).1) : w.heap.size ≤ gb260)); have n5_ := am ((by rw [hg]; exact (below_size (by repeat (first | (with_reducible first | exact HB.out | apply below_alloc | apply pw_below_drewN | apply below_drew1) | exact HB.out))) : w0.heap.size ≤ gb260)); clear HO_0; clear HK; clear HB; have HO_0 := n0_; have HK := n1_; have HB := n2_; have BK260 := n3_; have GW260 := n4_; have GE260 := n5_; clear n0_ n1_ n2_ n3_ n4_ n5_; clear hb hbox hg; have hcz9_0 : w8.cell? ⟨gb260, 0, none⟩ = some (.int .i64 0) := (blk_cell BK260.out 0).trans rfl; have hcz9_1 : w8.cell? ⟨gb260, 1, none⟩ = some (.int .i64 0) := (blk_cell BK260.out 1).trans rfl; have hcz9_2 : w8.cell? ⟨gb260, 2, none⟩ = some (.string (⟨#[]⟩ : ByteArray)) := (blk_cell BK260.out 2).trans rfl; have hcz9_3 : w8.cell? ⟨gb260, 3, none⟩ = some (.slice none 0 0) := (blk_cell BK260.out 3).trans rfl; have hfz9_0 := blk_frozen BK260.out 0; have hfz9_1 := blk_frozen BK260.out 1; have hfz9_2 := blk_frozen BK260.out 2; have hfz9_3 := blk_frozen BK260.out 3) | ((with_reducible refine gate_dst (N := 25) rfl ?_); refine Kd.R_make (Kd.int .i64) _ 3 rfl (N := 25) rfl 43 _ _ rfl (((rd_T45 l1 x6_1).f3).length : Int) rfl rfl Tryd.underlying43 (.int .i64 0) 8 info3 rfl (by decide) (by omega) 0 (ok := fun _ => True) (okp := fun _ => True) rfl (fun _ hk => hk) trivial (of_decide_eq_true (by first | (with_reducible assumption) | assumption)) (Nat.le_trans (Nat.mul_le_mul_right _ (of_decide_eq_true (by first | (with_reducible assumption) | assumption) : (((rd_T45 l1 x6_1).f3).length : Int).toNat ≤ 35184372088832)) (by omega)) (Below.refl _ _) (Nat.le_refl _) ?_; intro v262 w10 ho11 hb hg_ hnew_; clear hg_ hnew_; (first | rw [← Ny261.out] at ho11 | (simp only [Int.reduceToNat] at ho11; rw [← Ny261.out] at ho11)); have n0_ := am (Kd.S_elder' (by (with_reducible repeat (first | apply Kd.S_alloc | apply Kd.S_drewN | apply Kd.S_drew)); exact (Kd.S_mono (Kd.S_far (p := ⟨gb260, 3, none⟩) (Kd.S_far (p := ⟨gb260, 2, none⟩) (Kd.S_far (p := ⟨gb260, 1, none⟩) (Kd.S_far (p := ⟨gb260, 0, none⟩) (Kd.S_mono HO_0.out (fun k_ hk => (⟨hk, hk.2⟩ : _ ∧ k_ ≠ gb260))) (fun _ hk => hk.2) (.int .i64 ((rd_T45 l1 x6_1).f0))) (fun _ hk => hk.2) (.int .i64 ((rd_T45 l1 x6_1).f1))) (fun _ hk => hk.2) (.string ((rd_T45 l1 x6_1).f2))) (fun _ hk => hk.2) (.slice A259_3 ((rd_T45 l1 x6_1).f3).length c259_3)) (fun _ h_ => h_.1))) (Kd.R_base ho11) hb); have n1_ := am (Kd.R_lower (Kd.R_newM (M := fun k_ => (P0_ k_ ∨ w.heap.size ≤ k_)) ho11 (show Kept w _ (fun k_ => P0_ k_) from by repeat (first | (with_reducible first | exact HK.out | apply Kept.alloc | apply Kept.drewN | apply Kept.drew | refine Kept.setCell ?_ (.inr GW260.out) _) | exact HK.out)).1 (fun k_ h_ => .inr h_)) (below_size (by repeat (first | (with_reducible first | exact HB.out | apply below_alloc | apply pw_below_drewN | apply below_drew1 | refine below_set ?_ GE260.out) | exact HB.out)))); have n2_ := am (blk_below (g := gb260) (o := .cells #[.int .i64 ((rd_T45 l1 x6_1).f0), .int .i64 ((rd_T45 l1 x6_1).f1), .string ((rd_T45 l1 x6_1).f2), .slice A259_3 ((rd_T45 l1 x6_1).f3).length c259_3] 45 (0, 0)) (by (with_reducible repeat (first | refine blk_drewN ?_ _ | refine blk_drew ?_ | refine blk_alloc ?_ _)); refine blk_put (cs := #[.int .i64 ((rd_T45 l1 x6_1).f0), .int .i64 ((rd_T45 l1 x6_1).f1), .string ((rd_T45 l1 x6_1).f2), .slice none 0 0]) ?_ 3 _ rfl; (with_reducible repeat (first | refine blk_drewN ?_ _ | refine blk_drew ?_ | refine blk_alloc ?_ _)); refine blk_put (cs := #[.int .i64 ((rd_T45 l1 x6_1).f0), .int .i64 ((rd_T45 l1 x6_1).f1), .string (⟨#[]⟩ : ByteArray), .slice none 0 0]) ?_ 2 _ rfl; (with_reducible repeat (first | refine blk_drewN ?_ _ | refine blk_drew ?_ | refine blk_alloc ?_ _)); refine blk_put (cs := #[.int .i64 ((rd_T45 l1 x6_1).f0), .int .i64 0, .string (⟨#[]⟩ : ByteArray), .slice none 0 0]) ?_ 1 _ rfl; (with_reducible repeat (first | refine blk_drewN ?_ _ | refine blk_drew ?_ | refine blk_alloc ?_ _)); refine blk_put (cs := #[.int .i64 0, .int .i64 0, .string (⟨#[]⟩ : ByteArray), .slice none 0 0]) ?_ 0 _ rfl; (with_reducible repeat (first | refine blk_drewN ?_ _ | refine blk_drew ?_ | refine blk_alloc ?_ _)); exact BK260.out) hb); have n3_ := am (Kept.below (S := (fun k_ => P0_ k_)) (by repeat (first | (with_reducible first | exact HK.out | apply Kept.alloc | apply Kept.drewN | apply Kept.drew | refine Kept.setCell ?_ (.inr GW260.out) _) | exact HK.out)) hb); have n4_ := am (below_step (by repeat (first | (with_reducible first | exact HB.out | apply below_alloc | apply pw_below_drewN | apply below_drew1 | refine below_set ?_ GE260.out) | exact HB.out)) hb); clear HO_0; clear BK260; clear HK; clear HB; have HO_0 := n0_; have HO263 := n1_; have BK260 := n2_; have HK := n3_; have HB := n4_; clear n0_ n1_ n2_ n3_ n4_; clear hb ho11))
      go_loopg [9] k1 (fun kq v9 w' => ∃ (x8_2 : List Int) (x9_2 : Int), v9 = .int .i64 x9_2 ∧ Aside0 (sorrelref02_behind.l1 kq x0_1 l1 (l0.length : Int) x6_1 x8_2 x9_2 ((rd_T45 l1 x6_1).f0) ((rd_T45 l1 x6_1).f1) ((rd_T45 l1 x6_1).f2) ((rd_T45 l1 x6_1).f3) = some r) ∧ Aside0 (kq ≤ k1) ∧ Aside0 (Kd.S k45 45 w' w0.heap.size (fun k_ => (P0_ k_ ∨ w.heap.size ≤ k_) ∧ some k_ ≠ (v262 : Value).ownBlock ∧ k_ ≠ gb260) u0 x0_1) ∧ Aside0 (Kd.R (Kd.int .i64) 3 w' w0.heap.size (fun k_ => (P0_ k_ ∨ w.heap.size ≤ k_)) v262 x8_2) ∧ Aside0 (w'.heap[gb260]? = some (.cells #[.int .i64 ((rd_T45 l1 x6_1).f0), .int .i64 ((rd_T45 l1 x6_1).f1), .string ((rd_T45 l1 x6_1).f2), (.slice A259_3 ((rd_T45 l1 x6_1).f3).length c259_3)] 45 (0, 0))) ∧ Aside0 (Kept w w' (fun k_ => P0_ k_)) ∧ Aside0 (Below w0.heap.size w0 w'))
      case atStart => exact ⟨(y261), (0), (by first | rfl | (simp; done) | (simp [*]; done)), H', ⟨Nat.le_refl _⟩, ⟨by (with_reducible repeat (first | apply Kd.S_alloc | apply Kd.S_drewN | apply Kd.S_drew)); exact Kd.S_mono HO_0.out (fun _ hk => ⟨hk.1.1, ⟨hk.2, hk.1.2⟩⟩)⟩, ⟨by (with_reducible repeat (first | apply Kd.R_alloc | apply Kd.R_drewN | apply Kd.R_drew)); exact Kd.R_mono HO263.out (fun _ hk => hk.1)⟩, ⟨by (with_reducible repeat (first | refine blk_drewN ?_ _ | refine blk_drew ?_ | refine blk_alloc ?_ _)); exact BK260.out⟩, ⟨by repeat (first | (with_reducible first | exact HK.out | apply Kept.alloc | apply Kept.drewN | apply Kept.drew | refine Kept.setCell ?_ (.inr GW260.out) _) | exact HK.out)⟩, ⟨by repeat (first | (with_reducible first | exact HB.out | apply below_alloc | apply pw_below_drewN | apply below_drew1 | refine below_set ?_ GE260.out) | exact HB.out)⟩⟩
      case round =>
        clear H'
        try clear c1
        try clear c2
        try clear p2
        try clear q2
        try clear hx2
        try clear c4
        try clear c4b0
        try clear c5
        try clear c5b0
        try clear c6
        try clear c6b0
        try clear c6b1
        try clear c7
        try clear c7b0
        try clear c7b1
        try clear hcz9_0
        try clear hcz9_1
        try clear hcz9_2
        try clear hcz9_3
        try clear hfz9_0
        try clear hfz9_1
        try clear hfz9_2
        try clear hfz9_3
        try clear hx259_0
        try clear hx259_1
        try clear hx259_2
        try clear hx259_3
        try clear p2
        try clear p259
        try clear q259
        obtain ⟨x8_2, x9_2, rfl, HA, HK2, HO_0, HO_8, BK260, HK, HB⟩ := hrel
        cases gk with
        | zero => exact absurd HA.out (by simp [sorrelref02_behind.l1])
        | succ k2 =>
          have H := HA.out
          clear HA
          simp only [sorrelref02_behind.l1] at H
          by_cases c12 : x9_2 < (((rd_T45 l1 x6_1).f3).length : Int)
          rotate_left
          · rw [if_neg c12] at H
            have c12b0 : decide (x9_2 < (((rd_T45 l1 x6_1).f3).length : Int)) = false := decide_eq_false c12
            clear c12
            by_cases c19 : x0_1.length < 2513169434916
            rotate_left
            · rw [if_neg c19] at H
              exact absurd H (by simp)
            rw [if_pos c19] at H
            have LMc19 := am c19
            clear c19
            obtain ⟨y266, hy266⟩ : ∃ y_ : List (S45), y_ = (x0_1 ++ [(⟨((rd_T45 l1 x6_1).f0), ((rd_T45 l1 x6_1).f1), ((rd_T45 l1 x6_1).f2), x8_2⟩ : S45)]) := ⟨_, rfl⟩
            replace H : (sorrelref02_behind.l0 k2 y266 l1 (l0.length : Int) (wrap64 (x6_1 + 1))) = some r := by first | (rw [hy266]; with_reducible exact H) | (have H2_ := (Option.bind_some _ _).symm.trans H; rw [hy266]; with_reducible exact H2_) | (have H2_ := (Option.bind_some _ _).symm.trans H; with_reducible exact H2_) | with_reducible exact H | (rw [hy266]; exact H) | exact H
            have Ny266 := am hy266
            clear hy266
            have H' := am H
            clear H
            have hcz20_0 : wr.cell? ⟨gb260, 0, none⟩ = some (.int .i64 ((rd_T45 l1 x6_1).f0)) := (blk_cell BK260.out 0).trans rfl
            have hcz20_1 : wr.cell? ⟨gb260, 1, none⟩ = some (.int .i64 ((rd_T45 l1 x6_1).f1)) := (blk_cell BK260.out 1).trans rfl
            have hcz20_2 : wr.cell? ⟨gb260, 2, none⟩ = some (.string ((rd_T45 l1 x6_1).f2)) := (blk_cell BK260.out 2).trans rfl
            have hcz20_3 : wr.cell? ⟨gb260, 3, none⟩ = some (.slice A259_3 ((rd_T45 l1 x6_1).f3).length c259_3) := (blk_cell BK260.out 3).trans rfl
            have hfz20_0 := blk_frozen BK260.out 0
            have hfz20_1 := blk_frozen BK260.out 1
            have hfz20_2 := blk_frozen BK260.out 2
            have hfz20_3 := blk_frozen BK260.out 3
            obtain ⟨Ao21, co21, eo21⟩ := Kd.R_slice HO_8.out
            subst eo21
            go_wp2_with (first | ((with_reducible refine gate_store (t := 43) (p := 44) rfl ?_); refine store_event (t := 43) (p := 44) (v := ?vo_w22) (w1 := (wr.setCell ⟨gb260, 3, none⟩ (.slice Ao21 x8_2.length co21))) ?hg ?ho ?hn ?hr ?_; (case ho => rfl); (case hg => rfl); (case hn => rfl); (case hr => first | (go_simp; done) | (go_simp; rfl)); intro w22 hw; have n0_ : Aside0 (Kd.S k45 45 w22 w0.heap.size (fun k_ => (P0_ k_ ∨ w.heap.size ≤ k_) ∧ some k_ ≠ (.slice Ao21 x8_2.length co21 : Value).ownBlock ∧ k_ ≠ gb260) u0 x0_1) := ⟨(by rw [hw]; exact (by (with_reducible repeat (first | apply Kd.S_alloc | apply Kd.S_drewN | apply Kd.S_drew)); exact Kd.S_mono (Kd.S_far (p := ⟨gb260, 3, none⟩) (Kd.S_mono HO_0.out (fun k_ hk => (⟨hk, hk.2.2⟩ : _ ∧ k_ ≠ gb260))) (fun _ hk => hk.2) (.slice Ao21 x8_2.length co21)) (fun _ hk => ⟨hk.1.1, ⟨hk.1.2.1, hk.1.2.2⟩⟩)))⟩; have n1_ : Aside0 (Kd.R (Kd.int .i64) 3 w22 w0.heap.size (fun k_ => (P0_ k_ ∨ w.heap.size ≤ k_)) (.slice Ao21 x8_2.length co21) x8_2) := ⟨(by rw [hw]; exact (by (with_reducible repeat (first | apply Kd.R_alloc | apply Kd.R_drewN | apply Kd.R_drew)); exact Kd.R_mono (Kd.R_far (p := ⟨gb260, 3, none⟩) (Kd.R_types HO_8.out BK260.out (by decide)) (fun _ hk => hk.2) (.slice Ao21 x8_2.length co21)) (fun _ hk => hk.1)))⟩; have n2_ : Aside0 (w22.heap[gb260]? = some (.cells #[.int .i64 ((rd_T45 l1 x6_1).f0), .int .i64 ((rd_T45 l1 x6_1).f1), .string ((rd_T45 l1 x6_1).f2), .slice Ao21 x8_2.length co21] 45 (0, 0))) := ⟨(by rw [hw]; exact (by (with_reducible repeat (first | refine blk_drewN ?_ _ | refine blk_drew ?_ | refine blk_alloc ?_ _)); refine blk_put (cs := #[.int .i64 ((rd_T45 l1 x6_1).f0), .int .i64 ((rd_T45 l1 x6_1).f1), .string ((rd_T45 l1 x6_1).f2), .slice A259_3 ((rd_T45 l1 x6_1).f3).length c259_3]) ?_ 3 _ rfl; (with_reducible repeat (first | refine blk_drewN ?_ _ | refine blk_drew ?_ | refine blk_alloc ?_ _)); exact BK260.out))⟩; have n3_ : Aside0 (Kept w w22 (fun k_ => P0_ k_)) := ⟨(by rw [hw]; exact (by repeat (first | (with_reducible first | exact HK.out | apply Kept.alloc | apply Kept.drewN | apply Kept.drew | refine Kept.setCell ?_ (.inr GW260.out) _) | exact HK.out)))⟩; have n4_ : Aside0 (Below w0.heap.size w0 w22) := ⟨(by rw [hw]; exact (by repeat (first | (with_reducible first | exact HB.out | apply below_alloc | apply pw_below_drewN | apply below_drew1 | refine below_set ?_ GE260.out) | exact HB.out)))⟩; clear hw; clear HO_0; clear HO_8; clear BK260; clear HK; clear HB; have HO_0 := n0_; have HO_8 := n1_; have BK260 := n2_; have HK := n3_; have HB := n4_; clear n0_ n1_ n2_ n3_ n4_; have hcz23_0 : w22.cell? ⟨gb260, 0, none⟩ = some (.int .i64 ((rd_T45 l1 x6_1).f0)) := (blk_cell BK260.out 0).trans rfl; have hcz23_1 : w22.cell? ⟨gb260, 1, none⟩ = some (.int .i64 ((rd_T45 l1 x6_1).f1)) := (blk_cell BK260.out 1).trans rfl; have hcz23_2 : w22.cell? ⟨gb260, 2, none⟩ = some (.string ((rd_T45 l1 x6_1).f2)) := (blk_cell BK260.out 2).trans rfl; have hcz23_3 : w22.cell? ⟨gb260, 3, none⟩ = some (.slice Ao21 x8_2.length co21) := (blk_cell BK260.out 3).trans rfl; have hfz23_0 := blk_frozen BK260.out 0; have hfz23_1 := blk_frozen BK260.out 1; have hfz23_2 := blk_frozen BK260.out 2; have hfz23_3 := blk_frozen BK260.out 3) | ((with_reducible refine gate_builtin (b := .append) (xs := #[.tmp 45, .tmp 47]) rfl ?_); at_builtin; refine Kd.S_append k45 (w0 := w0) w0.heap.size rfl (.tmp 45) (.tmp 47) 30 45 (.agg #[(.int .i64 0), (.int .i64 0), (.string ⟨#[]⟩), (.slice none 0 0)]) 56 rfl Tryd.underlying30 info45 rfl (by decide) (by omega) u0 x0_1 (⟨((rd_T45 l1 x6_1).f0), ((rd_T45 l1 x6_1).f1), ((rd_T45 l1 x6_1).f2), x8_2⟩ : S45) [.int .i64 ((rd_T45 l1 x6_1).f0), .int .i64 ((rd_T45 l1 x6_1).f1), .string ((rd_T45 l1 x6_1).f2), .slice Ao21 x8_2.length co21] (fun k_ => (P0_ k_ ∨ w.heap.size ≤ k_) ∧ k_ ≠ gb260) (fun k_ => some k_ = (.slice Ao21 x8_2.length co21 : Value).ownBlock) rfl rfl ?aP (fun k_ hk_ => ((Kd.R_mono (ok' := fun k_ => ((fun k_ => (P0_ k_ ∨ w.heap.size ≤ k_) ∧ k_ ≠ gb260)) k_ ∧ some k_ ≠ (u0 : Value).ownBlock) (Kd.R_types (Kd.R_apart' (HO_8.out) (Kd.S_typed HO_0.out) (by decide)) BK260.out (by decide)) (fun k_ hk => ⟨⟨hk.1.1, hk.2⟩, hk.1.2⟩))).1 k_ hk_.symm) ?aF ?aO ?aB ?aS ?aL ?_; (case aP => exact k45_mkM _ _ _ (⟨((rd_T45 l1 x6_1).f0), ((rd_T45 l1 x6_1).f1), ((rd_T45 l1 x6_1).f2), x8_2⟩ : S45) (Kd.R_mono (Kd.R_tight rfl (Kd.R_mono (ok' := fun k_ => ((fun k_ => (P0_ k_ ∨ w.heap.size ≤ k_) ∧ k_ ≠ gb260)) k_ ∧ some k_ ≠ (u0 : Value).ownBlock) (Kd.R_types (Kd.R_apart' (HO_8.out) (Kd.S_typed HO_0.out) (by decide)) BK260.out (by decide)) (fun k_ hk => ⟨⟨hk.1.1, hk.2⟩, hk.1.2⟩))) (fun _ h_ => h_))); (case aB => exact (by repeat (first | (with_reducible first | exact HB.out | apply below_alloc | apply pw_below_drewN | apply below_drew1 | refine below_set ?_ GE260.out) | exact HB.out))); (case aF => exact (fun k_ hk => ⟨(.inr (Nat.le_trans (by first | exact HK.out.1 | exact (show Kept w _ (fun k_ => P0_ k_) from by repeat (first | (with_reducible first | exact HK.out | apply Kept.alloc | apply Kept.drewN | apply Kept.drew | refine Kept.setCell ?_ (.inr GW260.out) _) | exact HK.out)).1) hk)), Kd.freshB (g := gb260) (o := .cells #[.int .i64 ((rd_T45 l1 x6_1).f0), .int .i64 ((rd_T45 l1 x6_1).f1), .string ((rd_T45 l1 x6_1).f2), .slice Ao21 x8_2.length co21] 45 (0, 0)) (by (with_reducible repeat (first | refine blk_drewN ?_ _ | refine blk_drew ?_ | refine blk_alloc ?_ _)); exact BK260.out) k_ hk⟩)); (case aO => exact (by (with_reducible repeat (first | apply Kd.S_alloc | apply Kd.S_drewN | apply Kd.S_drew)); exact Kd.S_mono HO_0.out (fun k_ hk => ⟨⟨hk.1, hk.2.2⟩, fun e_ => hk.2.1 e_⟩))); (case aS => exact (below_size (by repeat (first | (with_reducible first | exact HB.out | apply below_alloc | apply pw_below_drewN | apply below_drew1 | refine below_set ?_ GE260.out) | exact HB.out)))); (case aL => have := LMc19.out; omega); intro v267 w24 ho hb hg hat; rw [← Ny266.out] at ho; have n0_ := am (blk_grown (g := gb260) (o := .cells #[.int .i64 ((rd_T45 l1 x6_1).f0), .int .i64 ((rd_T45 l1 x6_1).f1), .string ((rd_T45 l1 x6_1).f2), .slice Ao21 x8_2.length co21] 45 (0, 0)) (by (with_reducible repeat (first | refine blk_drewN ?_ _ | refine blk_drew ?_ | refine blk_alloc ?_ _)); exact BK260.out) hg (Kd.S_away HO_0.out (fun _ hk => hk.2.2))); have n1_ := am (hb); have n2_ := am (Kept.of_grown (S := (fun k_ => P0_ k_)) hg (by repeat (first | (with_reducible first | exact HK.out | apply Kept.alloc | apply Kept.drewN | apply Kept.drew | refine Kept.setCell ?_ (.inr GW260.out) _) | exact HK.out)) (fun k_ e_ => ((Kd.S_R HO_0.out).1 k_ e_).1)); have n3_ := am (ho); clear BK260; clear HB; clear HK; clear HO_0; clear HO_8; have BK260 := n0_; have HB := n1_; have HK := n2_; have HO268 := n3_; clear n0_ n1_ n2_ n3_; clear ho hb hg hat))
            go_roundg k2
            case measure => have := HK1.out; have := HK2.out; omega
            case rel => exact ⟨(y266), (wrap64 (x6_1 + 1)), (by first | rfl | (simp; done) | (simp [*]; done)), H', ⟨by have := HK1.out; have := HK2.out; omega⟩, ⟨by (with_reducible repeat (first | apply Kd.S_alloc | apply Kd.S_drewN | apply Kd.S_drew)); exact Kd.S_mono HO268.out (fun _ hk => hk.1)⟩, ⟨by repeat (first | (with_reducible first | exact HK.out | apply Kept.alloc | apply Kept.drewN | apply Kept.drew | refine Kept.setCell ?_ (.inr GW260.out) _) | exact HK.out)⟩, ⟨by repeat (first | (with_reducible first | exact HB.out | apply below_alloc | apply pw_below_drewN | apply below_drew1 | refine below_set ?_ GE260.out) | exact HB.out)⟩⟩
          rw [if_pos c12] at H
          have c12b0 : decide (x9_2 < (((rd_T45 l1 x6_1).f3).length : Int)) = true := decide_eq_true c12
          clear c12
          by_cases c13 : 0 ≤ x9_2
          rotate_left
          · rw [if_neg c13] at H
            exact absurd H (by simp)
          rw [if_pos c13] at H
          have c13b0 : decide (0 ≤ x9_2) = true := decide_eq_true c13
          clear c13
          by_cases c14 : x9_2 < (x8_2.length : Int)
          rotate_left
          · rw [if_neg c14] at H
            exact absurd H (by simp)
          rw [if_pos c14] at H
          have c14b0 : decide (x9_2 < (x8_2.length : Int)) = true := decide_eq_true c14
          clear c14
          obtain ⟨y265, hy265⟩ : ∃ y_ : List Int, y_ = (x8_2.set (x9_2 : Int).toNat (wrap64 ((rd ((rd_T45 l1 x6_1).f3) x9_2) + (l0.length : Int)))) := ⟨_, rfl⟩
          replace H : (sorrelref02_behind.l1 k2 x0_1 l1 (l0.length : Int) x6_1 y265 (wrap64 (x9_2 + 1)) ((rd_T45 l1 x6_1).f0) ((rd_T45 l1 x6_1).f1) ((rd_T45 l1 x6_1).f2) ((rd_T45 l1 x6_1).f3)) = some r := by first | (rw [hy265]; with_reducible exact H) | (have H2_ := (Option.bind_some _ _).symm.trans H; rw [hy265]; with_reducible exact H2_) | (have H2_ := (Option.bind_some _ _).symm.trans H; with_reducible exact H2_) | with_reducible exact H | (rw [hy265]; exact H) | exact H
          have Ny265 := am hy265
          clear hy265
          have H' := am H
          clear H
          have hcz16_0 : wr.cell? ⟨gb260, 0, none⟩ = some (.int .i64 ((rd_T45 l1 x6_1).f0)) := (blk_cell BK260.out 0).trans rfl
          have hcz16_1 : wr.cell? ⟨gb260, 1, none⟩ = some (.int .i64 ((rd_T45 l1 x6_1).f1)) := (blk_cell BK260.out 1).trans rfl
          have hcz16_2 : wr.cell? ⟨gb260, 2, none⟩ = some (.string ((rd_T45 l1 x6_1).f2)) := (blk_cell BK260.out 2).trans rfl
          have hcz16_3 : wr.cell? ⟨gb260, 3, none⟩ = some (.slice A259_3 ((rd_T45 l1 x6_1).f3).length c259_3) := (blk_cell BK260.out 3).trans rfl
          have hfz16_0 := blk_frozen BK260.out 0
          have hfz16_1 := blk_frozen BK260.out 1
          have hfz16_2 := blk_frozen BK260.out 2
          have hfz16_3 := blk_frozen BK260.out 3
          have p264 : 0 ≤ (x9_2 : Int) := of_decide_eq_true (by first | (with_reducible assumption) | assumption)
          have q264 : x9_2 < (((rd_T45 l1 x6_1).f3).length : Int) := of_decide_eq_true (by first | (with_reducible assumption) | assumption)
          obtain ⟨ad264, e264, hx264_0⟩ := Kd.at_int HR259_3.out x9_2 p264 q264
          cases e264
          replace hx264_0 := (HB.out.cell (World.block_lt_of_cell? w0 _ hx264_0)).trans hx264_0
          replace p264 := eq_true p264
          replace q264 := eq_true q264
          have p15 : 0 ≤ (x9_2 : Int) := of_decide_eq_true (by first | (with_reducible assumption) | assumption)
          have q15 : (x9_2 : Int) < ((x8_2.length : Int) : Int) := of_decide_eq_true (by first | (with_reducible assumption) | assumption)
          obtain ⟨go15, co15, eo15, gb15, gl15, cl15, HG15⟩ := Kd.R_form HO_8.out (by omega)
          (first | cases eo15 | (injection eo15 with ea_ en_ ec_; (first | subst ea_ | (injection ea_ with ea_; subst ea_)); subst ec_; clear en_))
          have GB15 := am gb15
          have GG15 := am HG15
          clear gb15 gl15 HG15
          have HMgo15 := am (show (P0_ go15 ∨ w.heap.size ≤ go15) from (HO_8.out.1 _ rfl))
          obtain ⟨hx15_0, hf15_0⟩ := Kd.R_celln 0 HO_8.out (x9_2 : Int) p15 q15
          replace p15 := eq_true p15
          replace q15 := eq_true q15
          have HP17 := Kd.R_putg HO_8.out (x9_2 : Int) (wrap64 ((rd ((rd_T45 l1 x6_1).f3) x9_2) + (l0.length : Int)))
          go_wp2_with (first | ((with_reducible refine gate_store (t := 3) (p := 42) rfl ?_); refine store_event (t := 3) (p := 42) (v := ?vo_w18) (w1 := (wr.setCell ⟨go15, (x9_2 : Int).toNat, none⟩ (.int .i64 (wrap64 ((rd ((rd_T45 l1 x6_1).f3) x9_2) + (l0.length : Int)))))) ?hg ?ho ?hn ?hr ?_; (case ho => rfl); (case hg => rfl); (case hn => rfl); (case hr => first | (go_simp; done) | (go_simp; rfl)); intro w18 hw; have hg : wr.grownBy w18 (some go15) := (by rw [hw]; exact HP17.2); have hp_ : Kd.R (Kd.int .i64) 3 w18 w0.heap.size (fun k_ => (P0_ k_ ∨ w.heap.size ≤ k_)) (.slice (some ⟨go15, 0, none⟩) x8_2.length co15) y265 := (by rw [hw, Ny265.out]; exact HP17.1); clear HP17; have n0_ := am (Kd.S_after (v := (.slice (some ⟨go15, 0, none⟩) x8_2.length co15)) (v1 := (.slice (some ⟨go15, 0, none⟩) x8_2.length co15)) (ok := (fun k_ => (P0_ k_ ∨ w.heap.size ≤ k_) ∧ k_ ≠ gb260)) (by (with_reducible repeat (first | apply Kd.S_alloc | apply Kd.S_drewN | apply Kd.S_drew)); exact Kd.S_mono HO_0.out (fun _ hk => ⟨⟨hk.1, hk.2.2⟩, hk.2.1⟩)) hg (.inl rfl)); have n1_ := am (hp_); have n2_ := am (blk_grown (g := gb260) (o := .cells #[.int .i64 ((rd_T45 l1 x6_1).f0), .int .i64 ((rd_T45 l1 x6_1).f1), .string ((rd_T45 l1 x6_1).f2), .slice (some ad264) ((rd_T45 l1 x6_1).f3).length c259_3] 45 (0, 0)) (by (with_reducible repeat (first | refine blk_drewN ?_ _ | refine blk_drew ?_ | refine blk_alloc ?_ _)); exact BK260.out) hg (Kd.R_ne HO_8.out BK260.out (by decide))); have n3_ := am ((by rw [hw]; exact below_set (HB.out) GB15.out : Below w0.heap.size w0 w18)); have n4_ := am (Kept.of_grown (S := (fun k_ => P0_ k_)) hg (by repeat (first | (with_reducible first | exact HK.out | apply Kept.alloc | apply Kept.drewN | apply Kept.drew | refine Kept.setCell ?_ (.inr GW260.out) _) | exact HK.out)) (fun k_ e_ => (HO_8.out.1 k_ e_))); clear HO_0; clear HO_8; clear BK260; clear HB; clear HK; have HO_0 := n0_; have HO_8 := n1_; have BK260 := n2_; have HB := n3_; have HK := n4_; clear n0_ n1_ n2_ n3_ n4_; clear hg hw hp_))
          go_roundg k2
          case measure => have := HK1.out; have := HK2.out; omega
          case rel => exact ⟨(y265), (wrap64 (x9_2 + 1)), (by first | rfl | (simp; done) | (simp [*]; done)), H', ⟨by have := HK1.out; have := HK2.out; omega⟩, ⟨by (with_reducible repeat (first | apply Kd.S_alloc | apply Kd.S_drewN | apply Kd.S_drew)); exact Kd.S_mono HO_0.out (fun _ hk => ⟨hk.1.1, ⟨hk.2, hk.1.2⟩⟩)⟩, ⟨by (with_reducible repeat (first | apply Kd.R_alloc | apply Kd.R_drewN | apply Kd.R_drew)); exact HO_8.out⟩, ⟨by (with_reducible repeat (first | refine blk_drewN ?_ _ | refine blk_drew ?_ | refine blk_alloc ?_ _)); exact BK260.out⟩, ⟨by repeat (first | (with_reducible first | exact HK.out | apply Kept.alloc | apply Kept.drewN | apply Kept.drew | refine Kept.setCell ?_ (.inr GW260.out) _) | exact HK.out)⟩, ⟨by repeat (first | (with_reducible first | exact HB.out | apply below_alloc | apply pw_below_drewN | apply below_drew1 | refine below_set ?_ GE260.out) | exact HB.out)⟩⟩
end Go.Proofs.YtacjjfoelhckcaaDoor.PExprPlays
