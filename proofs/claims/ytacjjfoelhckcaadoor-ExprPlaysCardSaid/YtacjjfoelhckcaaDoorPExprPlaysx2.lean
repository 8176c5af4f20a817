/- Contracts of functions, printed by the session's own changed copy of the print generator (see its notes); the plain functions tell what the calls answer. -/
import Derived.Test.YtacjjfoelhckcaaDoorPExprPlaysx0
import Derived.Test.YtacjjfoelhckcaaDoorPExprPlaysx1
namespace Go.Proofs.YtacjjfoelhckcaaDoor.PExprPlays
open Go.RowKit Go.Proofs.YtacjjfoelhckcaaDoorW.PrintWords Go.Proofs.YtacjjfoelhckcaaDoorW.PrintLast Go.Proofs.YtacjjfoelhckcaaDoorW.PrintMore
attribute [local go_sem] max2_int min2_int max_two min_two max_three min_three max_four min_four   -- for this text's walks alone
set_option linter.unusedVariables false
set_option linter.unusedSimpArgs false
/-! ### expr_Check: function 51 -/
mutual
def expr_Check.j0 : Nat → List (S45) → Bool → Option (Int)
  | 0, _, _ => none
  | k + 1, x0, x14 => if x14 = true then (some 1) else (expr_Check.l0 k ([] : List Int) x0 (x0.length : Int) 0)
def expr_Check.l0 : Nat → List Int → List (S45) → Int → Int → Option (Int)
  | 0, _, _, _, _ => none
  | k + 1, x3, x15, x16, x17 => if x17 < x16 then (if 0 ≤ x17 then (if x17 < (x15.length : Int) then ((expr_sound.f k ((rd_T45 x15 x17).f0) ((rd_T45 x15 x17).f1) ((rd_T45 x15 x17).f2) ((rd_T45 x15 x17).f3)).bind fun t109 => (if t109 = true then (expr_Check.j2 k x3 x17 x15 x16 x17 (decide ((((rd_T45 x15 x17).f3).length : Int) > (x3.length : Int))) ((rd_T45 x15 x17).f0) ((rd_T45 x15 x17).f1) ((rd_T45 x15 x17).f2) ((rd_T45 x15 x17).f3)) else (expr_Check.j2 k x3 x17 x15 x16 x17 true ((rd_T45 x15 x17).f0) ((rd_T45 x15 x17).f1) ((rd_T45 x15 x17).f2) ((rd_T45 x15 x17).f3)))) else (none)) else (none)) else (if (x3.length : Int) = 1 then (some 0) else (some 1))
def expr_Check.j2 : Nat → List Int → Int → List (S45) → Int → Int → Bool → Int → Int → ByteArray → List Int → Option (Int)
  | 0, _, _, _, _, _, _, _, _, _, _ => none
  | k + 1, x3, x4, x15, x16, x17, x32, x109000, x109001, x109002, x109003 => if x32 = true then (some 1) else (if 0 ≤ (wrap64 ((x3.length : Int) - (x109003.length : Int))) then (if (wrap64 ((x3.length : Int) - (x109003.length : Int))) ≤ (x3.length : Int) then ((slices_Equal_int_int.f k (x3.drop ((wrap64 ((x3.length : Int) - (x109003.length : Int))) : Int).toNat) x109003).bind fun t114 => (if t114 = true then ((some (x3.take ((wrap64 ((x3.length : Int) - (x109003.length : Int))) : Int).toNat : List Int)).bind fun y115 => (if y115.length < 17592186044416 then (expr_Check.l0 k (y115 ++ [x4]) x15 x16 (wrap64 (x17 + 1))) else (none))) else (some 1))) else (none)) else (none))
end
def expr_Check.f (k : Nat) (l0 : List (S45)) : Option (Int) := if (l0.length : Int) < 1 then (expr_Check.j0 k l0 true) else (expr_Check.j0 k l0 (decide ((l0.length : Int) > 64)))
theorem expr_Check.mono_l : ∀ k, (∀ y0 y1, LeO (expr_Check.j0 k y0 y1) (expr_Check.j0 (k + 1) y0 y1)) ∧ (∀ y0 y1 y2 y3, LeO (expr_Check.l0 k y0 y1 y2 y3) (expr_Check.l0 (k + 1) y0 y1 y2 y3)) ∧ (∀ y0 y1 y2 y3 y4 y5 y6 y7 y8 y9, LeO (expr_Check.j2 k y0 y1 y2 y3 y4 y5 y6 y7 y8 y9) (expr_Check.j2 (k + 1) y0 y1 y2 y3 y4 y5 y6 y7 y8 y9))
  | 0 => ⟨fun _ _ r h => by simp [expr_Check.j0] at h, fun _ _ _ _ r h => by simp [expr_Check.l0] at h, fun _ _ _ _ _ _ _ _ _ _ r h => by simp [expr_Check.j2] at h⟩
  | k + 1 => by
    obtain ⟨ih0, ih1, ih2⟩ := expr_Check.mono_l k
    refine ⟨?_, ?_, ?_⟩
    · intro y0 y1
      unfold expr_Check.j0
      repeat' first
      | (with_reducible exact ih0 _ _)
      | (with_reducible exact ih1 _ _ _ _)
      | (with_reducible exact ih2 _ _ _ _ _ _ _ _ _ _)
      | (with_reducible exact expr_sound.mono _ _ _ _ _)
      | (with_reducible exact slices_Equal_int_int.mono _ _ _)
      | (with_reducible exact LeO.refl _)
      | (with_reducible exact LeO.none _)
      | (with_reducible refine LeO.ite ?_ ?_)
      | (with_reducible refine LeO.bind ?_ (fun _ => ?_))
      | exact ih0 _ _
      | exact ih1 _ _ _ _
      | exact ih2 _ _ _ _ _ _ _ _ _ _
      | exact expr_sound.mono _ _ _ _ _
      | exact slices_Equal_int_int.mono _ _ _
      | exact LeO.none _
      | refine LeO.ite ?_ ?_
      | refine LeO.bind ?_ (fun _ => ?_)
    · intro y0 y1 y2 y3
      unfold expr_Check.l0
      repeat' first
      | (with_reducible exact ih0 _ _)
      | (with_reducible exact ih1 _ _ _ _)
      | (with_reducible exact ih2 _ _ _ _ _ _ _ _ _ _)
      | (with_reducible exact expr_sound.mono _ _ _ _ _)
      | (with_reducible exact slices_Equal_int_int.mono _ _ _)
      | (with_reducible exact LeO.refl _)
      | (with_reducible exact LeO.none _)
      | (with_reducible refine LeO.ite ?_ ?_)
      | (with_reducible refine LeO.bind ?_ (fun _ => ?_))
      | exact ih0 _ _
      | exact ih1 _ _ _ _
      | exact ih2 _ _ _ _ _ _ _ _ _ _
      | exact expr_sound.mono _ _ _ _ _
      | exact slices_Equal_int_int.mono _ _ _
      | exact LeO.none _
      | refine LeO.ite ?_ ?_
      | refine LeO.bind ?_ (fun _ => ?_)
    intro y0 y1 y2 y3 y4 y5 y6 y7 y8 y9
    unfold expr_Check.j2
    repeat' first
    | (with_reducible exact ih0 _ _)
    | (with_reducible exact ih1 _ _ _ _)
    | (with_reducible exact ih2 _ _ _ _ _ _ _ _ _ _)
    | (with_reducible exact expr_sound.mono _ _ _ _ _)
    | (with_reducible exact slices_Equal_int_int.mono _ _ _)
    | (with_reducible exact LeO.refl _)
    | (with_reducible exact LeO.none _)
    | (with_reducible refine LeO.ite ?_ ?_)
    | (with_reducible refine LeO.bind ?_ (fun _ => ?_))
    | exact ih0 _ _
    | exact ih1 _ _ _ _
    | exact ih2 _ _ _ _ _ _ _ _ _ _
    | exact expr_sound.mono _ _ _ _ _
    | exact slices_Equal_int_int.mono _ _ _
    | exact LeO.none _
    | refine LeO.ite ?_ ?_
    | refine LeO.bind ?_ (fun _ => ?_)
theorem expr_Check.mono : ∀ a0 k, LeO (expr_Check.f k a0) (expr_Check.f (k + 1) a0) := by
  intro a0 k
  obtain ⟨ih0, ih1, ih2⟩ := expr_Check.mono_l k
  unfold expr_Check.f
  repeat' first
      | (with_reducible exact ih0 _ _)
      | (with_reducible exact ih1 _ _ _ _)
      | (with_reducible exact ih2 _ _ _ _ _ _ _ _ _ _)
      | (with_reducible exact expr_sound.mono _ _ _ _ _)
      | (with_reducible exact slices_Equal_int_int.mono _ _ _)
      | (with_reducible exact LeO.refl _)
      | (with_reducible exact LeO.none _)
      | (with_reducible refine LeO.ite ?_ ?_)
      | (with_reducible refine LeO.bind ?_ (fun _ => ?_))
      | exact ih0 _ _
      | exact ih1 _ _ _ _
      | exact ih2 _ _ _ _ _ _ _ _ _ _
      | exact expr_sound.mono _ _ _ _ _
      | exact slices_Equal_int_int.mono _ _ _
      | exact LeO.none _
      | refine LeO.ite ?_ ?_
      | refine LeO.bind ?_ (fun _ => ?_)
set_option maxHeartbeats 8000000 in
set_option maxRecDepth 100000 in
theorem expr_Check.calls (k : Nat) (A0 : Option Addr) (c0 : Nat) (l0 : List (S45)) (r : Int) (w : World) (hr0 : Kd.C k45 w A0 l0.length l0) (hc0 : l0.length ≤ c0) (hG : GL w) (h : expr_Check.f k l0 = some r) :
    Calls Tryd.prog 51 #[.slice A0 l0.length c0] w fun e w' => e = .returned (.int .i64 r) ∧ Below w.heap.size w w' := by
  have hu45 := Tryd.underlying45
  have HG := am hG
  clear hG
  have HR0 := am hr0
  have HC0 := am hc0
  clear hr0 hc0
  have HB := am (Below.refl w.heap.size w)
  have H : (if (l0.length : Int) < 1 then (expr_Check.j0 k l0 true) else (expr_Check.j0 k l0 (decide ((l0.length : Int) > 64)))) = some r := h
  clear h
  have HC2 := am H
  clear H
  go_enter Tryd.func51, Tryd.ntmps51
  go_upto_region 1 with (fail)
  repeat (go_quiet (fail); go_upto_region 1 with (fail))
  go_cut [14] (fun v14 wc => ∃ (kq : Nat) (x14_1 : Bool), v14 = .bool x14_1 ∧ Aside0 (expr_Check.j0 kq l0 x14_1 = some r) ∧ Aside0 (kq ≤ k) ∧ Aside0 (Below w.heap.size w wc))
  case first =>
    have H := HC2.out
    clear HC2
    by_cases c3 : (l0.length : Int) < 1
    rotate_left
    · rw [if_neg c3] at H
      have c3b0 : decide ((l0.length : Int) < 1) = false := decide_eq_false c3
      have c3b1 : decide (l0.length < 1) = false := decide_eq_false (by omega)
      clear c3
      (first | rw [c3b0] | (simp only [i64_w, i32_w]; rw [c3b0]) | skip)
      have H' := am H
      clear H
      go_wp2
      repeat (go_quiet (fail); try go_wp2)
      go_meet
      case rel => exact ⟨_, (decide ((l0.length : Int) > 64)), (by first | rfl | (simp; done) | (simp [*]; done)), H', ⟨by first | omega | exact Nat.le_refl _⟩, ⟨by repeat (first | (with_reducible first | exact HB.out | apply below_alloc | apply pw_below_drewN | apply below_drew1) | exact HB.out)⟩⟩
    rw [if_pos c3] at H
    have c3b0 : decide ((l0.length : Int) < 1) = true := decide_eq_true c3
    have c3b1 : decide (l0.length < 1) = true := decide_eq_true (by omega)
    clear c3
    (first | rw [c3b0] | (simp only [i64_w, i32_w]; rw [c3b0]) | skip)
    have H' := am H
    clear H
    go_wp2
    repeat (go_quiet (fail); try go_wp2)
    go_meet
    case rel => exact ⟨_, (true), (by first | rfl | (simp; done) | (simp [*]; done)), H', ⟨by first | omega | exact Nat.le_refl _⟩, ⟨by repeat (first | (with_reducible first | exact HB.out | apply below_alloc | apply pw_below_drewN | apply below_drew1) | exact HB.out)⟩⟩
  case rest =>
    clear HC2
    try clear p2
    try clear c3
    try clear c3b0
    try clear c3b1
    obtain ⟨kq, x14_1, rfl, HA, HJ1, HB⟩ := hcut
    cases kq with
    | zero => exact absurd HA.out (by simp [expr_Check.j0])
    | succ kj1 =>
      have H := HA.out
      clear HA
      simp only [expr_Check.j0] at H
      by_cases c4 : x14_1 = true
      · subst c4
        have H1 : (some 1) = some r := by rw [if_pos rfl] at H; exact H
        clear H
        have H := H1
        clear H1
        obtain rfl := Option.some.inj H
        go_wp2
        repeat (go_quiet (fail); try go_wp2)
        go_ret
        exact ⟨by first | rfl | (simp [errW_none, errW_some] <;> rfl) | (simp [*, errW_none, errW_some] <;> rfl), by repeat (first | (with_reducible first | exact HB.out | apply below_alloc | apply pw_below_drewN | apply below_drew1) | exact HB.out)⟩
      replace c4 := Bool.eq_false_iff.mpr c4
      subst c4
      have H1 : (expr_Check.l0 kj1 ([] : List Int) l0 (l0.length : Int) 0) = some r := by rw [if_neg (show ¬ (false = true) by decide)] at H; exact H
      clear H
      have H := H1
      clear H1
      have H' := am H
      clear H
      go_wp2
      repeat (go_quiet (fail); try go_wp2)
      go_loopg [3, 17] kj1 (fun kq v3 v17 w' => ∃ (x3_2 : List Int) (x17_2 : Int), v17 = .int .i64 x17_2 ∧ Aside0 (expr_Check.l0 kq x3_2 l0 (l0.length : Int) x17_2 = some r) ∧ Aside0 (kq ≤ kj1) ∧ Aside0 (Kd.R (Kd.int .i64) 3 w' w.heap.size (fun _ => True) v3 x3_2) ∧ Aside0 (Below w.heap.size w w'))
      case atStart => exact ⟨(([] : List Int)), (0), (by first | rfl | (simp; done) | (simp [*]; done)), H', ⟨Nat.le_refl _⟩, ⟨by first | exact Kd.R_nil _ _ _ _ _ | exact Kd.N_nil _ _ _ _ _ | exact Kd.V_nil _ _ _ _ _ | exact Kd.Q_nil _ _ _ _ _ | exact Kd.S_nil _ _ _ _ _⟩, ⟨by repeat (first | (with_reducible first | exact HB.out | apply below_alloc | apply pw_below_drewN | apply below_drew1) | exact HB.out)⟩⟩
      case round =>
        clear H'
        try clear p2
        try clear c3
        try clear c3b0
        try clear c3b1
        try clear c4
        try clear p2
        obtain ⟨x3_2, x17_2, rfl, HA, HK2, HO_3, HB⟩ := hrel
        cases gk with
        | zero => exact absurd HA.out (by simp [expr_Check.l0])
        | succ k2 =>
          have H := HA.out
          clear HA
          simp only [expr_Check.l0] at H
          by_cases c5 : x17_2 < (l0.length : Int)
          rotate_left
          · rw [if_neg c5] at H
            have c5b0 : decide (x17_2 < (l0.length : Int)) = false := decide_eq_false c5
            clear c5
            by_cases c35 : (x3_2.length : Int) = 1
            rotate_left
            · rw [if_neg c35] at H
              have c35b0 : ((x3_2.length : Int) == 1) = false := beq_eq_false_iff_ne.mpr c35
              have c35b1 : ((x3_2.length : Int) != 1) = true := bne_iff_ne.mpr c35
              obtain rfl := Option.some.inj H
              obtain ⟨Ao37, co37, eo37⟩ := Kd.R_slice HO_3.out
              subst eo37
              go_wp2
              repeat (go_quiet (fail); try go_wp2)
              go_ret
              exact ⟨by first | rfl | (simp [errW_none, errW_some] <;> rfl) | (simp [*, errW_none, errW_some] <;> rfl), by repeat (first | (with_reducible first | exact HB.out | apply below_alloc | apply pw_below_drewN | apply below_drew1) | exact HB.out)⟩
            rw [if_pos c35] at H
            have c35b0 : ((x3_2.length : Int) == 1) = true := beq_iff_eq.mpr c35
            have c35b1 : ((x3_2.length : Int) != 1) = false := bne_eq_false_iff_eq.mpr c35
            clear c35
            obtain rfl := Option.some.inj H
            obtain ⟨Ao36, co36, eo36⟩ := Kd.R_slice HO_3.out
            subst eo36
            go_wp2
            repeat (go_quiet (fail); try go_wp2)
            go_ret
            exact ⟨by first | rfl | (simp [errW_none, errW_some] <;> rfl) | (simp [*, errW_none, errW_some] <;> rfl), by repeat (first | (with_reducible first | exact HB.out | apply below_alloc | apply pw_below_drewN | apply below_drew1) | exact HB.out)⟩
          rw [if_pos c5] at H
          have c5b0 : decide (x17_2 < (l0.length : Int)) = true := decide_eq_true c5
          clear c5
          by_cases c6 : 0 ≤ x17_2
          rotate_left
          · rw [if_neg c6] at H
            exact absurd H (by simp)
          rw [if_pos c6] at H
          have c6b0 : decide (0 ≤ x17_2) = true := decide_eq_true c6
          clear c6
          by_cases c7 : x17_2 < (l0.length : Int)
          rotate_left
          · rw [if_neg c7] at H
            exact absurd H (by simp)
          rw [if_pos c7] at H
          have c7b0 : decide (x17_2 < (l0.length : Int)) = true := decide_eq_true c7
          clear c7
          have HC8 := am H
          clear H
          have p107 : 0 ≤ (x17_2 : Int) := of_decide_eq_true (by first | (with_reducible assumption) | assumption)
          have q107 : x17_2 < (l0.length : Int) := of_decide_eq_true (by first | (with_reducible assumption) | assumption)
          obtain ⟨ad107, A107_3, c107_3, e107, hx107_0, hx107_1, hx107_2, hx107_3, hl107_3, hi107_3⟩ := at_T45 HR0.out x17_2 p107 q107
          cases e107
          replace hx107_0 := (HB.out.cell (World.block_lt_of_cell? w _ hx107_0)).trans hx107_0
          replace hx107_1 := (HB.out.cell (World.block_lt_of_cell? w _ hx107_1)).trans hx107_1
          replace hx107_2 := (HB.out.cell (World.block_lt_of_cell? w _ hx107_2)).trans hx107_2
          replace hx107_3 := (HB.out.cell (World.block_lt_of_cell? w _ hx107_3)).trans hx107_3
          have HR107_3 := am hi107_3
          have HC107_3 := am hl107_3
          clear hi107_3 hl107_3
          replace p107 := eq_true p107
          replace q107 := eq_true q107
          go_upto_region 7 with (first | ((with_reducible refine gate_dst (N := 5) rfl ?_); (try (refine gate_guard (by rfl) ?_; dsimp only)); refine box_event ?hg (N := 5) ?hd (cs := #[.int .i64 0, .int .i64 0, .string (⟨#[]⟩ : ByteArray), .slice none 0 0]) (t := 45) ?hr ?_; (case hd => rfl); (case hg => rfl); (case hr => first | (go_simp; done) | (go_simp; rfl)); intro gb108 hg w9 hbox hb; have n0_ := am (Kd.R_below (by (with_reducible repeat (first | apply Kd.R_alloc | apply Kd.R_drewN | apply Kd.R_drew)); exact HO_3.out) hb); have n1_ := am (below_step (by repeat (first | (with_reducible first | exact HB.out | apply below_alloc | apply pw_below_drewN | apply below_drew1) | exact HB.out)) hb); have n2_ := am (hbox); have n3_ := am ((by rw [hg]; exact (below_size (by repeat (first | (with_reducible first | exact HB.out | apply below_alloc | apply pw_below_drewN | apply below_drew1) | exact HB.out))) : w.heap.size ≤ gb108)); have n4_ := am ((by rw [hg]; exact (below_size (by repeat (first | (with_reducible first | exact HB.out | apply below_alloc | apply pw_below_drewN | apply below_drew1) | exact HB.out))) : w.heap.size ≤ gb108)); clear HO_3; clear HB; have HO_3 := n0_; have HB := n1_; have BK108 := n2_; have GW108 := n3_; have GE108 := n4_; clear n0_ n1_ n2_ n3_ n4_; clear hb hbox hg; have hcz10_0 : w9.cell? ⟨gb108, 0, none⟩ = some (.int .i64 0) := (blk_cell BK108.out 0).trans rfl; have hcz10_1 : w9.cell? ⟨gb108, 1, none⟩ = some (.int .i64 0) := (blk_cell BK108.out 1).trans rfl; have hcz10_2 : w9.cell? ⟨gb108, 2, none⟩ = some (.string (⟨#[]⟩ : ByteArray)) := (blk_cell BK108.out 2).trans rfl; have hcz10_3 : w9.cell? ⟨gb108, 3, none⟩ = some (.slice none 0 0) := (blk_cell BK108.out 3).trans rfl; have hfz10_0 := blk_frozen BK108.out 0; have hfz10_1 := blk_frozen BK108.out 1; have hfz10_2 := blk_frozen BK108.out 2; have hfz10_3 := blk_frozen BK108.out 3))
          repeat (go_quiet (first | ((with_reducible refine gate_dst (N := 5) rfl ?_); (try (refine gate_guard (by rfl) ?_; dsimp only)); refine box_event ?hg (N := 5) ?hd (cs := #[.int .i64 0, .int .i64 0, .string (⟨#[]⟩ : ByteArray), .slice none 0 0]) (t := 45) ?hr ?_; (case hd => rfl); (case hg => rfl); (case hr => first | (go_simp; done) | (go_simp; rfl)); intro gb108 hg w9 hbox hb; have n0_ := am (Kd.R_below (by (with_reducible repeat (first | apply Kd.R_alloc | apply Kd.R_drewN | apply Kd.R_drew)); exact HO_3.out) hb); have n1_ := am (below_step (by repeat (first | (with_reducible first | exact HB.out | apply below_alloc | apply pw_below_drewN | apply below_drew1) | exact HB.out)) hb); have n2_ := am (hbox); have n3_ := am ((by rw [hg]; exact (below_size (by repeat (first | (with_reducible first | exact HB.out | apply below_alloc | apply pw_below_drewN | apply below_drew1) | exact HB.out))) : w.heap.size ≤ gb108)); have n4_ := am ((by rw [hg]; exact (below_size (by repeat (first | (with_reducible first | exact HB.out | apply below_alloc | apply pw_below_drewN | apply below_drew1) | exact HB.out))) : w.heap.size ≤ gb108)); clear HO_3; clear HB; have HO_3 := n0_; have HB := n1_; have BK108 := n2_; have GW108 := n3_; have GE108 := n4_; clear n0_ n1_ n2_ n3_ n4_; clear hb hbox hg; have hcz10_0 : w9.cell? ⟨gb108, 0, none⟩ = some (.int .i64 0) := (blk_cell BK108.out 0).trans rfl; have hcz10_1 : w9.cell? ⟨gb108, 1, none⟩ = some (.int .i64 0) := (blk_cell BK108.out 1).trans rfl; have hcz10_2 : w9.cell? ⟨gb108, 2, none⟩ = some (.string (⟨#[]⟩ : ByteArray)) := (blk_cell BK108.out 2).trans rfl; have hcz10_3 : w9.cell? ⟨gb108, 3, none⟩ = some (.slice none 0 0) := (blk_cell BK108.out 3).trans rfl; have hfz10_0 := blk_frozen BK108.out 0; have hfz10_1 := blk_frozen BK108.out 1; have hfz10_2 := blk_frozen BK108.out 2; have hfz10_3 := blk_frozen BK108.out 3)); go_upto_region 7 with (first | ((with_reducible refine gate_dst (N := 5) rfl ?_); (try (refine gate_guard (by rfl) ?_; dsimp only)); refine box_event ?hg (N := 5) ?hd (cs := #[.int .i64 0, .int .i64 0, .string (⟨#[]⟩ : ByteArray), .slice none 0 0]) (t := 45) ?hr ?_; (case hd => rfl); (case hg => rfl); (case hr => first | (go_simp; done) | (go_simp; rfl)); intro gb108 hg w9 hbox hb; have n0_ := am (Kd.R_below (by (with_reducible repeat (first | apply Kd.R_alloc | apply Kd.R_drewN | apply Kd.R_drew)); exact HO_3.out) hb); have n1_ := am (below_step (by repeat (first | (with_reducible first | exact HB.out | apply below_alloc | apply pw_below_drewN | apply below_drew1) | exact HB.out)) hb); have n2_ := am (hbox); have n3_ := am ((by rw [hg]; exact (below_size (by repeat (first | (with_reducible first | exact HB.out | apply below_alloc | apply pw_below_drewN | apply below_drew1) | exact HB.out))) : w.heap.size ≤ gb108)); have n4_ := am ((by rw [hg]; exact (below_size (by repeat (first | (with_reducible first | exact HB.out | apply below_alloc | apply pw_below_drewN | apply below_drew1) | exact HB.out))) : w.heap.size ≤ gb108)); clear HO_3; clear HB; have HO_3 := n0_; have HB := n1_; have BK108 := n2_; have GW108 := n3_; have GE108 := n4_; clear n0_ n1_ n2_ n3_ n4_; clear hb hbox hg; have hcz10_0 : w9.cell? ⟨gb108, 0, none⟩ = some (.int .i64 0) := (blk_cell BK108.out 0).trans rfl; have hcz10_1 : w9.cell? ⟨gb108, 1, none⟩ = some (.int .i64 0) := (blk_cell BK108.out 1).trans rfl; have hcz10_2 : w9.cell? ⟨gb108, 2, none⟩ = some (.string (⟨#[]⟩ : ByteArray)) := (blk_cell BK108.out 2).trans rfl; have hcz10_3 : w9.cell? ⟨gb108, 3, none⟩ = some (.slice none 0 0) := (blk_cell BK108.out 3).trans rfl; have hfz10_0 := blk_frozen BK108.out 0; have hfz10_1 := blk_frozen BK108.out 1; have hfz10_2 := blk_frozen BK108.out 2; have hfz10_3 := blk_frozen BK108.out 3)))
          (try simp only [Act.put, List.setIfInBounds_toArray, List.set_cons_zero, List.set_cons_succ])
          go_cut [32] (fun v32 wc => ∃ (kq : Nat) (x32_7 : Bool), v32 = .bool x32_7 ∧ Aside0 (expr_Check.j2 kq x3_2 x17_2 l0 (l0.length : Int) x17_2 x32_7 ((rd_T45 l0 x17_2).f0) ((rd_T45 l0 x17_2).f1) ((rd_T45 l0 x17_2).f2) ((rd_T45 l0 x17_2).f3) = some r) ∧ Aside0 (kq ≤ k2) ∧ Aside0 (Kd.R (Kd.int .i64) 3 wc w.heap.size (fun _ => True) u3 x3_2) ∧ Aside0 (wc.heap[gb108]? = some (.cells #[.int .i64 ((rd_T45 l0 x17_2).f0), .int .i64 ((rd_T45 l0 x17_2).f1), .string ((rd_T45 l0 x17_2).f2), (.slice A107_3 ((rd_T45 l0 x17_2).f3).length c107_3)] 45 (0, 0))) ∧ Aside0 (Below w.heap.size w wc))
          case first =>
            have H := HC8.out
            clear HC8
            replace H := Option.bind_eq_some_iff.mp H
            obtain ⟨t109, A110, H⟩ := H
            replace H : (if t109 = true then (expr_Check.j2 k2 x3_2 x17_2 l0 (l0.length : Int) x17_2 (decide ((((rd_T45 l0 x17_2).f3).length : Int) > (x3_2.length : Int))) ((rd_T45 l0 x17_2).f0) ((rd_T45 l0 x17_2).f1) ((rd_T45 l0 x17_2).f2) ((rd_T45 l0 x17_2).f3)) else (expr_Check.j2 k2 x3_2 x17_2 l0 (l0.length : Int) x17_2 true ((rd_T45 l0 x17_2).f0) ((rd_T45 l0 x17_2).f1) ((rd_T45 l0 x17_2).f2) ((rd_T45 l0 x17_2).f3))) = some r := H
            have A11 := am A110
            clear A110
            by_cases c12 : t109 = true
            · subst c12
              have H1 : (expr_Check.j2 k2 x3_2 x17_2 l0 (l0.length : Int) x17_2 (decide ((((rd_T45 l0 x17_2).f3).length : Int) > (x3_2.length : Int))) ((rd_T45 l0 x17_2).f0) ((rd_T45 l0 x17_2).f1) ((rd_T45 l0 x17_2).f2) ((rd_T45 l0 x17_2).f3)) = some r := by rw [if_pos rfl] at H; exact H
              clear H
              have H := H1
              clear H1
              have H' := am H
              clear H
              have hcz13_0 : w9.cell? ⟨gb108, 0, none⟩ = some (.int .i64 0) := (blk_cell BK108.out 0).trans rfl
              have hcz13_1 : w9.cell? ⟨gb108, 1, none⟩ = some (.int .i64 0) := (blk_cell BK108.out 1).trans rfl
              have hcz13_2 : w9.cell? ⟨gb108, 2, none⟩ = some (.string (⟨#[]⟩ : ByteArray)) := (blk_cell BK108.out 2).trans rfl
              have hcz13_3 : w9.cell? ⟨gb108, 3, none⟩ = some (.slice none 0 0) := (blk_cell BK108.out 3).trans rfl
              have hfz13_0 := blk_frozen BK108.out 0
              have hfz13_1 := blk_frozen BK108.out 1
              have hfz13_2 := blk_frozen BK108.out 2
              have hfz13_3 := blk_frozen BK108.out 3
              go_wp2_with (first | (go_at_call 77; (with_reducible refine (expr_sound.calls k2 ((rd_T45 l0 x17_2).f0) ((rd_T45 l0 x17_2).f1) ((rd_T45 l0 x17_2).f2) _ _ ((rd_T45 l0 x17_2).f3) true _ ?side1 ?side2 ?side3 A11.out).mono ?_); (case side1 => exact Kd.C_below HR107_3.out (by repeat (first | (with_reducible first | exact HB.out | apply below_alloc | apply pw_below_drewN | apply below_drew1 | refine below_set ?_ GE108.out) | exact HB.out))); (case side2 => exact HC107_3.out); (case side3 => first | exact GL.below HG.out (by repeat (first | (with_reducible first | exact HB.out | apply below_alloc | apply pw_below_drewN | apply below_drew1 | refine below_set ?_ GE108.out) | exact HB.out)) | exact HG.out); rintro e w14 ⟨rfl, hb⟩; have n0_ := am (Kd.R_below (by (with_reducible repeat (first | apply Kd.R_alloc | apply Kd.R_drewN | apply Kd.R_drew)); exact (Kd.R_mono (Kd.R_far (p := ⟨gb108, 3, none⟩) (Kd.R_far (p := ⟨gb108, 2, none⟩) (Kd.R_far (p := ⟨gb108, 1, none⟩) (Kd.R_far (p := ⟨gb108, 0, none⟩) (Kd.R_types HO_3.out BK108.out (by decide)) (fun _ hk => hk.2) (.int .i64 ((rd_T45 l0 x17_2).f0))) (fun _ hk => hk.2) (.int .i64 ((rd_T45 l0 x17_2).f1))) (fun _ hk => hk.2) (.string ((rd_T45 l0 x17_2).f2))) (fun _ hk => hk.2) (.slice A107_3 ((rd_T45 l0 x17_2).f3).length c107_3)) (fun _ h_ => h_.1))) hb); have n1_ := am (blk_below (g := gb108) (o := .cells #[.int .i64 ((rd_T45 l0 x17_2).f0), .int .i64 ((rd_T45 l0 x17_2).f1), .string ((rd_T45 l0 x17_2).f2), .slice A107_3 ((rd_T45 l0 x17_2).f3).length c107_3] 45 (0, 0)) (by (with_reducible repeat (first | refine blk_drewN ?_ _ | refine blk_drew ?_ | refine blk_alloc ?_ _)); refine blk_put (cs := #[.int .i64 ((rd_T45 l0 x17_2).f0), .int .i64 ((rd_T45 l0 x17_2).f1), .string ((rd_T45 l0 x17_2).f2), .slice none 0 0]) ?_ 3 _ rfl; (with_reducible repeat (first | refine blk_drewN ?_ _ | refine blk_drew ?_ | refine blk_alloc ?_ _)); refine blk_put (cs := #[.int .i64 ((rd_T45 l0 x17_2).f0), .int .i64 ((rd_T45 l0 x17_2).f1), .string (⟨#[]⟩ : ByteArray), .slice none 0 0]) ?_ 2 _ rfl; (with_reducible repeat (first | refine blk_drewN ?_ _ | refine blk_drew ?_ | refine blk_alloc ?_ _)); refine blk_put (cs := #[.int .i64 ((rd_T45 l0 x17_2).f0), .int .i64 0, .string (⟨#[]⟩ : ByteArray), .slice none 0 0]) ?_ 1 _ rfl; (with_reducible repeat (first | refine blk_drewN ?_ _ | refine blk_drew ?_ | refine blk_alloc ?_ _)); refine blk_put (cs := #[.int .i64 0, .int .i64 0, .string (⟨#[]⟩ : ByteArray), .slice none 0 0]) ?_ 0 _ rfl; (with_reducible repeat (first | refine blk_drewN ?_ _ | refine blk_drew ?_ | refine blk_alloc ?_ _)); exact BK108.out) hb); have n2_ := am (below_step (by repeat (first | (with_reducible first | exact HB.out | apply below_alloc | apply pw_below_drewN | apply below_drew1 | refine below_set ?_ GE108.out) | exact HB.out)) hb); clear HO_3; clear BK108; clear HB; have HO_3 := n0_; have BK108 := n1_; have HB := n2_; clear n0_ n1_ n2_; (try clear hb); (try clear hb2); (try clear hk); (try clear hi); have hcz15_0 : w14.cell? ⟨gb108, 0, none⟩ = some (.int .i64 ((rd_T45 l0 x17_2).f0)) := (blk_cell BK108.out 0).trans rfl; have hcz15_1 : w14.cell? ⟨gb108, 1, none⟩ = some (.int .i64 ((rd_T45 l0 x17_2).f1)) := (blk_cell BK108.out 1).trans rfl; have hcz15_2 : w14.cell? ⟨gb108, 2, none⟩ = some (.string ((rd_T45 l0 x17_2).f2)) := (blk_cell BK108.out 2).trans rfl; have hcz15_3 : w14.cell? ⟨gb108, 3, none⟩ = some (.slice A107_3 ((rd_T45 l0 x17_2).f3).length c107_3) := (blk_cell BK108.out 3).trans rfl; have hfz15_0 := blk_frozen BK108.out 0; have hfz15_1 := blk_frozen BK108.out 1; have hfz15_2 := blk_frozen BK108.out 2; have hfz15_3 := blk_frozen BK108.out 3; obtain ⟨Ao16, co16, eo16⟩ := Kd.R_slice HO_3.out; subst eo16))
              repeat (go_quiet (first | (go_at_call 77; (with_reducible refine (expr_sound.calls k2 ((rd_T45 l0 x17_2).f0) ((rd_T45 l0 x17_2).f1) ((rd_T45 l0 x17_2).f2) _ _ ((rd_T45 l0 x17_2).f3) true _ ?side1 ?side2 ?side3 A11.out).mono ?_); (case side1 => exact Kd.C_below HR107_3.out (by repeat (first | (with_reducible first | exact HB.out | apply below_alloc | apply pw_below_drewN | apply below_drew1 | refine below_set ?_ GE108.out) | exact HB.out))); (case side2 => exact HC107_3.out); (case side3 => first | exact GL.below HG.out (by repeat (first | (with_reducible first | exact HB.out | apply below_alloc | apply pw_below_drewN | apply below_drew1 | refine below_set ?_ GE108.out) | exact HB.out)) | exact HG.out); rintro e w14 ⟨rfl, hb⟩; have n0_ := am (Kd.R_below (by (with_reducible repeat (first | apply Kd.R_alloc | apply Kd.R_drewN | apply Kd.R_drew)); exact (Kd.R_mono (Kd.R_far (p := ⟨gb108, 3, none⟩) (Kd.R_far (p := ⟨gb108, 2, none⟩) (Kd.R_far (p := ⟨gb108, 1, none⟩) (Kd.R_far (p := ⟨gb108, 0, none⟩) (Kd.R_types HO_3.out BK108.out (by decide)) (fun _ hk => hk.2) (.int .i64 ((rd_T45 l0 x17_2).f0))) (fun _ hk => hk.2) (.int .i64 ((rd_T45 l0 x17_2).f1))) (fun _ hk => hk.2) (.string ((rd_T45 l0 x17_2).f2))) (fun _ hk => hk.2) (.slice A107_3 ((rd_T45 l0 x17_2).f3).length c107_3)) (fun _ h_ => h_.1))) hb); have n1_ := am (blk_below (g := gb108) (o := .cells #[.int .i64 ((rd_T45 l0 x17_2).f0), .int .i64 ((rd_T45 l0 x17_2).f1), .string ((rd_T45 l0 x17_2).f2), .slice A107_3 ((rd_T45 l0 x17_2).f3).length c107_3] 45 (0, 0)) (by (with_reducible repeat (first | refine blk_drewN ?_ _ | refine blk_drew ?_ | refine blk_alloc ?_ _)); refine blk_put (cs := #[.int .i64 ((rd_T45 l0 x17_2).f0), .int .i64 ((rd_T45 l0 x17_2).f1), .string ((rd_T45 l0 x17_2).f2), .slice none 0 0]) ?_ 3 _ rfl; (with_reducible repeat (first | refine blk_drewN ?_ _ | refine blk_drew ?_ | refine blk_alloc ?_ _)); refine blk_put (cs := #[.int .i64 ((rd_T45 l0 x17_2).f0), .int .i64 ((rd_T45 l0 x17_2).f1), .string (⟨#[]⟩ : ByteArray), .slice none 0 0]) ?_ 2 _ rfl; (with_reducible repeat (first | refine blk_drewN ?_ _ | refine blk_drew ?_ | refine blk_alloc ?_ _)); refine blk_put (cs := #[.int .i64 ((rd_T45 l0 x17_2).f0), .int .i64 0, .string (⟨#[]⟩ : ByteArray), .slice none 0 0]) ?_ 1 _ rfl; (with_reducible repeat (first | refine blk_drewN ?_ _ | refine blk_drew ?_ | refine blk_alloc ?_ _)); refine blk_put (cs := #[.int .i64 0, .int .i64 0, .string (⟨#[]⟩ : ByteArray), .slice none 0 0]) ?_ 0 _ rfl; (with_reducible repeat (first | refine blk_drewN ?_ _ | refine blk_drew ?_ | refine blk_alloc ?_ _)); exact BK108.out) hb); have n2_ := am (below_step (by repeat (first | (with_reducible first | exact HB.out | apply below_alloc | apply pw_below_drewN | apply below_drew1 | refine below_set ?_ GE108.out) | exact HB.out)) hb); clear HO_3; clear BK108; clear HB; have HO_3 := n0_; have BK108 := n1_; have HB := n2_; clear n0_ n1_ n2_; (try clear hb); (try clear hb2); (try clear hk); (try clear hi); have hcz15_0 : w14.cell? ⟨gb108, 0, none⟩ = some (.int .i64 ((rd_T45 l0 x17_2).f0)) := (blk_cell BK108.out 0).trans rfl; have hcz15_1 : w14.cell? ⟨gb108, 1, none⟩ = some (.int .i64 ((rd_T45 l0 x17_2).f1)) := (blk_cell BK108.out 1).trans rfl; have hcz15_2 : w14.cell? ⟨gb108, 2, none⟩ = some (.string ((rd_T45 l0 x17_2).f2)) := (blk_cell BK108.out 2).trans rfl; have hcz15_3 : w14.cell? ⟨gb108, 3, none⟩ = some (.slice A107_3 ((rd_T45 l0 x17_2).f3).length c107_3) := (blk_cell BK108.out 3).trans rfl; have hfz15_0 := blk_frozen BK108.out 0; have hfz15_1 := blk_frozen BK108.out 1; have hfz15_2 := blk_frozen BK108.out 2; have hfz15_3 := blk_frozen BK108.out 3; obtain ⟨Ao16, co16, eo16⟩ := Kd.R_slice HO_3.out; subst eo16)); try go_wp2_with (first | (go_at_call 77; (with_reducible refine (expr_sound.calls k2 ((rd_T45 l0 x17_2).f0) ((rd_T45 l0 x17_2).f1) ((rd_T45 l0 x17_2).f2) _ _ ((rd_T45 l0 x17_2).f3) true _ ?side1 ?side2 ?side3 A11.out).mono ?_); (case side1 => exact Kd.C_below HR107_3.out (by repeat (first | (with_reducible first | exact HB.out | apply below_alloc | apply pw_below_drewN | apply below_drew1 | refine below_set ?_ GE108.out) | exact HB.out))); (case side2 => exact HC107_3.out); (case side3 => first | exact GL.below HG.out (by repeat (first | (with_reducible first | exact HB.out | apply below_alloc | apply pw_below_drewN | apply below_drew1 | refine below_set ?_ GE108.out) | exact HB.out)) | exact HG.out); rintro e w14 ⟨rfl, hb⟩; have n0_ := am (Kd.R_below (by (with_reducible repeat (first | apply Kd.R_alloc | apply Kd.R_drewN | apply Kd.R_drew)); exact (Kd.R_mono (Kd.R_far (p := ⟨gb108, 3, none⟩) (Kd.R_far (p := ⟨gb108, 2, none⟩) (Kd.R_far (p := ⟨gb108, 1, none⟩) (Kd.R_far (p := ⟨gb108, 0, none⟩) (Kd.R_types HO_3.out BK108.out (by decide)) (fun _ hk => hk.2) (.int .i64 ((rd_T45 l0 x17_2).f0))) (fun _ hk => hk.2) (.int .i64 ((rd_T45 l0 x17_2).f1))) (fun _ hk => hk.2) (.string ((rd_T45 l0 x17_2).f2))) (fun _ hk => hk.2) (.slice A107_3 ((rd_T45 l0 x17_2).f3).length c107_3)) (fun _ h_ => h_.1))) hb); have n1_ := am (blk_below (g := gb108) (o := .cells #[.int .i64 ((rd_T45 l0 x17_2).f0), .int .i64 ((rd_T45 l0 x17_2).f1), .string ((rd_T45 l0 x17_2).f2), .slice A107_3 ((rd_T45 l0 x17_2).f3).length c107_3] 45 (0, 0)) (by (with_reducible repeat (first | refine blk_drewN ?_ _ | refine blk_drew ?_ | refine blk_alloc ?_ _)); refine blk_put (cs := #[.int .i64 ((rd_T45 l0 x17_2).f0), .int .i64 ((rd_T45 l0 x17_2).f1), .string ((rd_T45 l0 x17_2).f2), .slice none 0 0]) ?_ 3 _ rfl; (with_reducible repeat (first | refine blk_drewN ?_ _ | refine blk_drew ?_ | refine blk_alloc ?_ _)); refine blk_put (cs := #[.int .i64 ((rd_T45 l0 x17_2).f0), .int .i64 ((rd_T45 l0 x17_2).f1), .string (⟨#[]⟩ : ByteArray), .slice none 0 0]) ?_ 2 _ rfl; (with_reducible repeat (first | refine blk_drewN ?_ _ | refine blk_drew ?_ | refine blk_alloc ?_ _)); refine blk_put (cs := #[.int .i64 ((rd_T45 l0 x17_2).f0), .int .i64 0, .string (⟨#[]⟩ : ByteArray), .slice none 0 0]) ?_ 1 _ rfl; (with_reducible repeat (first | refine blk_drewN ?_ _ | refine blk_drew ?_ | refine blk_alloc ?_ _)); refine blk_put (cs := #[.int .i64 0, .int .i64 0, .string (⟨#[]⟩ : ByteArray), .slice none 0 0]) ?_ 0 _ rfl; (with_reducible repeat (first | refine blk_drewN ?_ _ | refine blk_drew ?_ | refine blk_alloc ?_ _)); exact BK108.out) hb); have n2_ := am (below_step (by repeat (first | (with_reducible first | exact HB.out | apply below_alloc | apply pw_below_drewN | apply below_drew1 | refine below_set ?_ GE108.out) | exact HB.out)) hb); clear HO_3; clear BK108; clear HB; have HO_3 := n0_; have BK108 := n1_; have HB := n2_; clear n0_ n1_ n2_; (try clear hb); (try clear hb2); (try clear hk); (try clear hi); have hcz15_0 : w14.cell? ⟨gb108, 0, none⟩ = some (.int .i64 ((rd_T45 l0 x17_2).f0)) := (blk_cell BK108.out 0).trans rfl; have hcz15_1 : w14.cell? ⟨gb108, 1, none⟩ = some (.int .i64 ((rd_T45 l0 x17_2).f1)) := (blk_cell BK108.out 1).trans rfl; have hcz15_2 : w14.cell? ⟨gb108, 2, none⟩ = some (.string ((rd_T45 l0 x17_2).f2)) := (blk_cell BK108.out 2).trans rfl; have hcz15_3 : w14.cell? ⟨gb108, 3, none⟩ = some (.slice A107_3 ((rd_T45 l0 x17_2).f3).length c107_3) := (blk_cell BK108.out 3).trans rfl; have hfz15_0 := blk_frozen BK108.out 0; have hfz15_1 := blk_frozen BK108.out 1; have hfz15_2 := blk_frozen BK108.out 2; have hfz15_3 := blk_frozen BK108.out 3; obtain ⟨Ao16, co16, eo16⟩ := Kd.R_slice HO_3.out; subst eo16)))
              go_meet
              case rel => exact ⟨_, (decide ((((rd_T45 l0 x17_2).f3).length : Int) > (x3_2.length : Int))), (by first | rfl | (simp; done) | (simp [*]; done)), H', ⟨by have := HJ1.out; have := HK2.out; first | omega | exact Nat.le_refl _⟩, ⟨by (with_reducible repeat (first | apply Kd.R_alloc | apply Kd.R_drewN | apply Kd.R_drew)); exact HO_3.out⟩, ⟨by (with_reducible repeat (first | refine blk_drewN ?_ _ | refine blk_drew ?_ | refine blk_alloc ?_ _)); exact BK108.out⟩, ⟨by repeat (first | (with_reducible first | exact HB.out | apply below_alloc | apply pw_below_drewN | apply below_drew1 | refine below_set ?_ GE108.out) | exact HB.out)⟩⟩
            replace c12 := Bool.eq_false_iff.mpr c12
            subst c12
            have H1 : (expr_Check.j2 k2 x3_2 x17_2 l0 (l0.length : Int) x17_2 true ((rd_T45 l0 x17_2).f0) ((rd_T45 l0 x17_2).f1) ((rd_T45 l0 x17_2).f2) ((rd_T45 l0 x17_2).f3)) = some r := by rw [if_neg (show ¬ (false = true) by decide)] at H; exact H
            clear H
            have H := H1
            clear H1
            have H' := am H
            clear H
            have hcz17_0 : w9.cell? ⟨gb108, 0, none⟩ = some (.int .i64 0) := (blk_cell BK108.out 0).trans rfl
            have hcz17_1 : w9.cell? ⟨gb108, 1, none⟩ = some (.int .i64 0) := (blk_cell BK108.out 1).trans rfl
            have hcz17_2 : w9.cell? ⟨gb108, 2, none⟩ = some (.string (⟨#[]⟩ : ByteArray)) := (blk_cell BK108.out 2).trans rfl
            have hcz17_3 : w9.cell? ⟨gb108, 3, none⟩ = some (.slice none 0 0) := (blk_cell BK108.out 3).trans rfl
            have hfz17_0 := blk_frozen BK108.out 0
            have hfz17_1 := blk_frozen BK108.out 1
            have hfz17_2 := blk_frozen BK108.out 2
            have hfz17_3 := blk_frozen BK108.out 3
            go_wp2_with (first | (go_at_call 77; (with_reducible refine (expr_sound.calls k2 ((rd_T45 l0 x17_2).f0) ((rd_T45 l0 x17_2).f1) ((rd_T45 l0 x17_2).f2) _ _ ((rd_T45 l0 x17_2).f3) false _ ?side1 ?side2 ?side3 A11.out).mono ?_); (case side1 => exact Kd.C_below HR107_3.out (by repeat (first | (with_reducible first | exact HB.out | apply below_alloc | apply pw_below_drewN | apply below_drew1 | refine below_set ?_ GE108.out) | exact HB.out))); (case side2 => exact HC107_3.out); (case side3 => first | exact GL.below HG.out (by repeat (first | (with_reducible first | exact HB.out | apply below_alloc | apply pw_below_drewN | apply below_drew1 | refine below_set ?_ GE108.out) | exact HB.out)) | exact HG.out); rintro e w18 ⟨rfl, hb⟩; have n0_ := am (Kd.R_below (by (with_reducible repeat (first | apply Kd.R_alloc | apply Kd.R_drewN | apply Kd.R_drew)); exact (Kd.R_mono (Kd.R_far (p := ⟨gb108, 3, none⟩) (Kd.R_far (p := ⟨gb108, 2, none⟩) (Kd.R_far (p := ⟨gb108, 1, none⟩) (Kd.R_far (p := ⟨gb108, 0, none⟩) (Kd.R_types HO_3.out BK108.out (by decide)) (fun _ hk => hk.2) (.int .i64 ((rd_T45 l0 x17_2).f0))) (fun _ hk => hk.2) (.int .i64 ((rd_T45 l0 x17_2).f1))) (fun _ hk => hk.2) (.string ((rd_T45 l0 x17_2).f2))) (fun _ hk => hk.2) (.slice A107_3 ((rd_T45 l0 x17_2).f3).length c107_3)) (fun _ h_ => h_.1))) hb); have n1_ := am (blk_below (g := gb108) (o := .cells #[.int .i64 ((rd_T45 l0 x17_2).f0), .int .i64 ((rd_T45 l0 x17_2).f1), .string ((rd_T45 l0 x17_2).f2), .slice A107_3 ((rd_T45 l0 x17_2).f3).length c107_3] 45 (0, 0)) (by (with_reducible repeat (first | refine blk_drewN ?_ _ | refine blk_drew ?_ | refine blk_alloc ?_ _)); refine blk_put (cs := #[.int .i64 ((rd_T45 l0 x17_2).f0), .int .i64 ((rd_T45 l0 x17_2).f1), .string ((rd_T45 l0 x17_2).f2), .slice none 0 0]) ?_ 3 _ rfl; (with_reducible repeat (first | refine blk_drewN ?_ _ | refine blk_drew ?_ | refine blk_alloc ?_ _)); refine blk_put (cs := #[.int .i64 ((rd_T45 l0 x17_2).f0), .int .i64 ((rd_T45 l0 x17_2).f1), .string (⟨#[]⟩ : ByteArray), .slice none 0 0]) ?_ 2 _ rfl; (with_reducible repeat (first | refine blk_drewN ?_ _ | refine blk_drew ?_ | refine blk_alloc ?_ _)); refine blk_put (cs := #[.int .i64 ((rd_T45 l0 x17_2).f0), .int .i64 0, .string (⟨#[]⟩ : ByteArray), .slice none 0 0]) ?_ 1 _ rfl; (with_reducible repeat (first | refine blk_drewN ?_ _ | refine blk_drew ?_ | refine blk_alloc ?_ _)); refine blk_put (cs := #[.int .i64 0, .int .i64 0, .string (⟨#[]⟩ : ByteArray), .slice none 0 0]) ?_ 0 _ rfl; (with_reducible repeat (first | refine blk_drewN ?_ _ | refine blk_drew ?_ | refine blk_alloc ?_ _)); exact BK108.out) hb); have n2_ := am (below_step (by repeat (first | (with_reducible first | exact HB.out | apply below_alloc | apply pw_below_drewN | apply below_drew1 | refine below_set ?_ GE108.out) | exact HB.out)) hb); clear HO_3; clear BK108; clear HB; have HO_3 := n0_; have BK108 := n1_; have HB := n2_; clear n0_ n1_ n2_; (try clear hb); (try clear hb2); (try clear hk); (try clear hi)))
            repeat (go_quiet (first | (go_at_call 77; (with_reducible refine (expr_sound.calls k2 ((rd_T45 l0 x17_2).f0) ((rd_T45 l0 x17_2).f1) ((rd_T45 l0 x17_2).f2) _ _ ((rd_T45 l0 x17_2).f3) false _ ?side1 ?side2 ?side3 A11.out).mono ?_); (case side1 => exact Kd.C_below HR107_3.out (by repeat (first | (with_reducible first | exact HB.out | apply below_alloc | apply pw_below_drewN | apply below_drew1 | refine below_set ?_ GE108.out) | exact HB.out))); (case side2 => exact HC107_3.out); (case side3 => first | exact GL.below HG.out (by repeat (first | (with_reducible first | exact HB.out | apply below_alloc | apply pw_below_drewN | apply below_drew1 | refine below_set ?_ GE108.out) | exact HB.out)) | exact HG.out); rintro e w18 ⟨rfl, hb⟩; have n0_ := am (Kd.R_below (by (with_reducible repeat (first | apply Kd.R_alloc | apply Kd.R_drewN | apply Kd.R_drew)); exact (Kd.R_mono (Kd.R_far (p := ⟨gb108, 3, none⟩) (Kd.R_far (p := ⟨gb108, 2, none⟩) (Kd.R_far (p := ⟨gb108, 1, none⟩) (Kd.R_far (p := ⟨gb108, 0, none⟩) (Kd.R_types HO_3.out BK108.out (by decide)) (fun _ hk => hk.2) (.int .i64 ((rd_T45 l0 x17_2).f0))) (fun _ hk => hk.2) (.int .i64 ((rd_T45 l0 x17_2).f1))) (fun _ hk => hk.2) (.string ((rd_T45 l0 x17_2).f2))) (fun _ hk => hk.2) (.slice A107_3 ((rd_T45 l0 x17_2).f3).length c107_3)) (fun _ h_ => h_.1))) hb); have n1_ := am (blk_below (g := gb108) (o := .cells #[.int .i64 ((rd_T45 l0 x17_2).f0), .int .i64 ((rd_T45 l0 x17_2).f1), .string ((rd_T45 l0 x17_2).f2), .slice A107_3 ((rd_T45 l0 x17_2).f3).length c107_3] 45 (0, 0)) (by (with_reducible repeat (first | refine blk_drewN ?_ _ | refine blk_drew ?_ | refine blk_alloc ?_ _)); refine blk_put (cs := #[.int .i64 ((rd_T45 l0 x17_2).f0), .int .i64 ((rd_T45 l0 x17_2).f1), .string ((rd_T45 l0 x17_2).f2), .slice none 0 0]) ?_ 3 _ rfl; (with_reducible repeat (first | refine blk_drewN ?_ _ | refine blk_drew ?_ | refine blk_alloc ?_ _)); refine blk_put (cs := #[.int .i64 ((rd_T45 l0 x17_2).f0), .int .i64 ((rd_T45 l0 x17_2).f1), .string (⟨#[]⟩ : ByteArray), .slice none 0 0]) ?_ 2 _ rfl; (with_reducible repeat (first | refine blk_drewN ?_ _ | refine blk_drew ?_ | refine blk_alloc ?_ _)); refine blk_put (cs := #[.int .i64 ((rd_T45 l0 x17_2).f0), .int .i64 0, .string (⟨#[]⟩ : ByteArray), .slice none 0 0]) ?_ 1 _ rfl; (with_reducible repeat (first | refine blk_drewN ?_ _ | refine blk_drew ?_ | refine blk_alloc ?_ _)); refine blk_put (cs := #[.int .i64 0, .int .i64 0, .string (⟨#[]⟩ : ByteArray), .slice none 0 0]) ?_ 0 _ rfl; (with_reducible repeat (first | refine blk_drewN ?_ _ | refine blk_drew ?_ | refine blk_alloc ?_ _)); exact BK108.out) hb); have n2_ := am (below_step (by repeat (first | (with_reducible first | exact HB.out | apply below_alloc | apply pw_below_drewN | apply below_drew1 | refine below_set ?_ GE108.out) | exact HB.out)) hb); clear HO_3; clear BK108; clear HB; have HO_3 := n0_; have BK108 := n1_; have HB := n2_; clear n0_ n1_ n2_; (try clear hb); (try clear hb2); (try clear hk); (try clear hi))); try go_wp2_with (first | (go_at_call 77; (with_reducible refine (expr_sound.calls k2 ((rd_T45 l0 x17_2).f0) ((rd_T45 l0 x17_2).f1) ((rd_T45 l0 x17_2).f2) _ _ ((rd_T45 l0 x17_2).f3) false _ ?side1 ?side2 ?side3 A11.out).mono ?_); (case side1 => exact Kd.C_below HR107_3.out (by repeat (first | (with_reducible first | exact HB.out | apply below_alloc | apply pw_below_drewN | apply below_drew1 | refine below_set ?_ GE108.out) | exact HB.out))); (case side2 => exact HC107_3.out); (case side3 => first | exact GL.below HG.out (by repeat (first | (with_reducible first | exact HB.out | apply below_alloc | apply pw_below_drewN | apply below_drew1 | refine below_set ?_ GE108.out) | exact HB.out)) | exact HG.out); rintro e w18 ⟨rfl, hb⟩; have n0_ := am (Kd.R_below (by (with_reducible repeat (first | apply Kd.R_alloc | apply Kd.R_drewN | apply Kd.R_drew)); exact (Kd.R_mono (Kd.R_far (p := ⟨gb108, 3, none⟩) (Kd.R_far (p := ⟨gb108, 2, none⟩) (Kd.R_far (p := ⟨gb108, 1, none⟩) (Kd.R_far (p := ⟨gb108, 0, none⟩) (Kd.R_types HO_3.out BK108.out (by decide)) (fun _ hk => hk.2) (.int .i64 ((rd_T45 l0 x17_2).f0))) (fun _ hk => hk.2) (.int .i64 ((rd_T45 l0 x17_2).f1))) (fun _ hk => hk.2) (.string ((rd_T45 l0 x17_2).f2))) (fun _ hk => hk.2) (.slice A107_3 ((rd_T45 l0 x17_2).f3).length c107_3)) (fun _ h_ => h_.1))) hb); have n1_ := am (blk_below (g := gb108) (o := .cells #[.int .i64 ((rd_T45 l0 x17_2).f0), .int .i64 ((rd_T45 l0 x17_2).f1), .string ((rd_T45 l0 x17_2).f2), .slice A107_3 ((rd_T45 l0 x17_2).f3).length c107_3] 45 (0, 0)) (by (with_reducible repeat (first | refine blk_drewN ?_ _ | refine blk_drew ?_ | refine blk_alloc ?_ _)); refine blk_put (cs := #[.int .i64 ((rd_T45 l0 x17_2).f0), .int .i64 ((rd_T45 l0 x17_2).f1), .string ((rd_T45 l0 x17_2).f2), .slice none 0 0]) ?_ 3 _ rfl; (with_reducible repeat (first | refine blk_drewN ?_ _ | refine blk_drew ?_ | refine blk_alloc ?_ _)); refine blk_put (cs := #[.int .i64 ((rd_T45 l0 x17_2).f0), .int .i64 ((rd_T45 l0 x17_2).f1), .string (⟨#[]⟩ : ByteArray), .slice none 0 0]) ?_ 2 _ rfl; (with_reducible repeat (first | refine blk_drewN ?_ _ | refine blk_drew ?_ | refine blk_alloc ?_ _)); refine blk_put (cs := #[.int .i64 ((rd_T45 l0 x17_2).f0), .int .i64 0, .string (⟨#[]⟩ : ByteArray), .slice none 0 0]) ?_ 1 _ rfl; (with_reducible repeat (first | refine blk_drewN ?_ _ | refine blk_drew ?_ | refine blk_alloc ?_ _)); refine blk_put (cs := #[.int .i64 0, .int .i64 0, .string (⟨#[]⟩ : ByteArray), .slice none 0 0]) ?_ 0 _ rfl; (with_reducible repeat (first | refine blk_drewN ?_ _ | refine blk_drew ?_ | refine blk_alloc ?_ _)); exact BK108.out) hb); have n2_ := am (below_step (by repeat (first | (with_reducible first | exact HB.out | apply below_alloc | apply pw_below_drewN | apply below_drew1 | refine below_set ?_ GE108.out) | exact HB.out)) hb); clear HO_3; clear BK108; clear HB; have HO_3 := n0_; have BK108 := n1_; have HB := n2_; clear n0_ n1_ n2_; (try clear hb); (try clear hb2); (try clear hk); (try clear hi))))
            go_meet
            case rel => exact ⟨_, (true), (by first | rfl | (simp; done) | (simp [*]; done)), H', ⟨by have := HJ1.out; have := HK2.out; first | omega | exact Nat.le_refl _⟩, ⟨by (with_reducible repeat (first | apply Kd.R_alloc | apply Kd.R_drewN | apply Kd.R_drew)); exact HO_3.out⟩, ⟨by (with_reducible repeat (first | refine blk_drewN ?_ _ | refine blk_drew ?_ | refine blk_alloc ?_ _)); exact BK108.out⟩, ⟨by repeat (first | (with_reducible first | exact HB.out | apply below_alloc | apply pw_below_drewN | apply below_drew1 | refine below_set ?_ GE108.out) | exact HB.out)⟩⟩
          case rest =>
            clear HC8
            try clear c1
            try clear p1
            try clear q1
            try clear hx1
            try clear p2
            try clear c3
            try clear c3b0
            try clear c3b1
            try clear c4
            try clear c5
            try clear c5b0
            try clear c6
            try clear c6b0
            try clear c7
            try clear c7b0
            try clear c10
            try clear p10
            try clear q10
            try clear hx10
            try clear c12
            try clear hcz10_0
            try clear hcz10_1
            try clear hcz10_2
            try clear hcz10_3
            try clear hcz13_0
            try clear hcz13_1
            try clear hcz13_2
            try clear hcz13_3
            try clear hcz15_0
            try clear hcz15_1
            try clear hcz15_2
            try clear hcz15_3
            try clear hcz17_0
            try clear hcz17_1
            try clear hcz17_2
            try clear hcz17_3
            try clear hfz10_0
            try clear hfz10_1
            try clear hfz10_2
            try clear hfz10_3
            try clear hfz13_0
            try clear hfz13_1
            try clear hfz13_2
            try clear hfz13_3
            try clear hfz15_0
            try clear hfz15_1
            try clear hfz15_2
            try clear hfz15_3
            try clear hfz17_0
            try clear hfz17_1
            try clear hfz17_2
            try clear hfz17_3
            try clear hx107_0
            try clear hx107_1
            try clear hx107_2
            try clear hx107_3
            try clear p107
            try clear p2
            try clear q107
            obtain ⟨kq, x32_7, rfl, HA, HJ7, HO_3, BK108, HB⟩ := hcut
            cases kq with
            | zero => exact absurd HA.out (by simp [expr_Check.j2])
            | succ kj7 =>
              have H := HA.out
              clear HA
              simp only [expr_Check.j2] at H
              by_cases c19 : x32_7 = true
              · subst c19
                have H1 : (some 1) = some r := by rw [if_pos rfl] at H; exact H
                clear H
                have H := H1
                clear H1
                obtain rfl := Option.some.inj H
                go_wp2
                repeat (go_quiet (fail); try go_wp2)
                go_ret
                exact ⟨by first | rfl | (simp [errW_none, errW_some] <;> rfl) | (simp [*, errW_none, errW_some] <;> rfl), by repeat (first | (with_reducible first | exact HB.out | apply below_alloc | apply pw_below_drewN | apply below_drew1 | refine below_set ?_ GE108.out) | exact HB.out)⟩
              replace c19 := Bool.eq_false_iff.mpr c19
              subst c19
              have H1 : (if 0 ≤ (wrap64 ((x3_2.length : Int) - (((rd_T45 l0 x17_2).f3).length : Int))) then (if (wrap64 ((x3_2.length : Int) - (((rd_T45 l0 x17_2).f3).length : Int))) ≤ (x3_2.length : Int) then ((slices_Equal_int_int.f kj7 (x3_2.drop ((wrap64 ((x3_2.length : Int) - (((rd_T45 l0 x17_2).f3).length : Int))) : Int).toNat) ((rd_T45 l0 x17_2).f3)).bind fun t114 => (if t114 = true then ((some (x3_2.take ((wrap64 ((x3_2.length : Int) - (((rd_T45 l0 x17_2).f3).length : Int))) : Int).toNat : List Int)).bind fun y115 => (if y115.length < 17592186044416 then (expr_Check.l0 kj7 (y115 ++ [x17_2]) l0 (l0.length : Int) (wrap64 (x17_2 + 1))) else (none))) else (some 1))) else (none)) else (none)) = some r := by rw [if_neg (show ¬ (false = true) by decide)] at H; exact H
              clear H
              have H := H1
              clear H1
              obtain ⟨ji20, hji20⟩ : ∃ j_ : Int, (wrap64 ((x3_2.length : Int) - (((rd_T45 l0 x17_2).f3).length : Int))) = j_ := ⟨_, rfl⟩
              replace H : (if 0 ≤ (ji20) then (if (ji20) ≤ (x3_2.length : Int) then ((slices_Equal_int_int.f kj7 (x3_2.drop ((ji20) : Int).toNat) ((rd_T45 l0 x17_2).f3)).bind fun t114 => (if t114 = true then ((some (x3_2.take ((ji20) : Int).toNat : List Int)).bind fun y115 => (if y115.length < 17592186044416 then (expr_Check.l0 kj7 (y115 ++ [x17_2]) l0 (l0.length : Int) (wrap64 (x17_2 + 1))) else (none))) else (some 1))) else (none)) else (none)) = some r := by first | (rw [hji20] at H; exact H) | (simp only [hji20] at H ⊢; exact H)
              have hji20w : (IntKind.i64.wrap ((x3_2.length : Int) - (((rd_T45 l0 x17_2).f3).length : Int))) = ji20 := (i64_w _).trans hji20
              by_cases c21 : 0 ≤ (ji20)
              rotate_left
              · rw [if_neg c21] at H
                exact absurd H (by simp)
              rw [if_pos c21] at H
              have c21b0 := eq_true c21
              have c21b1 : decide (0 ≤ (ji20)) = true := decide_eq_true c21
              clear c21
              by_cases c22 : (ji20) ≤ (x3_2.length : Int)
              rotate_left
              · rw [if_neg c22] at H
                exact absurd H (by simp)
              rw [if_pos c22] at H
              have c22b0 := eq_true c22
              have c22b1 : decide ((ji20) ≤ (x3_2.length : Int)) = true := decide_eq_true c22
              clear c22
              obtain ⟨y110, hy110⟩ : ∃ y_ : List Int, y_ = (x3_2.drop ((ji20) : Int).toNat) := ⟨_, rfl⟩
              replace H : ((slices_Equal_int_int.f kj7 y110 ((rd_T45 l0 x17_2).f3)).bind fun t114 => (if t114 = true then ((some (x3_2.take ((ji20) : Int).toNat : List Int)).bind fun y115 => (if y115.length < 17592186044416 then (expr_Check.l0 kj7 (y115 ++ [x17_2]) l0 (l0.length : Int) (wrap64 (x17_2 + 1))) else (none))) else (some 1))) = some r := by first | (rw [hy110]; with_reducible exact H) | (have H2_ := (Option.bind_some _ _).symm.trans H; rw [hy110]; with_reducible exact H2_) | (have H2_ := (Option.bind_some _ _).symm.trans H; with_reducible exact H2_) | with_reducible exact H | (rw [hy110]; exact H) | exact H
              have Ny110 := am hy110
              clear hy110
              replace H := Option.bind_eq_some_iff.mp H
              obtain ⟨t114, A230, H⟩ := H
              replace H : (if t114 = true then ((some (x3_2.take ((ji20) : Int).toNat : List Int)).bind fun y115 => (if y115.length < 17592186044416 then (expr_Check.l0 kj7 (y115 ++ [x17_2]) l0 (l0.length : Int) (wrap64 (x17_2 + 1))) else (none))) else (some 1)) = some r := H
              have A23 := am A230
              clear A230
              by_cases c24 : t114 = true
              rotate_left
              · replace c24 := Bool.eq_false_iff.mpr c24
                subst c24
                have H1 : (some 1) = some r := by rw [if_neg (show ¬ (false = true) by decide)] at H; exact H
                clear H
                have H := H1
                clear H1
                obtain rfl := Option.some.inj H
                obtain ⟨Ao32, co32, eo32⟩ := Kd.R_slice HO_3.out
                subst eo32
                have hcz33_0 : wc.cell? ⟨gb108, 0, none⟩ = some (.int .i64 ((rd_T45 l0 x17_2).f0)) := (blk_cell BK108.out 0).trans rfl
                have hcz33_1 : wc.cell? ⟨gb108, 1, none⟩ = some (.int .i64 ((rd_T45 l0 x17_2).f1)) := (blk_cell BK108.out 1).trans rfl
                have hcz33_2 : wc.cell? ⟨gb108, 2, none⟩ = some (.string ((rd_T45 l0 x17_2).f2)) := (blk_cell BK108.out 2).trans rfl
                have hcz33_3 : wc.cell? ⟨gb108, 3, none⟩ = some (.slice A107_3 ((rd_T45 l0 x17_2).f3).length c107_3) := (blk_cell BK108.out 3).trans rfl
                have hfz33_0 := blk_frozen BK108.out 0
                have hfz33_1 := blk_frozen BK108.out 1
                have hfz33_2 := blk_frozen BK108.out 2
                have hfz33_3 := blk_frozen BK108.out 3
                have q34 : ((ji20) : Int) ≤ ((x3_2.length : Int) : Int) := of_decide_eq_true (by first | (with_reducible assumption) | assumption)
                obtain ⟨i034, hi034, _, hsz34, _⟩ := info_parts info3
                have hroom34 : x3_2.length ≤ co32 := (Kd.R_reads' HO_3.out).2.1
                have hC34 : Kd.C (Kd.int .i64) _ Ao32 x3_2.length x3_2 := (Kd.R_reads' HO_3.out).2.2
                have q034 : (0 : Int) ≤ ((ji20) : Int) := of_decide_eq_true (by first | (with_reducible assumption) | assumption)
                have hcut34 := cut_from (P := Tryd.prog) 43 3 .i64 Tryd.underlying43 hi034 1 hsz34 Ao32 x3_2.length co32 (ji20) q034 q34
                have hr34 := Kd.C_drop (m := ((ji20) : Int).toNat) (c := co32) hC34 (by omega) hroom34
                obtain ⟨A34, hA34⟩ : ∃ A1, A1 = (if co32 = ((ji20) : Int).toNat then Ao32 else (Ao32 : Option Addr).map (·.add (((ji20) : Int).toNat * 1))) := ⟨_, rfl⟩
                obtain ⟨c34, hc34⟩ : ∃ c1, c1 = co32 - ((ji20) : Int).toNat := ⟨_, rfl⟩
                have hy34 : y110.length = x3_2.length - ((ji20) : Int).toNat := (by rw [Ny110.out, List.length_drop] <;> omega)
                rw [show (x3_2).drop ((ji20) : Int).toNat = y110 from Ny110.out.symm] at hr34
                replace hr34 : Kd.C (Kd.int .i64) _ A34 y110.length y110 := (by rw [hA34]; exact hr34)
                rw [← hy34, ← hA34, ← hc34] at hcut34
                have HR113 := am hr34
                have HC113 := am (show y110.length ≤ c34 from by rw [hy34, hc34]; exact Nat.sub_le_sub_right hroom34 _)
                clear hr34 hC34 hroom34 hi034 hsz34 hc34
                have KY34 := am hy34
                have KA34 := am hA34
                clear hy34 hA34
                have KL34 := am (show ((ji20) : Int).toNat ≤ x3_2.length from by omega)
                replace q34 := eq_true q34
                go_wp2_with (first | (go_at_call 98; (with_reducible refine (slices_Equal_int_int.calls kj7 _ _ y110 _ _ ((rd_T45 l0 x17_2).f3) false _ ?side1 ?side2 ?side3 ?side4 A23.out).mono ?_); (case side1 => repeat (first | exact (by repeat (first | (with_reducible exact HR113.out) | (with_reducible refine Kd.C_alloc ?_ _) | (with_reducible refine Kd.C_drewN ?_ _) | (with_reducible refine Kd.C_drew ?_) | exact HR113.out)) | (with_reducible refine Kd.C_alloc ?_ _) | (with_reducible refine Kd.C_drewN ?_ _) | (with_reducible refine Kd.C_drew ?_))); (case side2 => exact HC113.out); (case side3 => repeat (first | exact (Kd.C_below HR107_3.out HB.out) | (with_reducible refine Kd.C_alloc ?_ _) | (with_reducible refine Kd.C_drewN ?_ _) | (with_reducible refine Kd.C_drew ?_))); (case side4 => exact HC107_3.out); rintro e w' ⟨rfl, ⟨nd, rfl⟩⟩; (try first | exact ⟨rfl, _, World.drewN_drewN _ _ _⟩ | exact ⟨rfl, _, Eq.trans (World.drewN_drewN _ _ _) (congrArg (World.drewN _) (Nat.add_assoc _ _ _))⟩)))
                repeat (go_quiet (first | (go_at_call 98; (with_reducible refine (slices_Equal_int_int.calls kj7 _ _ y110 _ _ ((rd_T45 l0 x17_2).f3) false _ ?side1 ?side2 ?side3 ?side4 A23.out).mono ?_); (case side1 => repeat (first | exact (by repeat (first | (with_reducible exact HR113.out) | (with_reducible refine Kd.C_alloc ?_ _) | (with_reducible refine Kd.C_drewN ?_ _) | (with_reducible refine Kd.C_drew ?_) | exact HR113.out)) | (with_reducible refine Kd.C_alloc ?_ _) | (with_reducible refine Kd.C_drewN ?_ _) | (with_reducible refine Kd.C_drew ?_))); (case side2 => exact HC113.out); (case side3 => repeat (first | exact (Kd.C_below HR107_3.out HB.out) | (with_reducible refine Kd.C_alloc ?_ _) | (with_reducible refine Kd.C_drewN ?_ _) | (with_reducible refine Kd.C_drew ?_))); (case side4 => exact HC107_3.out); rintro e w' ⟨rfl, ⟨nd, rfl⟩⟩; (try first | exact ⟨rfl, _, World.drewN_drewN _ _ _⟩ | exact ⟨rfl, _, Eq.trans (World.drewN_drewN _ _ _) (congrArg (World.drewN _) (Nat.add_assoc _ _ _))⟩))); try go_wp2_with (first | (go_at_call 98; (with_reducible refine (slices_Equal_int_int.calls kj7 _ _ y110 _ _ ((rd_T45 l0 x17_2).f3) false _ ?side1 ?side2 ?side3 ?side4 A23.out).mono ?_); (case side1 => repeat (first | exact (by repeat (first | (with_reducible exact HR113.out) | (with_reducible refine Kd.C_alloc ?_ _) | (with_reducible refine Kd.C_drewN ?_ _) | (with_reducible refine Kd.C_drew ?_) | exact HR113.out)) | (with_reducible refine Kd.C_alloc ?_ _) | (with_reducible refine Kd.C_drewN ?_ _) | (with_reducible refine Kd.C_drew ?_))); (case side2 => exact HC113.out); (case side3 => repeat (first | exact (Kd.C_below HR107_3.out HB.out) | (with_reducible refine Kd.C_alloc ?_ _) | (with_reducible refine Kd.C_drewN ?_ _) | (with_reducible refine Kd.C_drew ?_))); (case side4 => exact HC107_3.out); rintro e w' ⟨rfl, ⟨nd, rfl⟩⟩; (try first | exact ⟨rfl, _, World.drewN_drewN _ _ _⟩ | exact ⟨rfl, _, Eq.trans (World.drewN_drewN _ _ _) (congrArg (World.drewN _) (Nat.add_assoc _ _ _))⟩))))
                go_ret
                exact ⟨by first | rfl | (simp [errW_none, errW_some] <;> rfl) | (simp only [← hji20]; first | rfl | (simp [errW_none, errW_some] <;> rfl)) | (simp [*, errW_none, errW_some] <;> rfl), by repeat (first | (with_reducible first | exact HB.out | apply below_alloc | apply pw_below_drewN | apply below_drew1 | refine below_set ?_ GE108.out) | exact HB.out)⟩
              subst c24
              have H1 : ((some (x3_2.take ((ji20) : Int).toNat : List Int)).bind fun y115 => (if y115.length < 17592186044416 then (expr_Check.l0 kj7 (y115 ++ [x17_2]) l0 (l0.length : Int) (wrap64 (x17_2 + 1))) else (none))) = some r := by rw [if_pos rfl] at H; exact H
              clear H
              have H := H1
              clear H1
              have c25b0 := eq_true (of_decide_eq_true (by first | (with_reducible assumption) | assumption) : (ji20) ≤ (x3_2.length : Int))
              obtain ⟨y115, hy115⟩ : ∃ y_ : List Int, y_ = (x3_2.take ((ji20) : Int).toNat) := ⟨_, rfl⟩
              replace H : (if y115.length < 17592186044416 then (expr_Check.l0 kj7 (y115 ++ [x17_2]) l0 (l0.length : Int) (wrap64 (x17_2 + 1))) else (none)) = some r := by first | (rw [hy115]; with_reducible exact H) | (have H2_ := (Option.bind_some _ _).symm.trans H; rw [hy115]; with_reducible exact H2_) | (have H2_ := (Option.bind_some _ _).symm.trans H; with_reducible exact H2_) | with_reducible exact H | (rw [hy115]; exact H) | exact H
              have Ny115 := am hy115
              clear hy115
              by_cases c26 : y115.length < 17592186044416
              rotate_left
              · rw [if_neg c26] at H
                exact absurd H (by simp)
              rw [if_pos c26] at H
              have LMc26 := am c26
              clear c26
              obtain ⟨y118, hy118⟩ : ∃ y_ : List Int, y_ = (y115 ++ [x17_2]) := ⟨_, rfl⟩
              replace H : (expr_Check.l0 kj7 y118 l0 (l0.length : Int) (wrap64 (x17_2 + 1))) = some r := by first | (rw [hy118]; with_reducible exact H) | (have H2_ := (Option.bind_some _ _).symm.trans H; rw [hy118]; with_reducible exact H2_) | (have H2_ := (Option.bind_some _ _).symm.trans H; with_reducible exact H2_) | with_reducible exact H | (rw [hy118]; exact H) | exact H
              have Ny118 := am hy118
              clear hy118
              have H' := am H
              clear H
              obtain ⟨Ao27, co27, eo27⟩ := Kd.R_slice HO_3.out
              subst eo27
              have hcz28_0 : wc.cell? ⟨gb108, 0, none⟩ = some (.int .i64 ((rd_T45 l0 x17_2).f0)) := (blk_cell BK108.out 0).trans rfl
              have hcz28_1 : wc.cell? ⟨gb108, 1, none⟩ = some (.int .i64 ((rd_T45 l0 x17_2).f1)) := (blk_cell BK108.out 1).trans rfl
              have hcz28_2 : wc.cell? ⟨gb108, 2, none⟩ = some (.string ((rd_T45 l0 x17_2).f2)) := (blk_cell BK108.out 2).trans rfl
              have hcz28_3 : wc.cell? ⟨gb108, 3, none⟩ = some (.slice A107_3 ((rd_T45 l0 x17_2).f3).length c107_3) := (blk_cell BK108.out 3).trans rfl
              have hfz28_0 := blk_frozen BK108.out 0
              have hfz28_1 := blk_frozen BK108.out 1
              have hfz28_2 := blk_frozen BK108.out 2
              have hfz28_3 := blk_frozen BK108.out 3
              have q29 : ((ji20) : Int) ≤ ((x3_2.length : Int) : Int) := of_decide_eq_true (by first | (with_reducible assumption) | assumption)
              obtain ⟨i029, hi029, _, hsz29, _⟩ := info_parts info3
              have hroom29 : x3_2.length ≤ co27 := (Kd.R_reads' HO_3.out).2.1
              have hC29 : Kd.C (Kd.int .i64) _ Ao27 x3_2.length x3_2 := (Kd.R_reads' HO_3.out).2.2
              have q029 : (0 : Int) ≤ ((ji20) : Int) := of_decide_eq_true (by first | (with_reducible assumption) | assumption)
              have hcut29 := cut_from (P := Tryd.prog) 43 3 .i64 Tryd.underlying43 hi029 1 hsz29 Ao27 x3_2.length co27 (ji20) q029 q29
              have hr29 := Kd.C_drop (m := ((ji20) : Int).toNat) (c := co27) hC29 (by omega) hroom29
              obtain ⟨A29, hA29⟩ : ∃ A1, A1 = (if co27 = ((ji20) : Int).toNat then Ao27 else (Ao27 : Option Addr).map (·.add (((ji20) : Int).toNat * 1))) := ⟨_, rfl⟩
              obtain ⟨c29, hc29⟩ : ∃ c1, c1 = co27 - ((ji20) : Int).toNat := ⟨_, rfl⟩
              have hy29 : y110.length = x3_2.length - ((ji20) : Int).toNat := (by rw [Ny110.out, List.length_drop] <;> omega)
              rw [show (x3_2).drop ((ji20) : Int).toNat = y110 from Ny110.out.symm] at hr29
              replace hr29 : Kd.C (Kd.int .i64) _ A29 y110.length y110 := (by rw [hA29]; exact hr29)
              rw [← hy29, ← hA29, ← hc29] at hcut29
              have HR113 := am hr29
              have HC113 := am (show y110.length ≤ c29 from by rw [hy29, hc29]; exact Nat.sub_le_sub_right hroom29 _)
              clear hr29 hC29 hroom29 hi029 hsz29 hc29
              have KY29 := am hy29
              have KA29 := am hA29
              clear hy29 hA29
              have KL29 := am (show ((ji20) : Int).toNat ≤ x3_2.length from by omega)
              replace q29 := eq_true q29
              go_wp2_with (first | (go_at_call 98; (with_reducible refine (slices_Equal_int_int.calls kj7 _ _ y110 _ _ ((rd_T45 l0 x17_2).f3) true _ ?side1 ?side2 ?side3 ?side4 A23.out).mono ?_); (case side1 => repeat (first | exact (by repeat (first | (with_reducible exact HR113.out) | (with_reducible refine Kd.C_alloc ?_ _) | (with_reducible refine Kd.C_drewN ?_ _) | (with_reducible refine Kd.C_drew ?_) | exact HR113.out)) | (with_reducible refine Kd.C_alloc ?_ _) | (with_reducible refine Kd.C_drewN ?_ _) | (with_reducible refine Kd.C_drew ?_))); (case side2 => exact HC113.out); (case side3 => repeat (first | exact (Kd.C_below HR107_3.out HB.out) | (with_reducible refine Kd.C_alloc ?_ _) | (with_reducible refine Kd.C_drewN ?_ _) | (with_reducible refine Kd.C_drew ?_))); (case side4 => exact HC107_3.out); rintro e w' ⟨rfl, ⟨nd, rfl⟩⟩; (try first | exact ⟨rfl, _, World.drewN_drewN _ _ _⟩ | exact ⟨rfl, _, Eq.trans (World.drewN_drewN _ _ _) (congrArg (World.drewN _) (Nat.add_assoc _ _ _))⟩); have q30 : ((ji20) : Int) ≤ ((x3_2.length : Int) : Int) := of_decide_eq_true (by first | (with_reducible assumption) | assumption); obtain ⟨i030, hi030, _, hsz30, _⟩ := info_parts info3; have hcut30 := cut_to (P := Tryd.prog) 43 3 .i64 Tryd.underlying43 hi030 Ao27 x3_2.length co27 (ji20) (of_decide_eq_true (by first | (with_reducible assumption) | assumption)) q30 (Kd.R_reads' HO_3.out).2.1; have hr30 := Kd.R_take (m := ((ji20) : Int).toNat) HO_3.out (by omega); have hy30 : y115.length = ((ji20) : Int).toNat := (by rw [Ny115.out, List.length_take]; omega); rw [← Ny115.out] at hr30; rw [← hy30] at hr30 hcut30; clear hy30 hi030 hsz30 HO_3; have HO117 := am hr30; clear hr30; replace q30 := eq_true q30) | ((with_reducible refine gate_builtin (b := .append) (xs := #[.tmp 48, .tmp 50]) rfl ?_); (try (refine gate_guard (by rfl) ?_; dsimp only)); at_builtin; refine Kd.R_append (Kd.int .i64) (w0 := w) w.heap.size rfl (.tmp 48) (.tmp 50) 43 3 (.int .i64 0) 8 rfl Tryd.underlying43 info3 rfl (by decide) (by omega) (.slice Ao27 y115.length co27) y115 x17_2 [.int .i64 x17_2] (fun _ => True) (fun _ => False) rfl rfl ?aP (fun _ hk => hk.elim) ?aF ?aO ?aB ?aS ?aL ?_; (case aP => exact rfl); (case aB => exact (by repeat (first | (with_reducible first | exact HB.out | apply below_alloc | apply pw_below_drewN | apply below_drew1 | refine below_set ?_ GE108.out) | exact HB.out))); (case aF => exact (fun _ _ => trivial)); (case aO => exact (by (with_reducible repeat (first | apply Kd.R_alloc | apply Kd.R_drewN | apply Kd.R_drew)); exact HO117.out)); (case aS => exact (below_size (by repeat (first | (with_reducible first | exact HB.out | apply below_alloc | apply pw_below_drewN | apply below_drew1 | refine below_set ?_ GE108.out) | exact HB.out)))); (case aL => have := LMc26.out; omega); intro v119 w31 ho hb hg hat; rw [← Ny118.out] at ho; have n0_ := am (blk_grown (g := gb108) (o := .cells #[.int .i64 ((rd_T45 l0 x17_2).f0), .int .i64 ((rd_T45 l0 x17_2).f1), .string ((rd_T45 l0 x17_2).f2), .slice A107_3 ((rd_T45 l0 x17_2).f3).length c107_3] 45 (0, 0)) (by (with_reducible repeat (first | refine blk_drewN ?_ _ | refine blk_drew ?_ | refine blk_alloc ?_ _)); exact BK108.out) hg (Kd.R_ne HO117.out BK108.out (by decide))); have n1_ := am (hb); have n2_ := am (ho); clear BK108; clear HB; clear HO117; have BK108 := n0_; have HB := n1_; have HO120 := n2_; clear n0_ n1_ n2_; clear ho hb hg hat))
              repeat (go_quiet (first | (go_at_call 98; (with_reducible refine (slices_Equal_int_int.calls kj7 _ _ y110 _ _ ((rd_T45 l0 x17_2).f3) true _ ?side1 ?side2 ?side3 ?side4 A23.out).mono ?_); (case side1 => repeat (first | exact (by repeat (first | (with_reducible exact HR113.out) | (with_reducible refine Kd.C_alloc ?_ _) | (with_reducible refine Kd.C_drewN ?_ _) | (with_reducible refine Kd.C_drew ?_) | exact HR113.out)) | (with_reducible refine Kd.C_alloc ?_ _) | (with_reducible refine Kd.C_drewN ?_ _) | (with_reducible refine Kd.C_drew ?_))); (case side2 => exact HC113.out); (case side3 => repeat (first | exact (Kd.C_below HR107_3.out HB.out) | (with_reducible refine Kd.C_alloc ?_ _) | (with_reducible refine Kd.C_drewN ?_ _) | (with_reducible refine Kd.C_drew ?_))); (case side4 => exact HC107_3.out); rintro e w' ⟨rfl, ⟨nd, rfl⟩⟩; (try first | exact ⟨rfl, _, World.drewN_drewN _ _ _⟩ | exact ⟨rfl, _, Eq.trans (World.drewN_drewN _ _ _) (congrArg (World.drewN _) (Nat.add_assoc _ _ _))⟩); have q30 : ((ji20) : Int) ≤ ((x3_2.length : Int) : Int) := of_decide_eq_true (by first | (with_reducible assumption) | assumption); obtain ⟨i030, hi030, _, hsz30, _⟩ := info_parts info3; have hcut30 := cut_to (P := Tryd.prog) 43 3 .i64 Tryd.underlying43 hi030 Ao27 x3_2.length co27 (ji20) (of_decide_eq_true (by first | (with_reducible assumption) | assumption)) q30 (Kd.R_reads' HO_3.out).2.1; have hr30 := Kd.R_take (m := ((ji20) : Int).toNat) HO_3.out (by omega); have hy30 : y115.length = ((ji20) : Int).toNat := (by rw [Ny115.out, List.length_take]; omega); rw [← Ny115.out] at hr30; rw [← hy30] at hr30 hcut30; clear hy30 hi030 hsz30 HO_3; have HO117 := am hr30; clear hr30; replace q30 := eq_true q30) | ((with_reducible refine gate_builtin (b := .append) (xs := #[.tmp 48, .tmp 50]) rfl ?_); (try (refine gate_guard (by rfl) ?_; dsimp only)); at_builtin; refine Kd.R_append (Kd.int .i64) (w0 := w) w.heap.size rfl (.tmp 48) (.tmp 50) 43 3 (.int .i64 0) 8 rfl Tryd.underlying43 info3 rfl (by decide) (by omega) (.slice Ao27 y115.length co27) y115 x17_2 [.int .i64 x17_2] (fun _ => True) (fun _ => False) rfl rfl ?aP (fun _ hk => hk.elim) ?aF ?aO ?aB ?aS ?aL ?_; (case aP => exact rfl); (case aB => exact (by repeat (first | (with_reducible first | exact HB.out | apply below_alloc | apply pw_below_drewN | apply below_drew1 | refine below_set ?_ GE108.out) | exact HB.out))); (case aF => exact (fun _ _ => trivial)); (case aO => exact (by (with_reducible repeat (first | apply Kd.R_alloc | apply Kd.R_drewN | apply Kd.R_drew)); exact HO117.out)); (case aS => exact (below_size (by repeat (first | (with_reducible first | exact HB.out | apply below_alloc | apply pw_below_drewN | apply below_drew1 | refine below_set ?_ GE108.out) | exact HB.out)))); (case aL => have := LMc26.out; omega); intro v119 w31 ho hb hg hat; rw [← Ny118.out] at ho; have n0_ := am (blk_grown (g := gb108) (o := .cells #[.int .i64 ((rd_T45 l0 x17_2).f0), .int .i64 ((rd_T45 l0 x17_2).f1), .string ((rd_T45 l0 x17_2).f2), .slice A107_3 ((rd_T45 l0 x17_2).f3).length c107_3] 45 (0, 0)) (by (with_reducible repeat (first | refine blk_drewN ?_ _ | refine blk_drew ?_ | refine blk_alloc ?_ _)); exact BK108.out) hg (Kd.R_ne HO117.out BK108.out (by decide))); have n1_ := am (hb); have n2_ := am (ho); clear BK108; clear HB; clear HO117; have BK108 := n0_; have HB := n1_; have HO120 := n2_; clear n0_ n1_ n2_; clear ho hb hg hat)); try go_wp2_with (first | (go_at_call 98; (with_reducible refine (slices_Equal_int_int.calls kj7 _ _ y110 _ _ ((rd_T45 l0 x17_2).f3) true _ ?side1 ?side2 ?side3 ?side4 A23.out).mono ?_); (case side1 => repeat (first | exact (by repeat (first | (with_reducible exact HR113.out) | (with_reducible refine Kd.C_alloc ?_ _) | (with_reducible refine Kd.C_drewN ?_ _) | (with_reducible refine Kd.C_drew ?_) | exact HR113.out)) | (with_reducible refine Kd.C_alloc ?_ _) | (with_reducible refine Kd.C_drewN ?_ _) | (with_reducible refine Kd.C_drew ?_))); (case side2 => exact HC113.out); (case side3 => repeat (first | exact (Kd.C_below HR107_3.out HB.out) | (with_reducible refine Kd.C_alloc ?_ _) | (with_reducible refine Kd.C_drewN ?_ _) | (with_reducible refine Kd.C_drew ?_))); (case side4 => exact HC107_3.out); rintro e w' ⟨rfl, ⟨nd, rfl⟩⟩; (try first | exact ⟨rfl, _, World.drewN_drewN _ _ _⟩ | exact ⟨rfl, _, Eq.trans (World.drewN_drewN _ _ _) (congrArg (World.drewN _) (Nat.add_assoc _ _ _))⟩); have q30 : ((ji20) : Int) ≤ ((x3_2.length : Int) : Int) := of_decide_eq_true (by first | (with_reducible assumption) | assumption); obtain ⟨i030, hi030, _, hsz30, _⟩ := info_parts info3; have hcut30 := cut_to (P := Tryd.prog) 43 3 .i64 Tryd.underlying43 hi030 Ao27 x3_2.length co27 (ji20) (of_decide_eq_true (by first | (with_reducible assumption) | assumption)) q30 (Kd.R_reads' HO_3.out).2.1; have hr30 := Kd.R_take (m := ((ji20) : Int).toNat) HO_3.out (by omega); have hy30 : y115.length = ((ji20) : Int).toNat := (by rw [Ny115.out, List.length_take]; omega); rw [← Ny115.out] at hr30; rw [← hy30] at hr30 hcut30; clear hy30 hi030 hsz30 HO_3; have HO117 := am hr30; clear hr30; replace q30 := eq_true q30) | ((with_reducible refine gate_builtin (b := .append) (xs := #[.tmp 48, .tmp 50]) rfl ?_); (try (refine gate_guard (by rfl) ?_; dsimp only)); at_builtin; refine Kd.R_append (Kd.int .i64) (w0 := w) w.heap.size rfl (.tmp 48) (.tmp 50) 43 3 (.int .i64 0) 8 rfl Tryd.underlying43 info3 rfl (by decide) (by omega) (.slice Ao27 y115.length co27) y115 x17_2 [.int .i64 x17_2] (fun _ => True) (fun _ => False) rfl rfl ?aP (fun _ hk => hk.elim) ?aF ?aO ?aB ?aS ?aL ?_; (case aP => exact rfl); (case aB => exact (by repeat (first | (with_reducible first | exact HB.out | apply below_alloc | apply pw_below_drewN | apply below_drew1 | refine below_set ?_ GE108.out) | exact HB.out))); (case aF => exact (fun _ _ => trivial)); (case aO => exact (by (with_reducible repeat (first | apply Kd.R_alloc | apply Kd.R_drewN | apply Kd.R_drew)); exact HO117.out)); (case aS => exact (below_size (by repeat (first | (with_reducible first | exact HB.out | apply below_alloc | apply pw_below_drewN | apply below_drew1 | refine below_set ?_ GE108.out) | exact HB.out)))); (case aL => have := LMc26.out; omega); intro v119 w31 ho hb hg hat; rw [← Ny118.out] at ho; have n0_ := am (blk_grown (g := gb108) (o := .cells #[.int .i64 ((rd_T45 l0 x17_2).f0), .int .i64 ((rd_T45 l0 x17_2).f1), .string ((rd_T45 l0 x17_2).f2), .slice A107_3 ((rd_T45 l0 x17_2).f3).length c107_3] 45 (0, 0)) (by (with_reducible repeat (first | refine blk_drewN ?_ _ | refine blk_drew ?_ | refine blk_alloc ?_ _)); exact BK108.out) hg (Kd.R_ne HO117.out BK108.out (by decide))); have n1_ := am (hb); have n2_ := am (ho); clear BK108; clear HB; clear HO117; have BK108 := n0_; have HB := n1_; have HO120 := n2_; clear n0_ n1_ n2_; clear ho hb hg hat)))
              go_roundg kj7
              case measure => have := HJ1.out; have := HK2.out; have := HJ7.out; omega
              case rel => exact ⟨(y118), (wrap64 (x17_2 + 1)), (by first | rfl | (simp; done) | (simp [*]; done)), H', ⟨by have := HJ1.out; have := HK2.out; have := HJ7.out; omega⟩, ⟨by (with_reducible repeat (first | apply Kd.R_alloc | apply Kd.R_drewN | apply Kd.R_drew)); exact HO120.out⟩, ⟨by repeat (first | (with_reducible first | exact HB.out | apply below_alloc | apply pw_below_drewN | apply below_drew1 | refine below_set ?_ GE108.out) | exact HB.out)⟩⟩
/-! ### expr_join: function 76 -/
mutual
def expr_join.l0 : Nat → List (S45) → Int → List (S45) → Int → Int → Option ((List (S45)))
  | 0, _, _, _, _, _ => none
  | k + 1, x0, x2, x12, x13, x14 => if x14 < x13 then (if 0 ≤ x14 then (if x14 < (x12.length : Int) then (if 0 ≤ (((rd_T45 x12 x14).f3).length : Int) then (if ((((rd_T45 x12 x14).f3).length : Int) : Int).toNat ≤ 35184372088832 then (expr_join.l1 k x0 x2 (List.replicate ((((rd_T45 x12 x14).f3).length : Int) : Int).toNat 0) x12 x13 x14 ((rd_T45 x12 x14).f3) (((rd_T45 x12 x14).f3).length : Int) 0 ((rd_T45 x12 x14).f0) ((rd_T45 x12 x14).f1) ((rd_T45 x12 x14).f2) ((rd_T45 x12 x14).f3)) else (none)) else (none)) else (none)) else (none)) else (some x0)
def expr_join.l1 : Nat → List (S45) → Int → List Int → List (S45) → Int → Int → List Int → Int → Int → Int → Int → ByteArray → List Int → Option ((List (S45)))
  | 0, _, _, _, _, _, _, _, _, _, _, _, _, _ => none
  | k + 1, x0, x2, x9, x12, x13, x14, x23, x24, x25, x123000, x123001, x123002, x123003 => if x25 < x24 then (if 0 ≤ x25 then (if x25 < (x23.length : Int) then (if x25 < (x9.length : Int) then (expr_join.l1 k x0 x2 (x9.set (x25 : Int).toNat (wrap64 ((rd x23 x25) + x2))) x12 x13 x14 x23 x24 (wrap64 (x25 + 1)) x123000 x123001 x123002 x123003) else (none)) else (none)) else (none)) else (if x0.length < 2513169434916 then (expr_join.l0 k (x0 ++ [(⟨x123000, x123001, x123002, x9⟩ : S45)]) x2 x12 x13 (wrap64 (x14 + 1))) else (none))
end
def expr_join.f (k : Nat) (l0 : List (S45)) (l1 : List (S45)) (a2 : Int) : Option ((List (S45))) := expr_join.l0 k l0 a2 l1 (l1.length : Int) 0
theorem expr_join.mono_l : ∀ k, (∀ y0 y1 y2 y3 y4, LeO (expr_join.l0 k y0 y1 y2 y3 y4) (expr_join.l0 (k + 1) y0 y1 y2 y3 y4)) ∧ (∀ y0 y1 y2 y3 y4 y5 y6 y7 y8 y9 y10 y11 y12, LeO (expr_join.l1 k y0 y1 y2 y3 y4 y5 y6 y7 y8 y9 y10 y11 y12) (expr_join.l1 (k + 1) y0 y1 y2 y3 y4 y5 y6 y7 y8 y9 y10 y11 y12))
  | 0 => ⟨fun _ _ _ _ _ r h => by simp [expr_join.l0] at h, fun _ _ _ _ _ _ _ _ _ _ _ _ _ r h => by simp [expr_join.l1] at h⟩
  | k + 1 => by
    obtain ⟨ih0, ih1⟩ := expr_join.mono_l k
    refine ⟨?_, ?_⟩
    rotate_left
    · intro y0 y1 y2 y3 y4 y5 y6 y7 y8 y9 y10 y11 y12
      unfold expr_join.l1
      repeat' first
      | (with_reducible exact ih0 _ _ _ _ _)
      | (with_reducible exact ih1 _ _ _ _ _ _ _ _ _ _ _ _ _)
      | (with_reducible exact LeO.refl _)
      | (with_reducible exact LeO.none _)
      | (with_reducible refine LeO.ite ?_ ?_)
      | (with_reducible refine LeO.bind ?_ (fun _ => ?_))
      | exact ih0 _ _ _ _ _
      | exact ih1 _ _ _ _ _ _ _ _ _ _ _ _ _
      | exact LeO.none _
      | refine LeO.ite ?_ ?_
      | refine LeO.bind ?_ (fun _ => ?_)
    intro y0 y1 y2 y3 y4
    unfold expr_join.l0
    repeat' first
    | (with_reducible exact ih0 _ _ _ _ _)
    | (with_reducible exact ih1 _ _ _ _ _ _ _ _ _ _ _ _ _)
    | (with_reducible exact LeO.refl _)
    | (with_reducible exact LeO.none _)
    | (with_reducible refine LeO.ite ?_ ?_)
    | (with_reducible refine LeO.bind ?_ (fun _ => ?_))
    | exact ih0 _ _ _ _ _
    | exact ih1 _ _ _ _ _ _ _ _ _ _ _ _ _
    | exact LeO.none _
    | refine LeO.ite ?_ ?_
    | refine LeO.bind ?_ (fun _ => ?_)
theorem expr_join.mono : ∀ a0 a1 a2 k, LeO (expr_join.f k a0 a1 a2) (expr_join.f (k + 1) a0 a1 a2) := by
  intro a0 a1 a2 k
  obtain ⟨ih0, ih1⟩ := expr_join.mono_l k
  unfold expr_join.f
  repeat' first
      | (with_reducible exact ih0 _ _ _ _ _)
      | (with_reducible exact ih1 _ _ _ _ _ _ _ _ _ _ _ _ _)
      | (with_reducible exact LeO.refl _)
      | (with_reducible exact LeO.none _)
      | (with_reducible refine LeO.ite ?_ ?_)
      | (with_reducible refine LeO.bind ?_ (fun _ => ?_))
      | exact ih0 _ _ _ _ _
      | exact ih1 _ _ _ _ _ _ _ _ _ _ _ _ _
      | exact LeO.none _
      | refine LeO.ite ?_ ?_
      | refine LeO.bind ?_ (fun _ => ?_)
set_option maxHeartbeats 8000000 in
set_option maxRecDepth 100000 in
theorem expr_join.calls (k : Nat) (P0_ : Nat → Prop) (u9000_ : Value) (l0 : List (S45)) (A1 : Option Addr) (c1 : Nat) (l1 : List (S45)) (a2 : Int) (r : List (S45)) (w0 w : World) (hB : Below w0.heap.size w0 w) (ho0 : Kd.S k45 45 w w0.heap.size P0_ u9000_ l0) (hr1 : Kd.C k45 w0 A1 l1.length l1) (hc1 : l1.length ≤ c1) (h : expr_join.f k l0 l1 a2 = some r) :
    Calls Tryd.prog 76 #[u9000_, .slice A1 l1.length c1, .int .i64 a2] w fun e w' => ∃ v0_ : Value, e = .returned (v0_) ∧ Kd.S k45 45 w' w0.heap.size (fun k_ => (P0_ k_ ∨ w.heap.size ≤ k_)) v0_ r ∧ Below w0.heap.size w0 w' ∧ Kept w w' (fun k_ => P0_ k_) := by
  have hu45 := Tryd.underlying45
  have HO0 := am (show Kd.S k45 45 w w0.heap.size (fun k_ => (P0_ k_ ∨ w.heap.size ≤ k_)) u9000_ l0 from Kd.S_mono ho0 (fun k_ hk => (.inl hk)))
  have HR1 := am hr1
  have HC1 := am hc1
  clear hr1 hc1
  have HK := am (Kept.refl w (fun k_ => P0_ k_))
  have HW0 := am hB.size
  have HB := am hB
  clear hB
  have H : (expr_join.l0 k l0 a2 l1 (l1.length : Int) 0) = some r := h
  clear h
  have H' := am H
  clear H
  go_enter Tryd.func76, Tryd.ntmps76
  go_wp2
  go_loopg [0, 14] k (fun kq v0 v14 w' => ∃ (x0_1 : List (S45)) (x14_1 : Int), v14 = .int .i64 x14_1 ∧ Aside0 (expr_join.l0 kq x0_1 a2 l1 (l1.length : Int) x14_1 = some r) ∧ Aside0 (kq ≤ k) ∧ Aside0 (Kd.S k45 45 w' w0.heap.size (fun k_ => (P0_ k_ ∨ w.heap.size ≤ k_)) v0 x0_1) ∧ Aside0 (Kept w w' (fun k_ => P0_ k_)) ∧ Aside0 (Below w0.heap.size w0 w'))
  case atStart => exact ⟨(l0), (0), (by first | rfl | (simp; done) | (simp [*]; done)), H', ⟨Nat.le_refl _⟩, ⟨by (with_reducible repeat (first | apply Kd.S_alloc | apply Kd.S_drewN | apply Kd.S_drew)); exact HO0.out⟩, ⟨by repeat (first | (with_reducible first | exact HK.out | apply Kept.alloc | apply Kept.drewN | apply Kept.drew) | exact HK.out)⟩, ⟨by repeat (first | (with_reducible first | exact HB.out | apply below_alloc | apply pw_below_drewN | apply below_drew1) | exact HB.out)⟩⟩
  case round =>
    clear H'
    try clear c1
    try clear p2
    obtain ⟨x0_1, x14_1, rfl, HA, HK1, HO_0, HK, HB⟩ := hrel
    cases gk with
    | zero => exact absurd HA.out (by simp [expr_join.l0])
    | succ k1 =>
      have H := HA.out
      clear HA
      simp only [expr_join.l0] at H
      by_cases c4 : x14_1 < (l1.length : Int)
      rotate_left
      · rw [if_neg c4] at H
        have c4b0 : decide (x14_1 < (l1.length : Int)) = false := decide_eq_false c4
        clear c4
        obtain rfl := Option.some.inj H
        go_wp2
        go_ret
        exact ⟨_, by first | rfl | (simp [errW_none, errW_some] <;> rfl) | (simp [*, errW_none, errW_some] <;> rfl), by (with_reducible repeat (first | apply Kd.S_alloc | apply Kd.S_drewN | apply Kd.S_drew)); exact HO_0.out, by repeat (first | (with_reducible first | exact HB.out | apply below_alloc | apply pw_below_drewN | apply below_drew1) | exact HB.out), by repeat (first | (with_reducible first | exact HK.out | apply Kept.alloc | apply Kept.drewN | apply Kept.drew) | exact HK.out)⟩
      rw [if_pos c4] at H
      have c4b0 : decide (x14_1 < (l1.length : Int)) = true := decide_eq_true c4
      clear c4
      by_cases c5 : 0 ≤ x14_1
      rotate_left
      · rw [if_neg c5] at H
        exact absurd H (by simp)
      rw [if_pos c5] at H
      have c5b0 : decide (0 ≤ x14_1) = true := decide_eq_true c5
      clear c5
      by_cases c6 : x14_1 < (l1.length : Int)
      rotate_left
      · rw [if_neg c6] at H
        exact absurd H (by simp)
      rw [if_pos c6] at H
      have c6b0 : decide (x14_1 < (l1.length : Int)) = true := decide_eq_true c6
      clear c6
      by_cases c7 : 0 ≤ (((rd_T45 l1 x14_1).f3).length : Int)
      rotate_left
      · rw [if_neg c7] at H
        exact absurd H (by simp)
      rw [if_pos c7] at H
      have c7b0 := eq_true c7
      have c7b1 : decide (0 ≤ (((rd_T45 l1 x14_1).f3).length : Int)) = true := decide_eq_true c7
      clear c7
      by_cases c8 : ((((rd_T45 l1 x14_1).f3).length : Int) : Int).toNat ≤ 35184372088832
      rotate_left
      · rw [if_neg c8] at H
        exact absurd H (by simp)
      rw [if_pos c8] at H
      have c8b0 := eq_true c8
      have c8b1 : decide (((((rd_T45 l1 x14_1).f3).length : Int) : Int).toNat ≤ 35184372088832) = true := decide_eq_true c8
      clear c8
      obtain ⟨y123, hy123⟩ : ∃ y_ : List Int, y_ = (List.replicate ((((rd_T45 l1 x14_1).f3).length : Int) : Int).toNat 0) := ⟨_, rfl⟩
      replace H : (expr_join.l1 k1 x0_1 a2 y123 l1 (l1.length : Int) x14_1 ((rd_T45 l1 x14_1).f3) (((rd_T45 l1 x14_1).f3).length : Int) 0 ((rd_T45 l1 x14_1).f0) ((rd_T45 l1 x14_1).f1) ((rd_T45 l1 x14_1).f2) ((rd_T45 l1 x14_1).f3)) = some r := by first | (rw [hy123]; with_reducible exact H) | (have H2_ := (Option.bind_some _ _).symm.trans H; rw [hy123]; with_reducible exact H2_) | (have H2_ := (Option.bind_some _ _).symm.trans H; with_reducible exact H2_) | with_reducible exact H | (rw [hy123]; exact H) | exact H
      have Ny123 := am hy123
      clear hy123
      have H' := am H
      clear H
      have p121 : 0 ≤ (x14_1 : Int) := of_decide_eq_true (by first | (with_reducible assumption) | assumption)
      have q121 : x14_1 < (l1.length : Int) := of_decide_eq_true (by first | (with_reducible assumption) | assumption)
      obtain ⟨ad121, A121_3, c121_3, e121, hx121_0, hx121_1, hx121_2, hx121_3, hl121_3, hi121_3⟩ := at_T45 HR1.out x14_1 p121 q121
      cases e121
      replace hx121_0 := (HB.out.cell (World.block_lt_of_cell? w0 _ hx121_0)).trans hx121_0
      replace hx121_1 := (HB.out.cell (World.block_lt_of_cell? w0 _ hx121_1)).trans hx121_1
      replace hx121_2 := (HB.out.cell (World.block_lt_of_cell? w0 _ hx121_2)).trans hx121_2
      replace hx121_3 := (HB.out.cell (World.block_lt_of_cell? w0 _ hx121_3)).trans hx121_3
      have HR121_3 := am hi121_3
      have HC121_3 := am hl121_3
      clear hi121_3 hl121_3
      replace p121 := eq_true p121
      replace q121 := eq_true q121
      go_wp2_with (first | ((with_reducible refine gate_dst (N := 8) rfl ?_); refine box_event ?hg (N := 8) ?hd (cs := #[.int .i64 0, .int .i64 0, .string (⟨#[]⟩ : ByteArray), .slice none 0 0]) (t := 45) ?hr ?_; (case hd => rfl); (case hg => rfl); (case hr => first | (go_simp; done) | (go_simp; rfl)); intro gb122 hg w9 hbox hb; have n0_ := am (Kd.S_below (Kd.S_elderB (by (with_reducible repeat (first | apply Kd.S_alloc | apply Kd.S_drewN | apply Kd.S_drew)); exact HO_0.out) gb122 (Nat.le_of_eq hg.symm)) hb); have n1_ := am (Kept.below (S := (fun k_ => P0_ k_)) (by repeat (first | (with_reducible first | exact HK.out | apply Kept.alloc | apply Kept.drewN | apply Kept.drew) | exact HK.out)) hb); have n2_ := am (below_step (by repeat (first | (with_reducible first | exact HB.out | apply below_alloc | apply pw_below_drewN | apply below_drew1) | exact HB.out)) hb); have n3_ := am (hbox); have n4_ := am ((by rw [hg]; exact (by first | exact HK.out.1 | exact (show Kept w _ (fun k_ => P0_ k_) from by repeat (first | (with_reducible first | exact HK.out | apply Kept.alloc | apply Kept.drewN | apply Kept.drew) | exact HK.out)).1) : w.heap.size ≤ gb122)); have n5_ := am ((by rw [hg]; exact (below_size (by repeat (first | (with_reducible first | exact HB.out | apply below_alloc | apply pw_below_drewN | apply below_drew1) | exact HB.out))) : w0.heap.size ≤ gb122)); clear HO_0; clear HK; clear HB; have HO_0 := n0_; have HK := n1_; have HB := n2_; have BK122 := n3_; have GW122 := n4_; have GE122 := n5_; clear n0_ n1_ n2_ n3_ n4_ n5_; clear hb hbox hg; have hcz10_0 : w9.cell? ⟨gb122, 0, none⟩ = some (.int .i64 0) := (blk_cell BK122.out 0).trans rfl; have hcz10_1 : w9.cell? ⟨gb122, 1, none⟩ = some (.int .i64 0) := (blk_cell BK122.out 1).trans rfl; have hcz10_2 : w9.cell? ⟨gb122, 2, none⟩ = some (.string (⟨#[]⟩ : ByteArray)) := (blk_cell BK122.out 2).trans rfl; have hcz10_3 : w9.cell? ⟨gb122, 3, none⟩ = some (.slice none 0 0) := (blk_cell BK122.out 3).trans rfl; have hfz10_0 := blk_frozen BK122.out 0; have hfz10_1 := blk_frozen BK122.out 1; have hfz10_2 := blk_frozen BK122.out 2; have hfz10_3 := blk_frozen BK122.out 3) | ((with_reducible refine gate_dst (N := 21) rfl ?_); refine Kd.R_make (Kd.int .i64) _ 3 rfl (N := 21) rfl 43 _ _ rfl (((rd_T45 l1 x14_1).f3).length : Int) rfl rfl Tryd.underlying43 (.int .i64 0) 8 info3 rfl (by decide) (by omega) 0 (ok := fun _ => True) (okp := fun _ => True) rfl (fun _ hk => hk) trivial (of_decide_eq_true (by first | (with_reducible assumption) | assumption)) (Nat.le_trans (Nat.mul_le_mul_right _ (of_decide_eq_true (by first | (with_reducible assumption) | assumption) : (((rd_T45 l1 x14_1).f3).length : Int).toNat ≤ 35184372088832)) (by omega)) (Below.refl _ _) (Nat.le_refl _) ?_; intro v124 w11 ho12 hb hg_ hnew_; clear hg_ hnew_; (first | rw [← Ny123.out] at ho12 | (simp only [Int.reduceToNat] at ho12; rw [← Ny123.out] at ho12)); have n0_ := am (Kd.S_elder' (by (with_reducible repeat (first | apply Kd.S_alloc | apply Kd.S_drewN | apply Kd.S_drew)); exact (Kd.S_mono (Kd.S_far (p := ⟨gb122, 3, none⟩) (Kd.S_far (p := ⟨gb122, 2, none⟩) (Kd.S_far (p := ⟨gb122, 1, none⟩) (Kd.S_far (p := ⟨gb122, 0, none⟩) (Kd.S_mono HO_0.out (fun k_ hk => (⟨hk, hk.2⟩ : _ ∧ k_ ≠ gb122))) (fun _ hk => hk.2) (.int .i64 ((rd_T45 l1 x14_1).f0))) (fun _ hk => hk.2) (.int .i64 ((rd_T45 l1 x14_1).f1))) (fun _ hk => hk.2) (.string ((rd_T45 l1 x14_1).f2))) (fun _ hk => hk.2) (.slice A121_3 ((rd_T45 l1 x14_1).f3).length c121_3)) (fun _ h_ => h_.1))) (Kd.R_base ho12) hb); have n1_ := am (Kd.R_lower (Kd.R_newM (M := fun k_ => (P0_ k_ ∨ w.heap.size ≤ k_)) ho12 (show Kept w _ (fun k_ => P0_ k_) from by repeat (first | (with_reducible first | exact HK.out | apply Kept.alloc | apply Kept.drewN | apply Kept.drew | refine Kept.setCell ?_ (.inr GW122.out) _) | exact HK.out)).1 (fun k_ h_ => .inr h_)) (below_size (by repeat (first | (with_reducible first | exact HB.out | apply below_alloc | apply pw_below_drewN | apply below_drew1 | refine below_set ?_ GE122.out) | exact HB.out)))); have n2_ := am (blk_below (g := gb122) (o := .cells #[.int .i64 ((rd_T45 l1 x14_1).f0), .int .i64 ((rd_T45 l1 x14_1).f1), .string ((rd_T45 l1 x14_1).f2), .slice A121_3 ((rd_T45 l1 x14_1).f3).length c121_3] 45 (0, 0)) (by (with_reducible repeat (first | refine blk_drewN ?_ _ | refine blk_drew ?_ | refine blk_alloc ?_ _)); refine blk_put (cs := #[.int .i64 ((rd_T45 l1 x14_1).f0), .int .i64 ((rd_T45 l1 x14_1).f1), .string ((rd_T45 l1 x14_1).f2), .slice none 0 0]) ?_ 3 _ rfl; (with_reducible repeat (first | refine blk_drewN ?_ _ | refine blk_drew ?_ | refine blk_alloc ?_ _)); refine blk_put (cs := #[.int .i64 ((rd_T45 l1 x14_1).f0), .int .i64 ((rd_T45 l1 x14_1).f1), .string (⟨#[]⟩ : ByteArray), .slice none 0 0]) ?_ 2 _ rfl; (with_reducible repeat (first | refine blk_drewN ?_ _ | refine blk_drew ?_ | refine blk_alloc ?_ _)); refine blk_put (cs := #[.int .i64 ((rd_T45 l1 x14_1).f0), .int .i64 0, .string (⟨#[]⟩ : ByteArray), .slice none 0 0]) ?_ 1 _ rfl; (with_reducible repeat (first | refine blk_drewN ?_ _ | refine blk_drew ?_ | refine blk_alloc ?_ _)); refine blk_put (cs := #[.int .i64 0, .int .i64 0, .string (⟨#[]⟩ : ByteArray), .slice none 0 0]) ?_ 0 _ rfl; (with_reducible repeat (first | refine blk_drewN ?_ _ | refine blk_drew ?_ | refine blk_alloc ?_ _)); exact BK122.out) hb); have n3_ := am (Kept.below (S := (fun k_ => P0_ k_)) (by repeat (first | (with_reducible first | exact HK.out | apply Kept.alloc | apply Kept.drewN | apply Kept.drew | refine Kept.setCell ?_ (.inr GW122.out) _) | exact HK.out)) hb); have n4_ := am (below_step (by repeat (first | (with_reducible first | exact HB.out | apply below_alloc | apply pw_below_drewN | apply below_drew1 | refine below_set ?_ GE122.out) | exact HB.out)) hb); clear HO_0; clear BK122; clear HK; clear HB; have HO_0 := n0_; have HO125 := n1_; have BK122 := n2_; have HK := n3_; have HB := n4_; clear n0_ n1_ n2_ n3_ n4_; clear hb ho12; have hcz13_0 : w11.cell? ⟨gb122, 0, none⟩ = some (.int .i64 ((rd_T45 l1 x14_1).f0)) := (blk_cell BK122.out 0).trans rfl; have hcz13_1 : w11.cell? ⟨gb122, 1, none⟩ = some (.int .i64 ((rd_T45 l1 x14_1).f1)) := (blk_cell BK122.out 1).trans rfl; have hcz13_2 : w11.cell? ⟨gb122, 2, none⟩ = some (.string ((rd_T45 l1 x14_1).f2)) := (blk_cell BK122.out 2).trans rfl; have hcz13_3 : w11.cell? ⟨gb122, 3, none⟩ = some (.slice A121_3 ((rd_T45 l1 x14_1).f3).length c121_3) := (blk_cell BK122.out 3).trans rfl; have hfz13_0 := blk_frozen BK122.out 0; have hfz13_1 := blk_frozen BK122.out 1; have hfz13_2 := blk_frozen BK122.out 2; have hfz13_3 := blk_frozen BK122.out 3))
      go_loopg [25] k1 (fun kq v25 w' => ∃ (x9_2 : List Int) (x25_2 : Int), v25 = .int .i64 x25_2 ∧ Aside0 (expr_join.l1 kq x0_1 a2 x9_2 l1 (l1.length : Int) x14_1 ((rd_T45 l1 x14_1).f3) (((rd_T45 l1 x14_1).f3).length : Int) x25_2 ((rd_T45 l1 x14_1).f0) ((rd_T45 l1 x14_1).f1) ((rd_T45 l1 x14_1).f2) ((rd_T45 l1 x14_1).f3) = some r) ∧ Aside0 (kq ≤ k1) ∧ Aside0 (Kd.S k45 45 w' w0.heap.size (fun k_ => (P0_ k_ ∨ w.heap.size ≤ k_) ∧ some k_ ≠ (v124 : Value).ownBlock ∧ k_ ≠ gb122) u0 x0_1) ∧ Aside0 (Kd.R (Kd.int .i64) 3 w' w0.heap.size (fun k_ => (P0_ k_ ∨ w.heap.size ≤ k_)) v124 x9_2) ∧ Aside0 (w'.heap[gb122]? = some (.cells #[.int .i64 ((rd_T45 l1 x14_1).f0), .int .i64 ((rd_T45 l1 x14_1).f1), .string ((rd_T45 l1 x14_1).f2), (.slice A121_3 ((rd_T45 l1 x14_1).f3).length c121_3)] 45 (0, 0))) ∧ Aside0 (Kept w w' (fun k_ => P0_ k_)) ∧ Aside0 (Below w0.heap.size w0 w'))
      case atStart => exact ⟨(y123), (0), (by first | rfl | (simp; done) | (simp [*]; done)), H', ⟨Nat.le_refl _⟩, ⟨by (with_reducible repeat (first | apply Kd.S_alloc | apply Kd.S_drewN | apply Kd.S_drew)); exact Kd.S_mono HO_0.out (fun _ hk => ⟨hk.1.1, ⟨hk.2, hk.1.2⟩⟩)⟩, ⟨by (with_reducible repeat (first | apply Kd.R_alloc | apply Kd.R_drewN | apply Kd.R_drew)); exact Kd.R_mono HO125.out (fun _ hk => hk.1)⟩, ⟨by (with_reducible repeat (first | refine blk_drewN ?_ _ | refine blk_drew ?_ | refine blk_alloc ?_ _)); exact BK122.out⟩, ⟨by repeat (first | (with_reducible first | exact HK.out | apply Kept.alloc | apply Kept.drewN | apply Kept.drew | refine Kept.setCell ?_ (.inr GW122.out) _) | exact HK.out)⟩, ⟨by repeat (first | (with_reducible first | exact HB.out | apply below_alloc | apply pw_below_drewN | apply below_drew1 | refine below_set ?_ GE122.out) | exact HB.out)⟩⟩
      case round =>
        clear H'
        try clear c1
        try clear p1
        try clear q1
        try clear hx1
        try clear p2
        try clear c4
        try clear c4b0
        try clear c5
        try clear c5b0
        try clear c6
        try clear c6b0
        try clear c7
        try clear c7b0
        try clear c7b1
        try clear c8
        try clear c8b0
        try clear c8b1
        try clear c12
        try clear p12
        try clear q12
        try clear hx12
        try clear hcz10_0
        try clear hcz10_1
        try clear hcz10_2
        try clear hcz10_3
        try clear hcz13_0
        try clear hcz13_1
        try clear hcz13_2
        try clear hcz13_3
        try clear hfz10_0
        try clear hfz10_1
        try clear hfz10_2
        try clear hfz10_3
        try clear hfz13_0
        try clear hfz13_1
        try clear hfz13_2
        try clear hfz13_3
        try clear hx121_0
        try clear hx121_1
        try clear hx121_2
        try clear hx121_3
        try clear p121
        try clear p2
        try clear q121
        obtain ⟨x9_2, x25_2, rfl, HA, HK2, HO_0, HO_9, BK122, HK, HB⟩ := hrel
        cases gk with
        | zero => exact absurd HA.out (by simp [expr_join.l1])
        | succ k2 =>
          have H := HA.out
          clear HA
          simp only [expr_join.l1] at H
          by_cases c14 : x25_2 < (((rd_T45 l1 x14_1).f3).length : Int)
          rotate_left
          · rw [if_neg c14] at H
            have c14b0 : decide (x25_2 < (((rd_T45 l1 x14_1).f3).length : Int)) = false := decide_eq_false c14
            clear c14
            by_cases c21 : x0_1.length < 2513169434916
            rotate_left
            · rw [if_neg c21] at H
              exact absurd H (by simp)
            rw [if_pos c21] at H
            have LMc21 := am c21
            clear c21
            obtain ⟨y128, hy128⟩ : ∃ y_ : List (S45), y_ = (x0_1 ++ [(⟨((rd_T45 l1 x14_1).f0), ((rd_T45 l1 x14_1).f1), ((rd_T45 l1 x14_1).f2), x9_2⟩ : S45)]) := ⟨_, rfl⟩
            replace H : (expr_join.l0 k2 y128 a2 l1 (l1.length : Int) (wrap64 (x14_1 + 1))) = some r := by first | (rw [hy128]; with_reducible exact H) | (have H2_ := (Option.bind_some _ _).symm.trans H; rw [hy128]; with_reducible exact H2_) | (have H2_ := (Option.bind_some _ _).symm.trans H; with_reducible exact H2_) | with_reducible exact H | (rw [hy128]; exact H) | exact H
            have Ny128 := am hy128
            clear hy128
            have H' := am H
            clear H
            obtain ⟨Ao22, co22, eo22⟩ := Kd.R_slice HO_9.out
            subst eo22
            have hcz23_0 : wr.cell? ⟨gb122, 0, none⟩ = some (.int .i64 ((rd_T45 l1 x14_1).f0)) := (blk_cell BK122.out 0).trans rfl
            have hcz23_1 : wr.cell? ⟨gb122, 1, none⟩ = some (.int .i64 ((rd_T45 l1 x14_1).f1)) := (blk_cell BK122.out 1).trans rfl
            have hcz23_2 : wr.cell? ⟨gb122, 2, none⟩ = some (.string ((rd_T45 l1 x14_1).f2)) := (blk_cell BK122.out 2).trans rfl
            have hcz23_3 : wr.cell? ⟨gb122, 3, none⟩ = some (.slice A121_3 ((rd_T45 l1 x14_1).f3).length c121_3) := (blk_cell BK122.out 3).trans rfl
            have hfz23_0 := blk_frozen BK122.out 0
            have hfz23_1 := blk_frozen BK122.out 1
            have hfz23_2 := blk_frozen BK122.out 2
            have hfz23_3 := blk_frozen BK122.out 3
            go_wp2_with (first | ((with_reducible refine gate_store (t := 43) (p := 38) rfl ?_); refine store_event (t := 43) (p := 38) (v := ?vo_w24) (w1 := (wr.setCell ⟨gb122, 3, none⟩ (.slice Ao22 x9_2.length co22))) ?hg ?ho ?hn ?hr ?_; (case ho => rfl); (case hg => rfl); (case hn => rfl); (case hr => first | (go_simp; done) | (go_simp; rfl)); intro w24 hw; have n0_ : Aside0 (Kd.S k45 45 w24 w0.heap.size (fun k_ => (P0_ k_ ∨ w.heap.size ≤ k_) ∧ some k_ ≠ (.slice Ao22 x9_2.length co22 : Value).ownBlock ∧ k_ ≠ gb122) u0 x0_1) := ⟨(by rw [hw]; exact (by (with_reducible repeat (first | apply Kd.S_alloc | apply Kd.S_drewN | apply Kd.S_drew)); exact Kd.S_mono (Kd.S_far (p := ⟨gb122, 3, none⟩) (Kd.S_mono HO_0.out (fun k_ hk => (⟨hk, hk.2.2⟩ : _ ∧ k_ ≠ gb122))) (fun _ hk => hk.2) (.slice Ao22 x9_2.length co22)) (fun _ hk => ⟨hk.1.1, ⟨hk.1.2.1, hk.1.2.2⟩⟩)))⟩; have n1_ : Aside0 (Kd.R (Kd.int .i64) 3 w24 w0.heap.size (fun k_ => (P0_ k_ ∨ w.heap.size ≤ k_)) (.slice Ao22 x9_2.length co22) x9_2) := ⟨(by rw [hw]; exact (by (with_reducible repeat (first | apply Kd.R_alloc | apply Kd.R_drewN | apply Kd.R_drew)); exact Kd.R_mono (Kd.R_far (p := ⟨gb122, 3, none⟩) (Kd.R_types HO_9.out BK122.out (by decide)) (fun _ hk => hk.2) (.slice Ao22 x9_2.length co22)) (fun _ hk => hk.1)))⟩; have n2_ : Aside0 (w24.heap[gb122]? = some (.cells #[.int .i64 ((rd_T45 l1 x14_1).f0), .int .i64 ((rd_T45 l1 x14_1).f1), .string ((rd_T45 l1 x14_1).f2), .slice Ao22 x9_2.length co22] 45 (0, 0))) := ⟨(by rw [hw]; exact (by (with_reducible repeat (first | refine blk_drewN ?_ _ | refine blk_drew ?_ | refine blk_alloc ?_ _)); refine blk_put (cs := #[.int .i64 ((rd_T45 l1 x14_1).f0), .int .i64 ((rd_T45 l1 x14_1).f1), .string ((rd_T45 l1 x14_1).f2), .slice A121_3 ((rd_T45 l1 x14_1).f3).length c121_3]) ?_ 3 _ rfl; (with_reducible repeat (first | refine blk_drewN ?_ _ | refine blk_drew ?_ | refine blk_alloc ?_ _)); exact BK122.out))⟩; have n3_ : Aside0 (Kept w w24 (fun k_ => P0_ k_)) := ⟨(by rw [hw]; exact (by repeat (first | (with_reducible first | exact HK.out | apply Kept.alloc | apply Kept.drewN | apply Kept.drew | refine Kept.setCell ?_ (.inr GW122.out) _) | exact HK.out)))⟩; have n4_ : Aside0 (Below w0.heap.size w0 w24) := ⟨(by rw [hw]; exact (by repeat (first | (with_reducible first | exact HB.out | apply below_alloc | apply pw_below_drewN | apply below_drew1 | refine below_set ?_ GE122.out) | exact HB.out)))⟩; clear hw; clear HO_0; clear HO_9; clear BK122; clear HK; clear HB; have HO_0 := n0_; have HO_9 := n1_; have BK122 := n2_; have HK := n3_; have HB := n4_; clear n0_ n1_ n2_ n3_ n4_; have hcz25_0 : w24.cell? ⟨gb122, 0, none⟩ = some (.int .i64 ((rd_T45 l1 x14_1).f0)) := (blk_cell BK122.out 0).trans rfl; have hcz25_1 : w24.cell? ⟨gb122, 1, none⟩ = some (.int .i64 ((rd_T45 l1 x14_1).f1)) := (blk_cell BK122.out 1).trans rfl; have hcz25_2 : w24.cell? ⟨gb122, 2, none⟩ = some (.string ((rd_T45 l1 x14_1).f2)) := (blk_cell BK122.out 2).trans rfl; have hcz25_3 : w24.cell? ⟨gb122, 3, none⟩ = some (.slice Ao22 x9_2.length co22) := (blk_cell BK122.out 3).trans rfl; have hfz25_0 := blk_frozen BK122.out 0; have hfz25_1 := blk_frozen BK122.out 1; have hfz25_2 := blk_frozen BK122.out 2; have hfz25_3 := blk_frozen BK122.out 3) | ((with_reducible refine gate_builtin (b := .append) (xs := #[.tmp 39, .tmp 41]) rfl ?_); at_builtin; refine Kd.S_append k45 (w0 := w0) w0.heap.size rfl (.tmp 39) (.tmp 41) 30 45 (.agg #[(.int .i64 0), (.int .i64 0), (.string ⟨#[]⟩), (.slice none 0 0)]) 56 rfl Tryd.underlying30 info45 rfl (by decide) (by omega) u0 x0_1 (⟨((rd_T45 l1 x14_1).f0), ((rd_T45 l1 x14_1).f1), ((rd_T45 l1 x14_1).f2), x9_2⟩ : S45) [.int .i64 ((rd_T45 l1 x14_1).f0), .int .i64 ((rd_T45 l1 x14_1).f1), .string ((rd_T45 l1 x14_1).f2), .slice Ao22 x9_2.length co22] (fun k_ => (P0_ k_ ∨ w.heap.size ≤ k_) ∧ k_ ≠ gb122) (fun k_ => some k_ = (.slice Ao22 x9_2.length co22 : Value).ownBlock) rfl rfl ?aP (fun k_ hk_ => ((Kd.R_mono (ok' := fun k_ => ((fun k_ => (P0_ k_ ∨ w.heap.size ≤ k_) ∧ k_ ≠ gb122)) k_ ∧ some k_ ≠ (u0 : Value).ownBlock) (Kd.R_types (Kd.R_apart' (HO_9.out) (Kd.S_typed HO_0.out) (by decide)) BK122.out (by decide)) (fun k_ hk => ⟨⟨hk.1.1, hk.2⟩, hk.1.2⟩))).1 k_ hk_.symm) ?aF ?aO ?aB ?aS ?aL ?_; (case aP => exact k45_mkM _ _ _ (⟨((rd_T45 l1 x14_1).f0), ((rd_T45 l1 x14_1).f1), ((rd_T45 l1 x14_1).f2), x9_2⟩ : S45) (Kd.R_mono (Kd.R_tight rfl (Kd.R_mono (ok' := fun k_ => ((fun k_ => (P0_ k_ ∨ w.heap.size ≤ k_) ∧ k_ ≠ gb122)) k_ ∧ some k_ ≠ (u0 : Value).ownBlock) (Kd.R_types (Kd.R_apart' (HO_9.out) (Kd.S_typed HO_0.out) (by decide)) BK122.out (by decide)) (fun k_ hk => ⟨⟨hk.1.1, hk.2⟩, hk.1.2⟩))) (fun _ h_ => h_))); (case aB => exact (by repeat (first | (with_reducible first | exact HB.out | apply below_alloc | apply pw_below_drewN | apply below_drew1 | refine below_set ?_ GE122.out) | exact HB.out))); (case aF => exact (fun k_ hk => ⟨(.inr (Nat.le_trans (by first | exact HK.out.1 | exact (show Kept w _ (fun k_ => P0_ k_) from by repeat (first | (with_reducible first | exact HK.out | apply Kept.alloc | apply Kept.drewN | apply Kept.drew | refine Kept.setCell ?_ (.inr GW122.out) _) | exact HK.out)).1) hk)), Kd.freshB (g := gb122) (o := .cells #[.int .i64 ((rd_T45 l1 x14_1).f0), .int .i64 ((rd_T45 l1 x14_1).f1), .string ((rd_T45 l1 x14_1).f2), .slice Ao22 x9_2.length co22] 45 (0, 0)) (by (with_reducible repeat (first | refine blk_drewN ?_ _ | refine blk_drew ?_ | refine blk_alloc ?_ _)); exact BK122.out) k_ hk⟩)); (case aO => exact (by (with_reducible repeat (first | apply Kd.S_alloc | apply Kd.S_drewN | apply Kd.S_drew)); exact Kd.S_mono HO_0.out (fun k_ hk => ⟨⟨hk.1, hk.2.2⟩, fun e_ => hk.2.1 e_⟩))); (case aS => exact (below_size (by repeat (first | (with_reducible first | exact HB.out | apply below_alloc | apply pw_below_drewN | apply below_drew1 | refine below_set ?_ GE122.out) | exact HB.out)))); (case aL => have := LMc21.out; omega); intro v129 w26 ho hb hg hat; rw [← Ny128.out] at ho; have n0_ := am (blk_grown (g := gb122) (o := .cells #[.int .i64 ((rd_T45 l1 x14_1).f0), .int .i64 ((rd_T45 l1 x14_1).f1), .string ((rd_T45 l1 x14_1).f2), .slice Ao22 x9_2.length co22] 45 (0, 0)) (by (with_reducible repeat (first | refine blk_drewN ?_ _ | refine blk_drew ?_ | refine blk_alloc ?_ _)); exact BK122.out) hg (Kd.S_away HO_0.out (fun _ hk => hk.2.2))); have n1_ := am (hb); have n2_ := am (Kept.of_grown (S := (fun k_ => P0_ k_)) hg (by repeat (first | (with_reducible first | exact HK.out | apply Kept.alloc | apply Kept.drewN | apply Kept.drew | refine Kept.setCell ?_ (.inr GW122.out) _) | exact HK.out)) (fun k_ e_ => ((Kd.S_R HO_0.out).1 k_ e_).1)); have n3_ := am (ho); clear BK122; clear HB; clear HK; clear HO_0; clear HO_9; have BK122 := n0_; have HB := n1_; have HK := n2_; have HO130 := n3_; clear n0_ n1_ n2_ n3_; clear ho hb hg hat))
            go_roundg k2
            case measure => have := HK1.out; have := HK2.out; omega
            case rel => exact ⟨(y128), (wrap64 (x14_1 + 1)), (by first | rfl | (simp; done) | (simp [*]; done)), H', ⟨by have := HK1.out; have := HK2.out; omega⟩, ⟨by (with_reducible repeat (first | apply Kd.S_alloc | apply Kd.S_drewN | apply Kd.S_drew)); exact Kd.S_mono HO130.out (fun _ hk => hk.1)⟩, ⟨by repeat (first | (with_reducible first | exact HK.out | apply Kept.alloc | apply Kept.drewN | apply Kept.drew | refine Kept.setCell ?_ (.inr GW122.out) _) | exact HK.out)⟩, ⟨by repeat (first | (with_reducible first | exact HB.out | apply below_alloc | apply pw_below_drewN | apply below_drew1 | refine below_set ?_ GE122.out) | exact HB.out)⟩⟩
          rw [if_pos c14] at H
          have c14b0 : decide (x25_2 < (((rd_T45 l1 x14_1).f3).length : Int)) = true := decide_eq_true c14
          clear c14
          by_cases c15 : 0 ≤ x25_2
          rotate_left
          · rw [if_neg c15] at H
            exact absurd H (by simp)
          rw [if_pos c15] at H
          have c15b0 : decide (0 ≤ x25_2) = true := decide_eq_true c15
          clear c15
          by_cases c16 : x25_2 < (((rd_T45 l1 x14_1).f3).length : Int)
          rotate_left
          · rw [if_neg c16] at H
            exact absurd H (by simp)
          rw [if_pos c16] at H
          have c16b0 : decide (x25_2 < (((rd_T45 l1 x14_1).f3).length : Int)) = true := decide_eq_true c16
          clear c16
          by_cases c17 : x25_2 < (x9_2.length : Int)
          rotate_left
          · rw [if_neg c17] at H
            exact absurd H (by simp)
          rw [if_pos c17] at H
          have c17b0 : decide (x25_2 < (x9_2.length : Int)) = true := decide_eq_true c17
          clear c17
          obtain ⟨y127, hy127⟩ : ∃ y_ : List Int, y_ = (x9_2.set (x25_2 : Int).toNat (wrap64 ((rd ((rd_T45 l1 x14_1).f3) x25_2) + a2))) := ⟨_, rfl⟩
          replace H : (expr_join.l1 k2 x0_1 a2 y127 l1 (l1.length : Int) x14_1 ((rd_T45 l1 x14_1).f3) (((rd_T45 l1 x14_1).f3).length : Int) (wrap64 (x25_2 + 1)) ((rd_T45 l1 x14_1).f0) ((rd_T45 l1 x14_1).f1) ((rd_T45 l1 x14_1).f2) ((rd_T45 l1 x14_1).f3)) = some r := by first | (rw [hy127]; with_reducible exact H) | (have H2_ := (Option.bind_some _ _).symm.trans H; rw [hy127]; with_reducible exact H2_) | (have H2_ := (Option.bind_some _ _).symm.trans H; with_reducible exact H2_) | with_reducible exact H | (rw [hy127]; exact H) | exact H
          have Ny127 := am hy127
          clear hy127
          have H' := am H
          clear H
          have p126 : 0 ≤ (x25_2 : Int) := of_decide_eq_true (by first | (with_reducible assumption) | assumption)
          have q126 : x25_2 < (((rd_T45 l1 x14_1).f3).length : Int) := of_decide_eq_true (by first | (with_reducible assumption) | assumption)
          obtain ⟨ad126, e126, hx126_0⟩ := Kd.at_int HR121_3.out x25_2 p126 q126
          cases e126
          replace hx126_0 := (HB.out.cell (World.block_lt_of_cell? w0 _ hx126_0)).trans hx126_0
          replace p126 := eq_true p126
          replace q126 := eq_true q126
          have p18 : 0 ≤ (x25_2 : Int) := of_decide_eq_true (by first | (with_reducible assumption) | assumption)
          have q18 : (x25_2 : Int) < ((x9_2.length : Int) : Int) := of_decide_eq_true (by first | (with_reducible assumption) | assumption)
          obtain ⟨go18, co18, eo18, gb18, gl18, cl18, HG18⟩ := Kd.R_form HO_9.out (by omega)
          (first | cases eo18 | (injection eo18 with ea_ en_ ec_; (first | subst ea_ | (injection ea_ with ea_; subst ea_)); subst ec_; clear en_))
          have GB18 := am gb18
          have GG18 := am HG18
          clear gb18 gl18 HG18
          have HMgo18 := am (show (P0_ go18 ∨ w.heap.size ≤ go18) from (HO_9.out.1 _ rfl))
          obtain ⟨hx18_0, hf18_0⟩ := Kd.R_celln 0 HO_9.out (x25_2 : Int) p18 q18
          replace p18 := eq_true p18
          replace q18 := eq_true q18
          have HP19 := Kd.R_putg HO_9.out (x25_2 : Int) (wrap64 ((rd ((rd_T45 l1 x14_1).f3) x25_2) + a2))
          go_wp2_with (first | ((with_reducible refine gate_store (t := 3) (p := 35) rfl ?_); refine store_event (t := 3) (p := 35) (v := ?vo_w20) (w1 := (wr.setCell ⟨go18, (x25_2 : Int).toNat, none⟩ (.int .i64 (wrap64 ((rd ((rd_T45 l1 x14_1).f3) x25_2) + a2))))) ?hg ?ho ?hn ?hr ?_; (case ho => rfl); (case hg => rfl); (case hn => rfl); (case hr => first | (go_simp; done) | (go_simp; rfl)); intro w20 hw; have hg : wr.grownBy w20 (some go18) := (by rw [hw]; exact HP19.2); have hp_ : Kd.R (Kd.int .i64) 3 w20 w0.heap.size (fun k_ => (P0_ k_ ∨ w.heap.size ≤ k_)) (.slice (some ⟨go18, 0, none⟩) x9_2.length co18) y127 := (by rw [hw, Ny127.out]; exact HP19.1); clear HP19; have n0_ := am (Kd.S_after (v := (.slice (some ⟨go18, 0, none⟩) x9_2.length co18)) (v1 := (.slice (some ⟨go18, 0, none⟩) x9_2.length co18)) (ok := (fun k_ => (P0_ k_ ∨ w.heap.size ≤ k_) ∧ k_ ≠ gb122)) (by (with_reducible repeat (first | apply Kd.S_alloc | apply Kd.S_drewN | apply Kd.S_drew)); exact Kd.S_mono HO_0.out (fun _ hk => ⟨⟨hk.1, hk.2.2⟩, hk.2.1⟩)) hg (.inl rfl)); have n1_ := am (hp_); have n2_ := am (blk_grown (g := gb122) (o := .cells #[.int .i64 ((rd_T45 l1 x14_1).f0), .int .i64 ((rd_T45 l1 x14_1).f1), .string ((rd_T45 l1 x14_1).f2), .slice (some ad126) ((rd_T45 l1 x14_1).f3).length c121_3] 45 (0, 0)) (by (with_reducible repeat (first | refine blk_drewN ?_ _ | refine blk_drew ?_ | refine blk_alloc ?_ _)); exact BK122.out) hg (Kd.R_ne HO_9.out BK122.out (by decide))); have n3_ := am ((by rw [hw]; exact below_set (HB.out) GB18.out : Below w0.heap.size w0 w20)); have n4_ := am (Kept.of_grown (S := (fun k_ => P0_ k_)) hg (by repeat (first | (with_reducible first | exact HK.out | apply Kept.alloc | apply Kept.drewN | apply Kept.drew | refine Kept.setCell ?_ (.inr GW122.out) _) | exact HK.out)) (fun k_ e_ => (HO_9.out.1 k_ e_))); clear HO_0; clear HO_9; clear BK122; clear HB; clear HK; have HO_0 := n0_; have HO_9 := n1_; have BK122 := n2_; have HB := n3_; have HK := n4_; clear n0_ n1_ n2_ n3_ n4_; clear hg hw hp_))
          go_roundg k2
          case measure => have := HK1.out; have := HK2.out; omega
          case rel => exact ⟨(y127), (wrap64 (x25_2 + 1)), (by first | rfl | (simp; done) | (simp [*]; done)), H', ⟨by have := HK1.out; have := HK2.out; omega⟩, ⟨by (with_reducible repeat (first | apply Kd.S_alloc | apply Kd.S_drewN | apply Kd.S_drew)); exact Kd.S_mono HO_0.out (fun _ hk => ⟨hk.1.1, ⟨hk.2, hk.1.2⟩⟩)⟩, ⟨by (with_reducible repeat (first | apply Kd.R_alloc | apply Kd.R_drewN | apply Kd.R_drew)); exact HO_9.out⟩, ⟨by (with_reducible repeat (first | refine blk_drewN ?_ _ | refine blk_drew ?_ | refine blk_alloc ?_ _)); exact BK122.out⟩, ⟨by repeat (first | (with_reducible first | exact HK.out | apply Kept.alloc | apply Kept.drewN | apply Kept.drew | refine Kept.setCell ?_ (.inr GW122.out) _) | exact HK.out)⟩, ⟨by repeat (first | (with_reducible first | exact HB.out | apply below_alloc | apply pw_below_drewN | apply below_drew1 | refine below_set ?_ GE122.out) | exact HB.out)⟩⟩
end Go.Proofs.YtacjjfoelhckcaaDoor.PExprPlays
