/- Contracts of functions, printed by the session's own changed copy of the print generator (see its notes); the plain functions tell what the calls answer. -/
import Derived.Test.YtacjjfoelhckcaaDoorPExprPlaysx0
import Derived.Test.YtacjjfoelhckcaaDoorPExprPlaysx4
import Derived.Test.YtacjjfoelhckcaaDoorPExprPlaysx5
import Derived.Test.YtacjjfoelhckcaaDoorPExprPlaysx8
namespace Go.Proofs.YtacjjfoelhckcaaDoor.PExprPlays
open Go.RowKit Go.Proofs.YtacjjfoelhckcaaDoorW.PrintWords Go.Proofs.YtacjjfoelhckcaaDoorW.PrintLast Go.Proofs.YtacjjfoelhckcaaDoorW.PrintMore
attribute [local go_sem] max2_int min2_int max_two min_two max_three min_three max_four min_four   -- for this text's walks alone
set_option linter.unusedVariables false
set_option linter.unusedSimpArgs false
/-! ### sorrelref02_Joined: function 79 -/
def sorrelref02_Joined.l0 : Nat → List (List (S45)) → List (S45) → List Int → Int → Int → Int → ByteArray → List Int → Option ((List (S45)))
  | 0, _, _, _, _, _, _, _, _ => none
  | k + 1, x1, x5, x6, x7, x270000, x270001, x270002, x270003 => if x7 < (x1.length : Int) then (if 0 ≤ x7 then ((sorrelref02_behind.f k x5 (rd_L4 x1 x7)).bind fun t271 => (if x6.length < 17592186044416 then (sorrelref02_Joined.l0 k x1 t271 (x6 ++ [wrap64 ((t271.length : Int) - 1)]) (wrap64 (x7 + 1)) x270000 x270001 x270002 x270003) else (none))) else (none)) else (if x5.length < 2513169434916 then (some (x5 ++ [(⟨x270000, x270001, x270002, x6⟩ : S45)])) else (none))
def sorrelref02_Joined.f (k : Nat) (a0_0 : Int) (a0_1 : Int) (a0_2 : ByteArray) (l0_3 : List Int) (l1 : List (List (S45))) : Option ((List (S45))) := sorrelref02_Joined.l0 k l1 ([] : List (S45)) ([] : List Int) 0 a0_0 a0_1 a0_2 l0_3
theorem sorrelref02_Joined.mono_l : ∀ k, (∀ y0 y1 y2 y3 y4 y5 y6 y7, LeO (sorrelref02_Joined.l0 k y0 y1 y2 y3 y4 y5 y6 y7) (sorrelref02_Joined.l0 (k + 1) y0 y1 y2 y3 y4 y5 y6 y7))
  | 0 => fun _ _ _ _ _ _ _ _ r h => by simp [sorrelref02_Joined.l0] at h
  | k + 1 => by
    have ih0 := sorrelref02_Joined.mono_l k
    intro y0 y1 y2 y3 y4 y5 y6 y7
    unfold sorrelref02_Joined.l0
    repeat' first
    | (with_reducible exact ih0 _ _ _ _ _ _ _ _)
    | (with_reducible exact sorrelref02_behind.mono _ _ _)
    | (with_reducible exact LeO.refl _)
    | (with_reducible exact LeO.none _)
    | (with_reducible refine LeO.ite ?_ ?_)
    | (with_reducible refine LeO.bind ?_ (fun _ => ?_))
    | exact ih0 _ _ _ _ _ _ _ _
    | exact sorrelref02_behind.mono _ _ _
    | exact LeO.none _
    | refine LeO.ite ?_ ?_
    | refine LeO.bind ?_ (fun _ => ?_)
theorem sorrelref02_Joined.mono : ∀ a0 a1 a2 a3 a4 k, LeO (sorrelref02_Joined.f k a0 a1 a2 a3 a4) (sorrelref02_Joined.f (k + 1) a0 a1 a2 a3 a4) := by
  intro a0 a1 a2 a3 a4 k
  have ih0 := sorrelref02_Joined.mono_l k
  unfold sorrelref02_Joined.f
  repeat' first
      | (with_reducible exact ih0 _ _ _ _ _ _ _ _)
      | (with_reducible exact sorrelref02_behind.mono _ _ _)
      | (with_reducible exact LeO.refl _)
      | (with_reducible exact LeO.none _)
      | (with_reducible refine LeO.ite ?_ ?_)
      | (with_reducible refine LeO.bind ?_ (fun _ => ?_))
      | exact ih0 _ _ _ _ _ _ _ _
      | exact sorrelref02_behind.mono _ _ _
      | exact LeO.none _
      | refine LeO.ite ?_ ?_
      | refine LeO.bind ?_ (fun _ => ?_)
set_option maxHeartbeats 8000000 in
set_option maxRecDepth 100000 in
theorem sorrelref02_Joined.calls (k : Nat) (a0_0 : Int) (a0_1 : Int) (a0_2 : ByteArray) (A0_3 : Option Addr) (c0_3 : Nat) (l0_3 : List Int) (A1 : Option Addr) (c1 : Nat) (l1 : List (List (S45))) (r : List (S45)) (w : World) (hr0_3 : Kd.C (Kd.int .i64) w A0_3 l0_3.length l0_3) (hc0_3 : l0_3.length ≤ c0_3) (hr1 : Kd.C (Kd.slice 45 k45) w A1 l1.length l1) (hc1 : l1.length ≤ c1) (h : sorrelref02_Joined.f k a0_0 a0_1 a0_2 l0_3 l1 = some r) :
    Calls Tryd.prog 79 #[.agg #[.int .i64 a0_0, .int .i64 a0_1, .string a0_2, .slice A0_3 l0_3.length c0_3], .slice A1 l1.length c1] w fun e w' => ∃ v0_ : Value, e = .returned (v0_) ∧ Kd.S k45 45 w' w.heap.size (fun _ => True) v0_ r ∧ Below w.heap.size w w' := by
  have hu45 := Tryd.underlying45
  have HR0_3 := am hr0_3
  have HC0_3 := am hc0_3
  clear hr0_3 hc0_3
  have HR1 := am hr1
  have HC1 := am hc1
  clear hr1 hc1
  have HB := am (Below.refl w.heap.size w)
  have H : (sorrelref02_Joined.l0 k l1 ([] : List (S45)) ([] : List Int) 0 a0_0 a0_1 a0_2 l0_3) = some r := h
  clear h
  have H' := am H
  clear H
  go_enter Tryd.func79, Tryd.ntmps79
  go_wp2_with (first | ((with_reducible refine gate_dst (N := 2) rfl ?_); refine box_event ?hg (N := 2) ?hd (cs := #[.int .i64 a0_0, .int .i64 a0_1, .string a0_2, .slice A0_3 l0_3.length c0_3]) (t := 45) ?hr ?_; (case hd => rfl); (case hg => rfl); (case hr => first | (go_simp; done) | (go_simp; rfl)); intro gb269 hg w3 hbox hb; have n0_ := am (below_step (by repeat (first | (with_reducible first | exact HB.out | apply below_alloc | apply pw_below_drewN | apply below_drew1) | exact HB.out)) hb); have n1_ := am (hbox); have n2_ := am ((by rw [hg]; exact (below_size (by repeat (first | (with_reducible first | exact HB.out | apply below_alloc | apply pw_below_drewN | apply below_drew1) | exact HB.out))) : w.heap.size ≤ gb269)); have n3_ := am ((by rw [hg]; exact (below_size (by repeat (first | (with_reducible first | exact HB.out | apply below_alloc | apply pw_below_drewN | apply below_drew1) | exact HB.out))) : w.heap.size ≤ gb269)); clear HB; have HB := n0_; have BK269 := n1_; have GW269 := n2_; have GE269 := n3_; clear n0_ n1_ n2_ n3_; clear hb hbox hg))
  go_loopg [5, 6, 7] k (fun kq v5 v6 v7 w' => ∃ (x5_1 : List (S45)) (x6_1 : List Int) (x7_1 : Int), v7 = .int .i64 x7_1 ∧ Aside0 (sorrelref02_Joined.l0 kq l1 x5_1 x6_1 x7_1 a0_0 a0_1 a0_2 l0_3 = some r) ∧ Aside0 (kq ≤ k) ∧ Aside0 (Kd.S k45 45 w' w.heap.size (fun k_ => some k_ ≠ (v6 : Value).ownBlock ∧ k_ ≠ gb269) v5 x5_1) ∧ Aside0 (Kd.R (Kd.int .i64) 3 w' w.heap.size (fun _ => True) v6 x6_1) ∧ Aside0 (w'.heap[gb269]? = some (.cells #[.int .i64 a0_0, .int .i64 a0_1, .string a0_2, (.slice A0_3 l0_3.length c0_3)] 45 (0, 0))) ∧ Aside0 (Below w.heap.size w w'))
  case atStart => exact ⟨(([] : List (S45))), (([] : List Int)), (0), (by first | rfl | (simp; done) | (simp [*]; done)), H', ⟨Nat.le_refl _⟩, ⟨by first | exact Kd.S_nil _ _ _ _ _ | exact Kd.N_nil _ _ _ _ _ | exact Kd.V_nil _ _ _ _ _ | exact Kd.Q_nil _ _ _ _ _ | exact Kd.R_nil _ _ _ _ _⟩, ⟨by first | exact Kd.R_nil _ _ _ _ _ | exact Kd.N_nil _ _ _ _ _ | exact Kd.V_nil _ _ _ _ _ | exact Kd.Q_nil _ _ _ _ _ | exact Kd.S_nil _ _ _ _ _⟩, ⟨by (with_reducible repeat (first | refine blk_drewN ?_ _ | refine blk_drew ?_ | refine blk_alloc ?_ _)); exact BK269.out⟩, ⟨by repeat (first | (with_reducible first | exact HB.out | apply below_alloc | apply pw_below_drewN | apply below_drew1 | refine below_set ?_ GE269.out) | exact HB.out)⟩⟩
  case round =>
    clear H'
    try clear c1
    try clear p2
    obtain ⟨x5_1, x6_1, x7_1, rfl, HA, HK1, HO_5, HO_6, BK269, HB⟩ := hrel
    cases gk with
    | zero => exact absurd HA.out (by simp [sorrelref02_Joined.l0])
    | succ k1 =>
      have H := HA.out
      clear HA
      simp only [sorrelref02_Joined.l0] at H
      by_cases c4 : x7_1 < (l1.length : Int)
      rotate_left
      · rw [if_neg c4] at H
        have c4b0 : decide (x7_1 < (l1.length : Int)) = false := decide_eq_false c4
        clear c4
        by_cases c12 : x5_1.length < 2513169434916
        rotate_left
        · rw [if_neg c12] at H
          exact absurd H (by simp)
        rw [if_pos c12] at H
        have LMc12 := am c12
        clear c12
        obtain ⟨y277, hy277⟩ : ∃ y_ : List (S45), y_ = (x5_1 ++ [(⟨a0_0, a0_1, a0_2, x6_1⟩ : S45)]) := ⟨_, rfl⟩
        replace H : (some y277) = some r := by first | (rw [hy277]; with_reducible exact H) | (have H2_ := (Option.bind_some _ _).symm.trans H; rw [hy277]; with_reducible exact H2_) | (have H2_ := (Option.bind_some _ _).symm.trans H; with_reducible exact H2_) | with_reducible exact H | (rw [hy277]; exact H) | exact H
        have Ny277 := am hy277
        clear hy277
        obtain rfl := Option.some.inj H
        obtain ⟨Ao13, co13, eo13⟩ := Kd.R_slice HO_6.out
        subst eo13
        have hcz14_0 : wr.cell? ⟨gb269, 0, none⟩ = some (.int .i64 a0_0) := (blk_cell BK269.out 0).trans rfl
        have hcz14_1 : wr.cell? ⟨gb269, 1, none⟩ = some (.int .i64 a0_1) := (blk_cell BK269.out 1).trans rfl
        have hcz14_2 : wr.cell? ⟨gb269, 2, none⟩ = some (.string a0_2) := (blk_cell BK269.out 2).trans rfl
        have hcz14_3 : wr.cell? ⟨gb269, 3, none⟩ = some (.slice A0_3 l0_3.length c0_3) := (blk_cell BK269.out 3).trans rfl
        have hfz14_0 := blk_frozen BK269.out 0
        have hfz14_1 := blk_frozen BK269.out 1
        have hfz14_2 := blk_frozen BK269.out 2
        have hfz14_3 := blk_frozen BK269.out 3
        go_wp2_with (first | ((with_reducible refine gate_store (t := 43) (p := 27) rfl ?_); refine store_event (t := 43) (p := 27) (v := ?vo_w15) (w1 := (wr.setCell ⟨gb269, 3, none⟩ (.slice Ao13 x6_1.length co13))) ?hg ?ho ?hn ?hr ?_; (case ho => rfl); (case hg => rfl); (case hn => rfl); (case hr => first | (go_simp; done) | (go_simp; rfl)); intro w15 hw; have n0_ : Aside0 (Kd.S k45 45 w15 w.heap.size (fun k_ => some k_ ≠ (.slice Ao13 x6_1.length co13 : Value).ownBlock ∧ k_ ≠ gb269) u5 x5_1) := ⟨(by rw [hw]; exact (by (with_reducible repeat (first | apply Kd.S_alloc | apply Kd.S_drewN | apply Kd.S_drew)); exact Kd.S_mono (Kd.S_far (p := ⟨gb269, 3, none⟩) (Kd.S_mono HO_5.out (fun k_ hk => (⟨hk, hk.2⟩ : _ ∧ k_ ≠ gb269))) (fun _ hk => hk.2) (.slice Ao13 x6_1.length co13)) (fun _ hk => ⟨hk.1.1, hk.1.2⟩)))⟩; have n1_ : Aside0 (Kd.R (Kd.int .i64) 3 w15 w.heap.size (fun _ => True) (.slice Ao13 x6_1.length co13) x6_1) := ⟨(by rw [hw]; exact (by (with_reducible repeat (first | apply Kd.R_alloc | apply Kd.R_drewN | apply Kd.R_drew)); exact Kd.R_mono (Kd.R_far (p := ⟨gb269, 3, none⟩) (Kd.R_types HO_6.out BK269.out (by decide)) (fun _ hk => hk.2) (.slice Ao13 x6_1.length co13)) (fun _ hk => trivial)))⟩; have n2_ : Aside0 (w15.heap[gb269]? = some (.cells #[.int .i64 a0_0, .int .i64 a0_1, .string a0_2, .slice Ao13 x6_1.length co13] 45 (0, 0))) := ⟨(by rw [hw]; exact (by (with_reducible repeat (first | refine blk_drewN ?_ _ | refine blk_drew ?_ | refine blk_alloc ?_ _)); refine blk_put (cs := #[.int .i64 a0_0, .int .i64 a0_1, .string a0_2, .slice A0_3 l0_3.length c0_3]) ?_ 3 _ rfl; (with_reducible repeat (first | refine blk_drewN ?_ _ | refine blk_drew ?_ | refine blk_alloc ?_ _)); exact BK269.out))⟩; have n3_ : Aside0 (Below w.heap.size w w15) := ⟨(by rw [hw]; exact (by repeat (first | (with_reducible first | exact HB.out | apply below_alloc | apply pw_below_drewN | apply below_drew1 | refine below_set ?_ GE269.out) | exact HB.out)))⟩; clear hw; clear HO_5; clear HO_6; clear BK269; clear HB; have HO_5 := n0_; have HO_6 := n1_; have BK269 := n2_; have HB := n3_; clear n0_ n1_ n2_ n3_; have hcz16_0 : w15.cell? ⟨gb269, 0, none⟩ = some (.int .i64 a0_0) := (blk_cell BK269.out 0).trans rfl; have hcz16_1 : w15.cell? ⟨gb269, 1, none⟩ = some (.int .i64 a0_1) := (blk_cell BK269.out 1).trans rfl; have hcz16_2 : w15.cell? ⟨gb269, 2, none⟩ = some (.string a0_2) := (blk_cell BK269.out 2).trans rfl; have hcz16_3 : w15.cell? ⟨gb269, 3, none⟩ = some (.slice Ao13 x6_1.length co13) := (blk_cell BK269.out 3).trans rfl; have hfz16_0 := blk_frozen BK269.out 0; have hfz16_1 := blk_frozen BK269.out 1; have hfz16_2 := blk_frozen BK269.out 2; have hfz16_3 := blk_frozen BK269.out 3) | ((with_reducible refine gate_builtin (b := .append) (xs := #[.tmp 28, .tmp 30]) rfl ?_); at_builtin; refine Kd.S_append k45 (w0 := w) w.heap.size rfl (.tmp 28) (.tmp 30) 30 45 (.agg #[(.int .i64 0), (.int .i64 0), (.string ⟨#[]⟩), (.slice none 0 0)]) 56 rfl Tryd.underlying30 info45 rfl (by decide) (by omega) u5 x5_1 (⟨a0_0, a0_1, a0_2, x6_1⟩ : S45) [.int .i64 a0_0, .int .i64 a0_1, .string a0_2, .slice Ao13 x6_1.length co13] (fun k_ => k_ ≠ gb269) (fun k_ => some k_ = (.slice Ao13 x6_1.length co13 : Value).ownBlock) rfl rfl ?aP (fun k_ hk_ => ((Kd.R_mono (ok' := fun k_ => ((fun k_ => k_ ≠ gb269)) k_ ∧ some k_ ≠ (u5 : Value).ownBlock) (Kd.R_types (Kd.R_apart' (HO_6.out) (Kd.S_typed HO_5.out) (by decide)) BK269.out (by decide)) (fun k_ hk => ⟨hk.2, hk.1.2⟩))).1 k_ hk_.symm) ?aF ?aO ?aB ?aS ?aL ?_; (case aP => exact k45_mkM _ _ _ (⟨a0_0, a0_1, a0_2, x6_1⟩ : S45) (Kd.R_mono (Kd.R_tight rfl (Kd.R_mono (ok' := fun k_ => ((fun k_ => k_ ≠ gb269)) k_ ∧ some k_ ≠ (u5 : Value).ownBlock) (Kd.R_types (Kd.R_apart' (HO_6.out) (Kd.S_typed HO_5.out) (by decide)) BK269.out (by decide)) (fun k_ hk => ⟨hk.2, hk.1.2⟩))) (fun _ h_ => h_))); (case aB => exact (by repeat (first | (with_reducible first | exact HB.out | apply below_alloc | apply pw_below_drewN | apply below_drew1 | refine below_set ?_ GE269.out) | exact HB.out))); (case aF => exact (fun k_ hk => Kd.freshB (g := gb269) (o := .cells #[.int .i64 a0_0, .int .i64 a0_1, .string a0_2, .slice Ao13 x6_1.length co13] 45 (0, 0)) (by (with_reducible repeat (first | refine blk_drewN ?_ _ | refine blk_drew ?_ | refine blk_alloc ?_ _)); exact BK269.out) k_ hk)); (case aO => exact (by (with_reducible repeat (first | apply Kd.S_alloc | apply Kd.S_drewN | apply Kd.S_drew)); exact Kd.S_mono HO_5.out (fun k_ hk => ⟨hk.2, fun e_ => hk.1 e_⟩))); (case aS => exact (below_size (by repeat (first | (with_reducible first | exact HB.out | apply below_alloc | apply pw_below_drewN | apply below_drew1 | refine below_set ?_ GE269.out) | exact HB.out)))); (case aL => have := LMc12.out; omega); intro v278 w17 ho hb hg hat; rw [← Ny277.out] at ho; have n0_ := am (blk_grown (g := gb269) (o := .cells #[.int .i64 a0_0, .int .i64 a0_1, .string a0_2, .slice Ao13 x6_1.length co13] 45 (0, 0)) (by (with_reducible repeat (first | refine blk_drewN ?_ _ | refine blk_drew ?_ | refine blk_alloc ?_ _)); exact BK269.out) hg (Kd.S_away HO_5.out (fun _ hk => hk.2))); have n1_ := am (hb); have n2_ := am (ho); clear BK269; clear HB; clear HO_5; clear HO_6; have BK269 := n0_; have HB := n1_; have HO279 := n2_; clear n0_ n1_ n2_; clear ho hb hg hat))
        go_ret
        exact ⟨_, by first | rfl | (simp [errW_none, errW_some] <;> rfl) | (simp [*, errW_none, errW_some] <;> rfl), by (with_reducible repeat (first | apply Kd.S_alloc | apply Kd.S_drewN | apply Kd.S_drew)); exact Kd.S_mono HO279.out (fun _ hk => trivial), by repeat (first | (with_reducible first | exact HB.out | apply below_alloc | apply pw_below_drewN | apply below_drew1 | refine below_set ?_ GE269.out) | exact HB.out)⟩
      rw [if_pos c4] at H
      have c4b0 : decide (x7_1 < (l1.length : Int)) = true := decide_eq_true c4
      clear c4
      by_cases c5 : 0 ≤ x7_1
      rotate_left
      · rw [if_neg c5] at H
        exact absurd H (by simp)
      rw [if_pos c5] at H
      have c5b0 : decide (0 ≤ x7_1) = true := decide_eq_true c5
      clear c5
      replace H := Option.bind_eq_some_iff.mp H
      obtain ⟨t271, A60, H⟩ := H
      replace H : (if x6_1.length < 17592186044416 then (sorrelref02_Joined.l0 k1 l1 t271 (x6_1 ++ [wrap64 ((t271.length : Int) - 1)]) (wrap64 (x7_1 + 1)) a0_0 a0_1 a0_2 l0_3) else (none)) = some r := H
      have A6 := am A60
      clear A60
      by_cases c7 : x6_1.length < 17592186044416
      rotate_left
      · rw [if_neg c7] at H
        exact absurd H (by simp)
      rw [if_pos c7] at H
      have LMc7 := am c7
      clear c7
      obtain ⟨y274, hy274⟩ : ∃ y_ : List Int, y_ = (x6_1 ++ [wrap64 ((t271.length : Int) - 1)]) := ⟨_, rfl⟩
      replace H : (sorrelref02_Joined.l0 k1 l1 t271 y274 (wrap64 (x7_1 + 1)) a0_0 a0_1 a0_2 l0_3) = some r := by first | (rw [hy274]; with_reducible exact H) | (have H2_ := (Option.bind_some _ _).symm.trans H; rw [hy274]; with_reducible exact H2_) | (have H2_ := (Option.bind_some _ _).symm.trans H; with_reducible exact H2_) | with_reducible exact H | (rw [hy274]; exact H) | exact H
      have Ny274 := am hy274
      clear hy274
      have H' := am H
      clear H
      have p270 : 0 ≤ (x7_1 : Int) := of_decide_eq_true (by first | (with_reducible assumption) | assumption)
      have q270 : x7_1 < (l1.length : Int) := of_decide_eq_true (by first | (with_reducible assumption) | assumption)
      obtain ⟨ad270, A270_0, c270_0, e270, hx270_0, hl270_0, hi270_0⟩ := at_L4 HR1.out x7_1 p270 q270
      cases e270
      replace hx270_0 := (HB.out.cell (World.block_lt_of_cell? w _ hx270_0)).trans hx270_0
      have HR270_0 := am hi270_0
      have HC270_0 := am hl270_0
      clear hi270_0 hl270_0
      replace p270 := eq_true p270
      replace q270 := eq_true q270
      obtain ⟨Ao8, co8, eo8⟩ := Kd.S_slice HO_5.out
      subst eo8
      go_wp2_with (first | ((with_reducible refine gate_callee (f := 122) rfl ?_); refine goesL_ (some 19) rfl rfl Tryd.func122 (by kernel_rfl) rfl #[.slice Ao8 x5_1.length co8, .slice A270_0 (rd_L4 l1 x7_1).length c270_0] rfl (by (try simp only [List.map_toArray, List.map_cons, List.map_nil]); first | done | rfl | (simp only [List.length_drop, List.length_take]; rfl)) ?_; (with_reducible refine (sorrelref02_behind.calls k1 (fun k_ => (some k_ ≠ (u6 : Value).ownBlock ∧ k_ ≠ gb269)) (.slice Ao8 x5_1.length co8) x5_1 _ _ (rd_L4 l1 x7_1) t271 w _ ?side1 ?side2 ?side3 ?side4 A6.out).mono ?_); (case side1 => repeat (first | (with_reducible first | exact HB.out | apply below_alloc | apply pw_below_drewN | apply below_drew1 | refine below_set ?_ GE269.out) | exact HB.out)); (case side2 => ((with_reducible repeat (first | apply Kd.S_alloc | apply Kd.S_drewN | apply Kd.S_drew)); exact HO_5.out)); (case side3 => exact HR270_0.out); (case side4 => exact HC270_0.out); rintro e w9 ⟨v272, rfl, ho0, hb, hkp⟩; refine ⟨_, rfl, ?_⟩; have n0_ := am (Kd.R_mono (ok' := fun k_ => True) (Kd.R_keptB ((Kd.R_tight2 rfl ((Kd.R_apart' HO_6.out (Kd.S_typed HO_5.out) (by decide))))) hkp (fun k_ hk_ hs_ => (fun hs2_ => (hs2_.1) hk_.1) hs_)) (fun k_ hk_ => trivial)); have n1_ := am (blk_kept (by (with_reducible repeat (first | refine blk_drewN ?_ _ | refine blk_drew ?_ | refine blk_alloc ?_ _)); exact BK269.out) hkp (fun hs_ => (fun hs2_ => (hs2_.2) rfl) hs_)); have n2_ := am (Kd.S_mono (ok' := fun k_ => some k_ ≠ (u6 : Value).ownBlock ∧ k_ ≠ gb269) ho0 (fun k_ hk_ => ⟨Or.elim hk_ (fun hs_ => hs_.1) (fun hn_ => (Kd.fresh' (Kd.R_lt (by (with_reducible repeat (first | apply Kd.R_alloc | apply Kd.R_drewN | apply Kd.R_drew)); exact HO_6.out)) k_ hn_)), Or.elim hk_ (fun hs_ => hs_.2) (fun hn_ => (Kd.freshB (g := gb269) (o := .cells #[.int .i64 a0_0, .int .i64 a0_1, .string a0_2, .slice A0_3 l0_3.length c0_3] 45 (0, 0)) (by (with_reducible repeat (first | refine blk_drewN ?_ _ | refine blk_drew ?_ | refine blk_alloc ?_ _)); exact BK269.out) k_ hn_))⟩)); have n3_ := am (hb); clear HO_6; clear BK269; clear HB; clear HO_5; have HO_6 := n0_; have BK269 := n1_; have HO273 := n2_; have HB := n3_; clear n0_ n1_ n2_ n3_; (try clear hb); (try clear hkp); (try clear ho0); obtain ⟨Ao10, co10, eo10⟩ := Kd.S_slice HO273.out; subst eo10) | ((with_reducible refine gate_builtin (b := .append) (xs := #[.tmp 20, .tmp 24]) rfl ?_); at_builtin; refine Kd.R_append (Kd.int .i64) (w0 := w) w.heap.size rfl (.tmp 20) (.tmp 24) 43 3 (.int .i64 0) 8 rfl Tryd.underlying43 info3 rfl (by decide) (by omega) u6 x6_1 (wrap64 ((t271.length : Int) - 1)) [.int .i64 (wrap64 ((t271.length : Int) - 1))] (fun _ => True) (fun _ => False) rfl rfl ?aP (fun _ hk => hk.elim) ?aF ?aO ?aB ?aS ?aL ?_; (case aP => exact rfl); (case aB => exact (by repeat (first | (with_reducible first | exact HB.out | apply below_alloc | apply pw_below_drewN | apply below_drew1 | refine below_set ?_ GE269.out) | exact HB.out))); (case aF => exact (fun _ _ => trivial)); (case aO => exact (by (with_reducible repeat (first | apply Kd.R_alloc | apply Kd.R_drewN | apply Kd.R_drew)); exact HO_6.out)); (case aS => exact (below_size (by repeat (first | (with_reducible first | exact HB.out | apply below_alloc | apply pw_below_drewN | apply below_drew1 | refine below_set ?_ GE269.out) | exact HB.out)))); (case aL => have := LMc7.out; omega); intro v275 w11 ho hb hg hat; rw [← Ny274.out] at ho; have n0_ := am (blk_grown (g := gb269) (o := .cells #[.int .i64 a0_0, .int .i64 a0_1, .string a0_2, .slice A0_3 l0_3.length c0_3] 45 (0, 0)) (by (with_reducible repeat (first | refine blk_drewN ?_ _ | refine blk_drew ?_ | refine blk_alloc ?_ _)); exact BK269.out) hg (Kd.R_ne HO_6.out BK269.out (by decide))); have n1_ := am (Kd.S_after (ok := (fun k_ => k_ ≠ gb269)) (by (with_reducible repeat (first | apply Kd.S_alloc | apply Kd.S_drewN | apply Kd.S_drew)); exact Kd.S_mono HO273.out (fun _ hk => ⟨hk.2, hk.1⟩)) hg hat); have n2_ := am (hb); have n3_ := am (ho); clear BK269; clear HO273; clear HB; clear HO_6; have BK269 := n0_; have HO273 := n1_; have HB := n2_; have HO276 := n3_; clear n0_ n1_ n2_ n3_; clear ho hb hg hat))
      go_roundg k1
      case measure => have := HK1.out; omega
      case rel => exact ⟨(t271), (y274), (wrap64 (x7_1 + 1)), (by first | rfl | (simp; done) | (simp [*]; done)), H', ⟨by have := HK1.out; omega⟩, ⟨by (with_reducible repeat (first | apply Kd.S_alloc | apply Kd.S_drewN | apply Kd.S_drew)); exact Kd.S_mono HO273.out (fun _ hk => ⟨hk.2, hk.1⟩)⟩, ⟨by (with_reducible repeat (first | apply Kd.R_alloc | apply Kd.R_drewN | apply Kd.R_drew)); exact HO276.out⟩, ⟨by (with_reducible repeat (first | refine blk_drewN ?_ _ | refine blk_drew ?_ | refine blk_alloc ?_ _)); exact BK269.out⟩, ⟨by repeat (first | (with_reducible first | exact HB.out | apply below_alloc | apply pw_below_drewN | apply below_drew1 | refine below_set ?_ GE269.out) | exact HB.out)⟩⟩
/-! ### an answer that may be the argument -/
/-- The argument itself, or a row of the call's own. -/
def RoA (A : Option Addr) (c : Nat) (m : List S45) (w' : World) (B : Nat) (v : Value) (r : List S45) : Prop := (v = .slice A m.length c ∧ r = m) ∨ Kd.S k45 45 w' B (fun _ => True) v r
/-- A row's element: that argument (readable in each world that has kept what W had), or a row of the call's own. -/
def aliasK (W : World) (A : Option Addr) (c : Nat) (m : List S45) : Kd (List S45) where
  sz := 1
  E := (Kd.slice 45 k45).E
  K := fun w x cs => (cs = [.slice A m.length c] ∧ x = m ∧ m.length ≤ c ∧ ∀ w2, Below W.heap.size W w2 → Kd.C k45 w2 A m.length m) ∨ (Kd.slice 45 k45).K w x cs
  M := fun w base ok x cs => (cs = [.slice A m.length c] ∧ x = m ∧ m.length ≤ c ∧ ∀ w2, Below W.heap.size W w2 → Kd.C k45 w2 A m.length m) ∨ (Kd.slice 45 k45).M w base ok x cs
  K_len := by
    rintro w x cs (⟨rfl, _⟩ | h)
    · rfl
    · exact (Kd.slice 45 k45).K_len h
  K_one := by
    rintro w x cs (⟨rfl, _⟩ | h) u hu
    · rw [List.mem_singleton.1 hu]; rfl
    · exact (Kd.slice 45 k45).K_one h u hu
  K_below := by
    rintro w w1 x cs hb (h | h)
    · exact .inl h
    · exact .inr ((Kd.slice 45 k45).K_below hb h)
  K_of_M := by
    rintro w base ok x cs (h | h)
    · exact .inl h
    · exact .inr ((Kd.slice 45 k45).K_of_M h)
  M_mono := by
    rintro w base ok ok' x cs hk (h | h)
    · exact .inl h
    · exact .inr ((Kd.slice 45 k45).M_mono hk h)
  M_bound := by
    rintro w base ok x cs (h | h)
    · exact .inl h
    · exact .inr ((Kd.slice 45 k45).M_bound h)
  M_move := by
    rintro w w1 base ok x cs hk (h | h)
    · exact .inl h
    · exact .inr ((Kd.slice 45 k45).M_move hk h)
  M_lower := by
    rintro w base base' ok x cs hb (h | h)
    · exact .inl h
    · exact .inr ((Kd.slice 45 k45).M_lower hb h)
theorem alias_reads {W w : World} {A A1 : Option Addr} {c n : Nat} {m : List S45} {xs : List (List S45)} (h : Kd.C (aliasK W A c m) w A1 n xs) (hb : Below W.heap.size W w) : Kd.C (Kd.slice 45 k45) w A1 n xs := by
  refine ReadsRow.imp_ h (Below.refl _ _) ?_
  rintro x cs (⟨rfl, rfl, hc, hr⟩ | h)
  · exact ⟨A, c, rfl, hc, hr w hb⟩
  · exact h
theorem RoA_elem {W w' : World} {A : Option Addr} {c B base : Nat} {m r : List S45} {v : Value} (ho : RoA A c m w' B v r) (hB : base ≤ B) (hc : m.length ≤ c) (hr : ∀ w2, Below W.heap.size W w2 → Kd.C k45 w2 A m.length m) : ∃ A1 c1, v = .slice A1 r.length c1 ∧ (aliasK W A c m).M w' base (fun _ => True) r [.slice A1 r.length c1] := by
  rcases ho with ⟨rfl, rfl⟩ | ho
  · exact ⟨A, c, rfl, .inl ⟨rfl, rfl, hc, hr⟩⟩
  · obtain ⟨A1, c1, rfl⟩ := Kd.R_slice (Kd.S_R ho)
    exact ⟨A1, c1, rfl, .inr (Kd.M_row (Kd.R_lower (Kd.S_R ho) hB))⟩
theorem RoA_apart {W w : World} {A : Option Addr} {c base : Nat} {m r : List S45} {cs : List Value} {u : Value} (h : (aliasK W A c m).M w base (fun _ => True) r cs) (ht : ∀ k, u.ownBlock = some k → ∃ cells, w.heap[k]? = some (.cells cells 30 (0, 0))) : (aliasK W A c m).M w base (fun k_ => ((fun _ => True)) k_ ∧ some k_ ≠ u.ownBlock) r cs := by
  cases hu : u.ownBlock with
  | none => exact (aliasK W A c m).M_mono (fun k hk => ⟨trivial, by simp⟩) h
  | some g =>
    obtain ⟨cells, hb⟩ := ht g hu
    exact (aliasK W A c m).M_mono (fun k hk => ⟨trivial, fun e => hk.2 (Option.some.inj e)⟩) (Kd.M_types h hb (by show ∀ q ∈ (Kd.slice 45 k45).E, q ≠ 30; decide))
theorem RoA_reads {W w' : World} {A : Option Addr} {c B : Nat} {m r : List S45} {v : Value} (ho : RoA A c m w' B v r) (hr : ∀ w2, Below W.heap.size W w2 → Kd.C k45 w2 A m.length m) (hc : m.length ≤ c) (hb : Below W.heap.size W w') : ∃ A1 c1, v = .slice A1 r.length c1 ∧ r.length ≤ c1 ∧ Kd.C k45 w' A1 r.length r := by
  rcases ho with ⟨rfl, rfl⟩ | ho
  · exact ⟨A, c, rfl, hc, hr w' hb⟩
  · exact Kd.R_reads (Kd.S_R ho)
/-! ### sorrelref02_PutIn: function 120 -/
mutual
def sorrelref02_PutIn.l0 : Nat → List (S45) → Int → Int → List (S45) → List (List (S45)) → Int → Option ((List (S45)))
  | 0, _, _, _, _, _, _ => none
  | k + 1, x0, x1, x2, x3, x9, x10 => if 0 ≤ x1 then (if x1 < (x0.length : Int) then (if x10 < (((rd_T45 x0 x1).f3).length : Int) then (if 0 ≤ x10 then ((sorrelref02_PutIn.f k x0 (rd ((rd_T45 x0 x1).f3) x10) x2 x3).bind fun t283 => (if x9.length < 5864062014805 then (sorrelref02_PutIn.l0 k x0 x1 x2 x3 (x9 ++ [t283]) (wrap64 (x10 + 1))) else (none))) else (none)) else ((sorrelref02_Joined.f k ((rd_T45 x0 x1).f0) ((rd_T45 x0 x1).f1) ((rd_T45 x0 x1).f2) ((rd_T45 x0 x1).f3) x9).bind fun t290 => (some t290))) else (none)) else (none)
def sorrelref02_PutIn.f : Nat → List (S45) → Int → Int → List (S45) → Option ((List (S45)))
  | 0, _, _, _, _ => none
  | k + 1, l0, a1, a2, l3 => if a1 = a2 then (some l3) else (sorrelref02_PutIn.l0 k l0 a1 a2 l3 ([] : List (List (S45))) 0)
end
theorem sorrelref02_PutIn.mono_l : ∀ k, (∀ y0 y1 y2 y3, LeO (sorrelref02_PutIn.f k y0 y1 y2 y3) (sorrelref02_PutIn.f (k + 1) y0 y1 y2 y3)) ∧ (∀ y0 y1 y2 y3 y4 y5, LeO (sorrelref02_PutIn.l0 k y0 y1 y2 y3 y4 y5) (sorrelref02_PutIn.l0 (k + 1) y0 y1 y2 y3 y4 y5))
  | 0 => ⟨fun _ _ _ _ r h => by simp [sorrelref02_PutIn.f] at h, fun _ _ _ _ _ _ r h => by simp [sorrelref02_PutIn.l0] at h⟩
  | k + 1 => by
    obtain ⟨ih0, ih1⟩ := sorrelref02_PutIn.mono_l k
    refine ⟨?_, ?_⟩
    rotate_left
    · intro y0 y1 y2 y3 y4 y5
      unfold sorrelref02_PutIn.l0
      repeat' first
      | (with_reducible exact ih0 _ _ _ _)
      | (with_reducible exact ih1 _ _ _ _ _ _)
      | (with_reducible exact sorrelref02_Joined.mono _ _ _ _ _ _)
      | (with_reducible exact LeO.refl _)
      | (with_reducible exact LeO.none _)
      | (with_reducible refine LeO.ite ?_ ?_)
      | (with_reducible refine LeO.bind ?_ (fun _ => ?_))
      | exact ih0 _ _ _ _
      | exact ih1 _ _ _ _ _ _
      | exact sorrelref02_Joined.mono _ _ _ _ _ _
      | exact LeO.none _
      | refine LeO.ite ?_ ?_
      | refine LeO.bind ?_ (fun _ => ?_)
    intro y0 y1 y2 y3
    unfold sorrelref02_PutIn.f
    repeat' first
    | (with_reducible exact ih0 _ _ _ _)
    | (with_reducible exact ih1 _ _ _ _ _ _)
    | (with_reducible exact sorrelref02_Joined.mono _ _ _ _ _ _)
    | (with_reducible exact LeO.refl _)
    | (with_reducible exact LeO.none _)
    | (with_reducible refine LeO.ite ?_ ?_)
    | (with_reducible refine LeO.bind ?_ (fun _ => ?_))
    | exact ih0 _ _ _ _
    | exact ih1 _ _ _ _ _ _
    | exact sorrelref02_Joined.mono _ _ _ _ _ _
    | exact LeO.none _
    | refine LeO.ite ?_ ?_
    | refine LeO.bind ?_ (fun _ => ?_)
theorem sorrelref02_PutIn.mono : ∀ a0 a1 a2 a3 k, LeO (sorrelref02_PutIn.f k a0 a1 a2 a3) (sorrelref02_PutIn.f (k + 1) a0 a1 a2 a3) := by
  intro a0 a1 a2 a3 k
  obtain ⟨ih0, ih1⟩ := sorrelref02_PutIn.mono_l k
  exact ih0 a0 a1 a2 a3
set_option maxHeartbeats 8000000 in
set_option maxRecDepth 100000 in
theorem sorrelref02_PutIn.calls (k : Nat) : ∀ (A0 : Option Addr) (c0 : Nat) (l0 : List (S45)) (a1 : Int) (a2 : Int) (A3 : Option Addr) (c3 : Nat) (l3 : List (S45)) (r : List (S45)) (w : World) (hr0 : Kd.C k45 w A0 l0.length l0) (hc0 : l0.length ≤ c0) (hr3 : Kd.C k45 w A3 l3.length l3) (hc3 : l3.length ≤ c3) (h : sorrelref02_PutIn.f k l0 a1 a2 l3 = some r),
    Calls Tryd.prog 120 #[.slice A0 l0.length c0, .int .i64 a1, .int .i64 a2, .slice A3 l3.length c3] w fun e w' => ∃ v0_ : Value, e = .returned (v0_) ∧ RoA A3 c3 l3 w' w.heap.size v0_ r ∧ Below w.heap.size w w' := by
  induction k using Nat.strongRecOn with
  | _ k ih =>
  intro A0 c0 l0 a1 a2 A3 c3 l3 r w hr0 hc0 hr3 hc3 h
  cases k with
  | zero => exact absurd h (by simp [sorrelref02_PutIn.f])
  | succ k =>
  simp only [sorrelref02_PutIn.f] at h
  have hu45 := Tryd.underlying45
  have HR0 := am hr0
  have HC0 := am hc0
  clear hr0 hc0
  have HR3 := am hr3
  have HC3 := am hc3
  clear hr3 hc3
  have HB := am (Below.refl w.heap.size w)
  have H : (if a1 = a2 then (some l3) else (sorrelref02_PutIn.l0 k l0 a1 a2 l3 ([] : List (List (S45))) 0)) = some r := h
  clear h
  by_cases c5 : a1 = a2
  · rw [if_pos c5] at H
    have c5b0 : (a1 == a2) = true := beq_iff_eq.mpr c5
    have c5b1 : (a1 != a2) = false := bne_eq_false_iff_eq.mpr c5
    clear c5
    obtain rfl := Option.some.inj H
    go_enter Tryd.func120, Tryd.ntmps120
    go_wp2
    go_ret
    exact ⟨_, by first | rfl | (simp [errW_none, errW_some] <;> rfl) | (simp [*, errW_none, errW_some] <;> rfl), Or.inl ⟨rfl, rfl⟩, by repeat (first | (with_reducible first | exact HB.out | apply below_alloc | apply pw_below_drewN | apply below_drew1) | exact HB.out)⟩
  rw [if_neg c5] at H
  have c5b0 : (a1 == a2) = false := beq_eq_false_iff_ne.mpr c5
  have c5b1 : (a1 != a2) = true := bne_iff_ne.mpr c5
  have H' := am H
  clear H
  go_enter Tryd.func120, Tryd.ntmps120
  go_wp2
  go_loopg [9, 10] k (fun kq v9 v10 w' => ∃ (x9_1 : List (List (S45))) (x10_1 : Int), v10 = .int .i64 x10_1 ∧ Aside0 (sorrelref02_PutIn.l0 kq l0 a1 a2 l3 x9_1 x10_1 = some r) ∧ Aside0 (kq ≤ k) ∧ Aside0 (Kd.R (aliasK w A3 c3 l3) 30 w' w.heap.size (fun _ => True) v9 x9_1) ∧ Aside0 (Below w.heap.size w w'))
  case atStart => exact ⟨(([] : List (List (S45)))), (0), (by first | rfl | (simp; done) | (simp [*]; done)), H', ⟨Nat.le_refl _⟩, ⟨by first | exact Kd.R_nil _ _ _ _ _ | exact Kd.N_nil _ _ _ _ _ | exact Kd.V_nil _ _ _ _ _ | exact Kd.Q_nil _ _ _ _ _ | exact Kd.S_nil _ _ _ _ _⟩, ⟨by repeat (first | (with_reducible first | exact HB.out | apply below_alloc | apply pw_below_drewN | apply below_drew1) | exact HB.out)⟩⟩
  case round =>
    clear H'
    try clear c1
    try clear p2
    try clear c3
    try clear c5
    try clear c5b0
    try clear c5b1
    obtain ⟨x9_1, x10_1, rfl, HA, HK1, HO_9, HB⟩ := hrel
    cases gk with
    | zero => exact absurd HA.out (by simp [sorrelref02_PutIn.l0])
    | succ k1 =>
      have H := HA.out
      clear HA
      simp only [sorrelref02_PutIn.l0] at H
      by_cases c6 : 0 ≤ a1
      rotate_left
      · rw [if_neg c6] at H
        exact absurd H (by simp)
      rw [if_pos c6] at H
      have c6b0 : decide (0 ≤ a1) = true := decide_eq_true c6
      clear c6
      by_cases c7 : a1 < (l0.length : Int)
      rotate_left
      · rw [if_neg c7] at H
        exact absurd H (by simp)
      rw [if_pos c7] at H
      have c7b0 : decide (a1 < (l0.length : Int)) = true := decide_eq_true c7
      clear c7
      by_cases c8 : x10_1 < (((rd_T45 l0 a1).f3).length : Int)
      rotate_left
      · rw [if_neg c8] at H
        have c8b0 : decide (x10_1 < (((rd_T45 l0 a1).f3).length : Int)) = false := decide_eq_false c8
        clear c8
        replace H := Option.bind_eq_some_iff.mp H
        obtain ⟨t290, A150, H⟩ := H
        replace H : (some t290) = some r := H
        have A15 := am A150
        clear A150
        obtain rfl := Option.some.inj H
        have p280 : 0 ≤ (a1 : Int) := of_decide_eq_true (by first | (with_reducible assumption) | assumption)
        have q280 : a1 < (l0.length : Int) := of_decide_eq_true (by first | (with_reducible assumption) | assumption)
        obtain ⟨ad280, A280_3, c280_3, e280, hx280_0, hx280_1, hx280_2, hx280_3, hl280_3, hi280_3⟩ := at_T45 HR0.out a1 p280 q280
        cases e280
        replace hx280_0 := (HB.out.cell (World.block_lt_of_cell? w _ hx280_0)).trans hx280_0
        replace hx280_1 := (HB.out.cell (World.block_lt_of_cell? w _ hx280_1)).trans hx280_1
        replace hx280_2 := (HB.out.cell (World.block_lt_of_cell? w _ hx280_2)).trans hx280_2
        replace hx280_3 := (HB.out.cell (World.block_lt_of_cell? w _ hx280_3)).trans hx280_3
        have HR280_3 := am hi280_3
        have HC280_3 := am hl280_3
        clear hi280_3 hl280_3
        replace p280 := eq_true p280
        replace q280 := eq_true q280
        have p289 : 0 ≤ (a1 : Int) := of_decide_eq_true (by first | (with_reducible assumption) | assumption)
        have q289 : a1 < (l0.length : Int) := of_decide_eq_true (by first | (with_reducible assumption) | assumption)
        obtain ⟨ad289, A289_3, c289_3, e289, hx289_0, hx289_1, hx289_2, hx289_3, hl289_3, hi289_3⟩ := at_T45 HR0.out a1 p289 q289
        obtain rfl : ad280 = ad289 := (by injection e289)
        replace hx289_0 := (HB.out.cell (World.block_lt_of_cell? w _ hx289_0)).trans hx289_0
        replace hx289_1 := (HB.out.cell (World.block_lt_of_cell? w _ hx289_1)).trans hx289_1
        replace hx289_2 := (HB.out.cell (World.block_lt_of_cell? w _ hx289_2)).trans hx289_2
        replace hx289_3 := (HB.out.cell (World.block_lt_of_cell? w _ hx289_3)).trans hx289_3
        have HR289_3 := am hi289_3
        have HC289_3 := am hl289_3
        clear hi289_3 hl289_3
        replace p289 := eq_true p289
        replace q289 := eq_true q289
        have ea_ := Option.some.inj (hx280_3.symm.trans hx289_3)
        injection ea_ with ea_ en_ ec_
        subst ea_
        subst ec_
        clear en_
        obtain ⟨Ao16, co16, eo16⟩ := Kd.R_slice HO_9.out
        subst eo16
        go_wp2_with (first | ((with_reducible refine gate_callee (f := 79) rfl ?_); refine goesL_ (some 45) rfl rfl Tryd.func79 (by kernel_rfl) rfl #[.agg #[.int .i64 ((rd_T45 l0 a1).f0), .int .i64 ((rd_T45 l0 a1).f1), .string ((rd_T45 l0 a1).f2), .slice A280_3 ((rd_T45 l0 a1).f3).length c280_3], .slice Ao16 x9_1.length co16] rfl (by (try simp only [List.map_toArray, List.map_cons, List.map_nil]); first | done | rfl | (simp only [List.length_drop, List.length_take]; rfl)) ?_; (with_reducible refine (sorrelref02_Joined.calls k1 ((rd_T45 l0 a1).f0) ((rd_T45 l0 a1).f1) ((rd_T45 l0 a1).f2) _ _ ((rd_T45 l0 a1).f3) _ _ x9_1 t290 _ ?side1 ?side2 ?side3 ?side4 A15.out).mono ?_); (case side1 => repeat (first | exact (Kd.C_below HR289_3.out HB.out) | (with_reducible refine Kd.C_alloc ?_ _) | (with_reducible refine Kd.C_drewN ?_ _) | (with_reducible refine Kd.C_drew ?_))); (case side2 => exact HC289_3.out); (case side3 => repeat (first | exact (alias_reads (Kd.R_reads' HO_9.out).2.2 HB.out) | (with_reducible refine Kd.C_alloc ?_ _) | (with_reducible refine Kd.C_drewN ?_ _) | (with_reducible refine Kd.C_drew ?_))); (case side4 => exact (Kd.R_reads' HO_9.out).2.1); rintro e w17 ⟨v291, rfl, ho0, hb⟩; refine ⟨_, rfl, ?_⟩; have n0_ := am (Kd.R_elder' (by (with_reducible repeat (first | apply Kd.R_alloc | apply Kd.R_drewN | apply Kd.R_drew)); exact HO_9.out) (Kd.S_base ho0) hb); have n1_ := am (Kd.S_lower ho0 (below_size (by repeat (first | (with_reducible first | exact HB.out | apply below_alloc | apply pw_below_drewN | apply below_drew1) | exact HB.out)))); have n2_ := am (below_step (by repeat (first | (with_reducible first | exact HB.out | apply below_alloc | apply pw_below_drewN | apply below_drew1) | exact HB.out)) hb); clear HO_9; clear HB; have HO_9 := n0_; have HO292 := n1_; have HB := n2_; clear n0_ n1_ n2_; (try clear hb); (try clear hb2); (try clear hk); (try clear hi); (try clear ho0)))
        go_ret
        exact ⟨_, by first | rfl | (simp [errW_none, errW_some] <;> rfl) | (simp [*, errW_none, errW_some] <;> rfl), Or.inr (by (with_reducible repeat (first | apply Kd.S_alloc | apply Kd.S_drewN | apply Kd.S_drew)); exact HO292.out), by repeat (first | (with_reducible first | exact HB.out | apply below_alloc | apply pw_below_drewN | apply below_drew1) | exact HB.out)⟩
      rw [if_pos c8] at H
      have c8b0 : decide (x10_1 < (((rd_T45 l0 a1).f3).length : Int)) = true := decide_eq_true c8
      clear c8
      by_cases c9 : 0 ≤ x10_1
      rotate_left
      · rw [if_neg c9] at H
        exact absurd H (by simp)
      rw [if_pos c9] at H
      have c9b0 : decide (0 ≤ x10_1) = true := decide_eq_true c9
      clear c9
      replace H := Option.bind_eq_some_iff.mp H
      obtain ⟨t283, A100, H⟩ := H
      replace H : (if x9_1.length < 5864062014805 then (sorrelref02_PutIn.l0 k1 l0 a1 a2 l3 (x9_1 ++ [t283]) (wrap64 (x10_1 + 1))) else (none)) = some r := H
      have A10 := am A100
      clear A100
      by_cases c11 : x9_1.length < 5864062014805
      rotate_left
      · rw [if_neg c11] at H
        exact absurd H (by simp)
      rw [if_pos c11] at H
      have LMc11 := am c11
      clear c11
      obtain ⟨y286, hy286⟩ : ∃ y_ : List (List (S45)), y_ = (x9_1 ++ [t283]) := ⟨_, rfl⟩
      replace H : (sorrelref02_PutIn.l0 k1 l0 a1 a2 l3 y286 (wrap64 (x10_1 + 1))) = some r := by first | (rw [hy286]; with_reducible exact H) | (have H2_ := (Option.bind_some _ _).symm.trans H; rw [hy286]; with_reducible exact H2_) | (have H2_ := (Option.bind_some _ _).symm.trans H; with_reducible exact H2_) | with_reducible exact H | (rw [hy286]; exact H) | exact H
      have Ny286 := am hy286
      clear hy286
      have H' := am H
      clear H
      have p280 : 0 ≤ (a1 : Int) := of_decide_eq_true (by first | (with_reducible assumption) | assumption)
      have q280 : a1 < (l0.length : Int) := of_decide_eq_true (by first | (with_reducible assumption) | assumption)
      obtain ⟨ad280, A280_3, c280_3, e280, hx280_0, hx280_1, hx280_2, hx280_3, hl280_3, hi280_3⟩ := at_T45 HR0.out a1 p280 q280
      cases e280
      replace hx280_0 := (HB.out.cell (World.block_lt_of_cell? w _ hx280_0)).trans hx280_0
      replace hx280_1 := (HB.out.cell (World.block_lt_of_cell? w _ hx280_1)).trans hx280_1
      replace hx280_2 := (HB.out.cell (World.block_lt_of_cell? w _ hx280_2)).trans hx280_2
      replace hx280_3 := (HB.out.cell (World.block_lt_of_cell? w _ hx280_3)).trans hx280_3
      have HR280_3 := am hi280_3
      have HC280_3 := am hl280_3
      clear hi280_3 hl280_3
      replace p280 := eq_true p280
      replace q280 := eq_true q280
      have p281 : 0 ≤ (a1 : Int) := of_decide_eq_true (by first | (with_reducible assumption) | assumption)
      have q281 : a1 < (l0.length : Int) := of_decide_eq_true (by first | (with_reducible assumption) | assumption)
      obtain ⟨ad281, A281_3, c281_3, e281, hx281_0, hx281_1, hx281_2, hx281_3, hl281_3, hi281_3⟩ := at_T45 HR0.out a1 p281 q281
      obtain rfl : ad280 = ad281 := (by injection e281)
      replace hx281_0 := (HB.out.cell (World.block_lt_of_cell? w _ hx281_0)).trans hx281_0
      replace hx281_1 := (HB.out.cell (World.block_lt_of_cell? w _ hx281_1)).trans hx281_1
      replace hx281_2 := (HB.out.cell (World.block_lt_of_cell? w _ hx281_2)).trans hx281_2
      replace hx281_3 := (HB.out.cell (World.block_lt_of_cell? w _ hx281_3)).trans hx281_3
      have HR281_3 := am hi281_3
      have HC281_3 := am hl281_3
      clear hi281_3 hl281_3
      replace p281 := eq_true p281
      replace q281 := eq_true q281
      have ea_ := Option.some.inj (hx280_3.symm.trans hx281_3)
      injection ea_ with ea_ en_ ec_
      subst ea_
      subst ec_
      clear en_
      have p282 : 0 ≤ (x10_1 : Int) := of_decide_eq_true (by first | (with_reducible assumption) | assumption)
      have q282 : x10_1 < (((rd_T45 l0 a1).f3).length : Int) := of_decide_eq_true (by first | (with_reducible assumption) | assumption)
      obtain ⟨ad282, e282, hx282_0⟩ := Kd.at_int HR281_3.out x10_1 p282 q282
      cases e282
      replace hx282_0 := (HB.out.cell (World.block_lt_of_cell? w _ hx282_0)).trans hx282_0
      replace p282 := eq_true p282
      replace q282 := eq_true q282
      go_wp2_with (first | ((with_reducible refine gate_callee (f := 120) rfl ?_); refine goesL_ (some 37) rfl rfl Tryd.func120 (by kernel_rfl) rfl #[.slice (some ad280) l0.length c0, .int .i64 (rd ((rd_T45 l0 a1).f3) x10_1), .int .i64 a2, .slice A3 l3.length c3] rfl (by (try simp only [List.map_toArray, List.map_cons, List.map_nil]); first | done | rfl | (simp only [List.length_drop, List.length_take]; rfl)) ?_; (with_reducible refine (ih k1 (by have := HK1.out; omega) _ _ l0 (rd ((rd_T45 l0 a1).f3) x10_1) a2 _ _ l3 t283 _ ?side1 ?side2 ?side3 ?side4 A10.out).mono ?_); (case side1 => repeat (first | exact (Kd.C_below HR0.out HB.out) | (with_reducible refine Kd.C_alloc ?_ _) | (with_reducible refine Kd.C_drewN ?_ _) | (with_reducible refine Kd.C_drew ?_))); (case side2 => exact HC0.out); (case side3 => repeat (first | exact (Kd.C_below HR3.out HB.out) | (with_reducible refine Kd.C_alloc ?_ _) | (with_reducible refine Kd.C_drewN ?_ _) | (with_reducible refine Kd.C_drew ?_))); (case side4 => exact HC3.out); rintro e w12 ⟨v284, rfl, ho0, hb⟩; refine ⟨_, rfl, ?_⟩; obtain ⟨Ao14, co14, eo14, he0_⟩ := RoA_elem (W := w) ho0 (by first | exact (below_size (by repeat (first | (with_reducible first | exact HB.out | apply below_alloc | apply pw_below_drewN | apply below_drew1) | exact HB.out))) | exact HB.out.size) HC3.out (fun w2_ h2_ => Kd.C_below HR3.out h2_); subst eo14; have n0_ := am (Kd.R_below (by (with_reducible repeat (first | apply Kd.R_alloc | apply Kd.R_drewN | apply Kd.R_drew)); exact HO_9.out) hb); have n1_ := am he0_; have n2_ := am (below_step (by repeat (first | (with_reducible first | exact HB.out | apply below_alloc | apply pw_below_drewN | apply below_drew1) | exact HB.out)) hb); clear HO_9; clear HB; clear he0_ ho0 hb; have HO_9 := n0_; have HO285 := n1_; have HB := n2_; clear n0_ n1_ n2_) | ((with_reducible refine gate_builtin (b := .append) (xs := #[.tmp 25, .tmp 38]) rfl ?_); at_builtin; refine Kd.R_append (aliasK w A3 c3 l3) (w0 := w) w.heap.size rfl (.tmp 25) (.tmp 38) 22 30 (.slice none 0 0) 24 rfl Tryd.underlying22 info30 rfl (by exact Nat.zero_lt_one) (by omega) u9 x9_1 t283 [.slice Ao14 t283.length co14] (fun _ => True) (fun k_ => ((fun _ => True)) k_ ∧ some k_ ≠ (u9 : Value).ownBlock) rfl rfl ?aP (fun _ hk => hk) ?aF ?aO ?aB ?aS ?aL ?_; (case aP => exact RoA_apart HO285.out (Kd.R_typed HO_9.out)); (case aB => exact (by repeat (first | (with_reducible first | exact HB.out | apply below_alloc | apply pw_below_drewN | apply below_drew1) | exact HB.out))); (case aF => exact (fun _ _ => trivial)); (case aO => exact (by (with_reducible repeat (first | apply Kd.R_alloc | apply Kd.R_drewN | apply Kd.R_drew)); exact Kd.R_mono HO_9.out (fun _ hk => trivial))); (case aS => exact (below_size (by repeat (first | (with_reducible first | exact HB.out | apply below_alloc | apply pw_below_drewN | apply below_drew1) | exact HB.out)))); (case aL => have := LMc11.out; omega); intro v287 w13 ho hb hg hat; rw [← Ny286.out] at ho; have n0_ := am (hb); have n1_ := am (ho); clear HB; clear HO_9; clear HO285; have HB := n0_; have HO288 := n1_; clear n0_ n1_; clear ho hb hg hat))
      go_roundg k1
      case measure => have := HK1.out; omega
      case rel => exact ⟨(y286), (wrap64 (x10_1 + 1)), (by first | rfl | (simp; done) | (simp [*]; done)), H', ⟨by have := HK1.out; omega⟩, ⟨by (with_reducible repeat (first | apply Kd.R_alloc | apply Kd.R_drewN | apply Kd.R_drew)); exact HO288.out⟩, ⟨by repeat (first | (with_reducible first | exact HB.out | apply below_alloc | apply pw_below_drewN | apply below_drew1) | exact HB.out)⟩⟩
/-! ### sorrelref02_Put: function 72 -/
mutual
def sorrelref02_Put.j0 : Nat → List (S45) → Int → List (S45) → Bool → Option ((List (S45)) × Int)
  | 0, _, _, _, _ => none
  | k + 1, x0, x1, x2, x16 => if x16 = true then (some (([] : List (S45)), 1)) else (if x1 < 0 then (sorrelref02_Put.j1 k x0 x1 x2 true) else (sorrelref02_Put.j1 k x0 x1 x2 (decide (x1 ≥ (x0.length : Int)))))
def sorrelref02_Put.j1 : Nat → List (S45) → Int → List (S45) → Bool → Option ((List (S45)) × Int)
  | 0, _, _, _, _ => none
  | k + 1, x0, x1, x2, x24 => if x24 = true then (some (([] : List (S45)), 2)) else ((sorrelref02_PutIn.f k x0 (wrap64 ((x0.length : Int) - 1)) x1 x2).bind fun t295 => (if (t295.length : Int) > 64 then (some (([] : List (S45)), 10)) else ((sorrelref02_Copy.f k t295).bind fun t298 => (some (t298, 0)))))
end
def sorrelref02_Put.f (k : Nat) (l0 : List (S45)) (a1 : Int) (l2 : List (S45)) : Option ((List (S45)) × Int) := (sorrelref02_Check.f k l0).bind fun t293 => (if t293 = 0 then ((sorrelref02_Check.f k l2).bind fun t294 => (sorrelref02_Put.j0 k l0 a1 l2 (t294 != 0))) else (sorrelref02_Put.j0 k l0 a1 l2 true))
theorem sorrelref02_Put.mono_l : ∀ k, (∀ y0 y1 y2 y3, LeO (sorrelref02_Put.j0 k y0 y1 y2 y3) (sorrelref02_Put.j0 (k + 1) y0 y1 y2 y3)) ∧ (∀ y0 y1 y2 y3, LeO (sorrelref02_Put.j1 k y0 y1 y2 y3) (sorrelref02_Put.j1 (k + 1) y0 y1 y2 y3))
  | 0 => ⟨fun _ _ _ _ r h => by simp [sorrelref02_Put.j0] at h, fun _ _ _ _ r h => by simp [sorrelref02_Put.j1] at h⟩
  | k + 1 => by
    obtain ⟨ih0, ih1⟩ := sorrelref02_Put.mono_l k
    refine ⟨?_, ?_⟩
    rotate_left
    · intro y0 y1 y2 y3
      unfold sorrelref02_Put.j1
      repeat' first
      | (with_reducible exact ih0 _ _ _ _)
      | (with_reducible exact ih1 _ _ _ _)
      | (with_reducible exact sorrelref02_Check.mono _ _)
      | (with_reducible exact sorrelref02_Copy.mono _ _)
      | (with_reducible exact sorrelref02_PutIn.mono _ _ _ _ _)
      | (with_reducible exact LeO.refl _)
      | (with_reducible exact LeO.none _)
      | (with_reducible refine LeO.ite ?_ ?_)
      | (with_reducible refine LeO.bind ?_ (fun _ => ?_))
      | exact ih0 _ _ _ _
      | exact ih1 _ _ _ _
      | exact sorrelref02_Check.mono _ _
      | exact sorrelref02_Copy.mono _ _
      | exact sorrelref02_PutIn.mono _ _ _ _ _
      | exact LeO.none _
      | refine LeO.ite ?_ ?_
      | refine LeO.bind ?_ (fun _ => ?_)
    intro y0 y1 y2 y3
    unfold sorrelref02_Put.j0
    repeat' first
    | (with_reducible exact ih0 _ _ _ _)
    | (with_reducible exact ih1 _ _ _ _)
    | (with_reducible exact sorrelref02_Check.mono _ _)
    | (with_reducible exact sorrelref02_Copy.mono _ _)
    | (with_reducible exact sorrelref02_PutIn.mono _ _ _ _ _)
    | (with_reducible exact LeO.refl _)
    | (with_reducible exact LeO.none _)
    | (with_reducible refine LeO.ite ?_ ?_)
    | (with_reducible refine LeO.bind ?_ (fun _ => ?_))
    | exact ih0 _ _ _ _
    | exact ih1 _ _ _ _
    | exact sorrelref02_Check.mono _ _
    | exact sorrelref02_Copy.mono _ _
    | exact sorrelref02_PutIn.mono _ _ _ _ _
    | exact LeO.none _
    | refine LeO.ite ?_ ?_
    | refine LeO.bind ?_ (fun _ => ?_)
theorem sorrelref02_Put.mono : ∀ a0 a1 a2 k, LeO (sorrelref02_Put.f k a0 a1 a2) (sorrelref02_Put.f (k + 1) a0 a1 a2) := by
  intro a0 a1 a2 k
  obtain ⟨ih0, ih1⟩ := sorrelref02_Put.mono_l k
  unfold sorrelref02_Put.f
  repeat' first
      | (with_reducible exact ih0 _ _ _ _)
      | (with_reducible exact ih1 _ _ _ _)
      | (with_reducible exact sorrelref02_Check.mono _ _)
      | (with_reducible exact sorrelref02_Copy.mono _ _)
      | (with_reducible exact sorrelref02_PutIn.mono _ _ _ _ _)
      | (with_reducible exact LeO.refl _)
      | (with_reducible exact LeO.none _)
      | (with_reducible refine LeO.ite ?_ ?_)
      | (with_reducible refine LeO.bind ?_ (fun _ => ?_))
      | exact ih0 _ _ _ _
      | exact ih1 _ _ _ _
      | exact sorrelref02_Check.mono _ _
      | exact sorrelref02_Copy.mono _ _
      | exact sorrelref02_PutIn.mono _ _ _ _ _
      | exact LeO.none _
      | refine LeO.ite ?_ ?_
      | refine LeO.bind ?_ (fun _ => ?_)
set_option maxHeartbeats 8000000 in
set_option maxRecDepth 100000 in
theorem sorrelref02_Put.calls (k : Nat) (A0 : Option Addr) (c0 : Nat) (l0 : List (S45)) (a1 : Int) (A2 : Option Addr) (c2 : Nat) (l2 : List (S45)) (r1 : List (S45)) (r2 : Int) (w : World) (hr0 : Kd.C k45 w A0 l0.length l0) (hc0 : l0.length ≤ c0) (hr2 : Kd.C k45 w A2 l2.length l2) (hc2 : l2.length ≤ c2) (h : sorrelref02_Put.f k l0 a1 l2 = some (r1, r2)) :
    Calls Tryd.prog 72 #[.slice A0 l0.length c0, .int .i64 a1, .slice A2 l2.length c2] w fun e w' => ∃ v0_ : Value, e = .returned (.tuple #[v0_, .int .i64 r2]) ∧ Kd.S k45 45 w' w.heap.size (fun _ => True) v0_ r1 ∧ Below w.heap.size w w' := by
  have HR0 := am hr0
  have HC0 := am hc0
  clear hr0 hc0
  have HR2 := am hr2
  have HC2 := am hc2
  clear hr2 hc2
  have HB := am (Below.refl w.heap.size w)
  have H : ((sorrelref02_Check.f k l0).bind fun t293 => (if t293 = 0 then ((sorrelref02_Check.f k l2).bind fun t294 => (sorrelref02_Put.j0 k l0 a1 l2 (t294 != 0))) else (sorrelref02_Put.j0 k l0 a1 l2 true))) = some (r1, r2) := h
  clear h
  have HC4 := am H
  clear H
  go_enter Tryd.func72, Tryd.ntmps72
  go_upto_region 1 with (fail)
  go_cut [16] (fun v16 wc => ∃ (kq : Nat) (x16_3 : Bool), v16 = .bool x16_3 ∧ Aside0 (sorrelref02_Put.j0 kq l0 a1 l2 x16_3 = some (r1, r2)) ∧ Aside0 (kq ≤ k) ∧ Aside0 (Below w.heap.size w wc))
  case first =>
    have H := HC4.out
    clear HC4
    replace H := Option.bind_eq_some_iff.mp H
    obtain ⟨t293, A50, H⟩ := H
    replace H : (if t293 = 0 then ((sorrelref02_Check.f k l2).bind fun t294 => (sorrelref02_Put.j0 k l0 a1 l2 (t294 != 0))) else (sorrelref02_Put.j0 k l0 a1 l2 true)) = some (r1, r2) := H
    have A5 := am A50
    clear A50
    by_cases c6 : t293 = 0
    rotate_left
    · rw [if_neg c6] at H
      have c6b0 : (t293 == 0) = false := beq_eq_false_iff_ne.mpr c6
      have c6b1 : (t293 != 0) = true := bne_iff_ne.mpr c6
      (first | rw [c6b0] | (simp only [i64_w, i32_w]; rw [c6b0]) | skip)
      have H' := am H
      clear H
      go_wp2_with (first | ((with_reducible refine gate_callee (f := 32) rfl ?_); refine goesL_ (some 10) rfl rfl Tryd.func32 (by kernel_rfl) rfl #[.slice A0 l0.length c0] rfl (by (try simp only [List.map_toArray, List.map_cons, List.map_nil]); first | done | rfl | (simp only [List.length_drop, List.length_take]; rfl)) ?_; (with_reducible refine (sorrelref02_Check.calls k _ _ l0 t293 _ ?side1 ?side2 A5.out).mono ?_); (case side1 => repeat (first | exact (Kd.C_below HR0.out HB.out) | (with_reducible refine Kd.C_alloc ?_ _) | (with_reducible refine Kd.C_drewN ?_ _) | (with_reducible refine Kd.C_drew ?_))); (case side2 => exact HC0.out); rintro e w10 ⟨rfl, hb⟩; refine ⟨_, rfl, ?_⟩; have n0_ := am (below_step (by repeat (first | (with_reducible first | exact HB.out | apply below_alloc | apply pw_below_drewN | apply below_drew1) | exact HB.out)) hb); clear HB; have HB := n0_; clear n0_; (try clear hb); (try clear hb2); (try clear hk); (try clear hi)))
      go_meet
      case rel => exact ⟨_, (true), (by first | rfl | (simp; done) | (simp [*]; done)), H', ⟨by first | omega | exact Nat.le_refl _⟩, ⟨by repeat (first | (with_reducible first | exact HB.out | apply below_alloc | apply pw_below_drewN | apply below_drew1) | exact HB.out)⟩⟩
    rw [if_pos c6] at H
    have c6b0 : (t293 == 0) = true := beq_iff_eq.mpr c6
    have c6b1 : (t293 != 0) = false := bne_eq_false_iff_eq.mpr c6
    clear c6
    (first | rw [c6b0] | (simp only [i64_w, i32_w]; rw [c6b0]) | skip)
    replace H := Option.bind_eq_some_iff.mp H
    obtain ⟨t294, A70, H⟩ := H
    replace H : (sorrelref02_Put.j0 k l0 a1 l2 (t294 != 0)) = some (r1, r2) := H
    have A7 := am A70
    clear A70
    have H' := am H
    clear H
    go_wp2_with (first | ((with_reducible refine gate_callee (f := 32) rfl ?_); refine goesL_ (some 10) rfl rfl Tryd.func32 (by kernel_rfl) rfl #[.slice A0 l0.length c0] rfl (by (try simp only [List.map_toArray, List.map_cons, List.map_nil]); first | done | rfl | (simp only [List.length_drop, List.length_take]; rfl)) ?_; (with_reducible refine (sorrelref02_Check.calls k _ _ l0 t293 _ ?side1 ?side2 A5.out).mono ?_); (case side1 => repeat (first | exact (Kd.C_below HR0.out HB.out) | (with_reducible refine Kd.C_alloc ?_ _) | (with_reducible refine Kd.C_drewN ?_ _) | (with_reducible refine Kd.C_drew ?_))); (case side2 => exact HC0.out); rintro e w8 ⟨rfl, hb⟩; refine ⟨_, rfl, ?_⟩; have n0_ := am (below_step (by repeat (first | (with_reducible first | exact HB.out | apply below_alloc | apply pw_below_drewN | apply below_drew1) | exact HB.out)) hb); clear HB; have HB := n0_; clear n0_; (try clear hb); (try clear hb2); (try clear hk); (try clear hi)) | (go_at_call 32; (with_reducible refine (sorrelref02_Check.calls k _ _ l2 t294 _ ?side1 ?side2 A7.out).mono ?_); (case side1 => repeat (first | exact (Kd.C_below HR2.out HB.out) | (with_reducible refine Kd.C_alloc ?_ _) | (with_reducible refine Kd.C_drewN ?_ _) | (with_reducible refine Kd.C_drew ?_))); (case side2 => exact HC2.out); rintro e w9 ⟨rfl, hb⟩; have n0_ := am (below_step (by repeat (first | (with_reducible first | exact HB.out | apply below_alloc | apply pw_below_drewN | apply below_drew1) | exact HB.out)) hb); clear HB; have HB := n0_; clear n0_; (try clear hb); (try clear hb2); (try clear hk); (try clear hi)))
    go_meet
    case rel => exact ⟨_, ((t294 != 0)), (by first | rfl | (simp; done) | (simp [*]; done)), H', ⟨by first | omega | exact Nat.le_refl _⟩, ⟨by repeat (first | (with_reducible first | exact HB.out | apply below_alloc | apply pw_below_drewN | apply below_drew1) | exact HB.out)⟩⟩
  case rest =>
    clear HC4
    try clear c2
    try clear p2
    try clear c3
    try clear c6
    try clear c6b0
    try clear c6b1
    try clear c7
    obtain ⟨kq, x16_3, rfl, HA, HJ3, HB⟩ := hcut
    cases kq with
    | zero => exact absurd HA.out (by simp [sorrelref02_Put.j0])
    | succ kj3 =>
      have H := HA.out
      clear HA
      simp only [sorrelref02_Put.j0] at H
      by_cases c11 : x16_3 = true
      · subst c11
        have H1 : (some (([] : List (S45)), 1)) = some (r1, r2) := by rw [if_pos rfl] at H; exact H
        clear H
        have H := H1
        clear H1
        simp only [Option.some.injEq, Prod.mk.injEq] at H
        obtain ⟨rfl, rfl⟩ := H
        go_wp2
        go_ret2
        exact ⟨_, by first | rfl | (simp [errW_none, errW_some] <;> rfl) | (simp [*, errW_none, errW_some] <;> rfl), by first | exact Kd.S_nil _ _ _ _ _ | exact Kd.N_nil _ _ _ _ _ | exact Kd.V_nil _ _ _ _ _ | exact Kd.Q_nil _ _ _ _ _ | exact Kd.R_nil _ _ _ _ _, by repeat (first | (with_reducible first | exact HB.out | apply below_alloc | apply pw_below_drewN | apply below_drew1) | exact HB.out)⟩
      replace c11 := Bool.eq_false_iff.mpr c11
      subst c11
      have H1 : (if a1 < 0 then (sorrelref02_Put.j1 kj3 l0 a1 l2 true) else (sorrelref02_Put.j1 kj3 l0 a1 l2 (decide (a1 ≥ (l0.length : Int))))) = some (r1, r2) := by rw [if_neg (show ¬ (false = true) by decide)] at H; exact H
      clear H
      have H := H1
      clear H1
      have HC12 := am H
      clear H
      go_upto_region 3 with (fail)
      go_cut [24] (fun v24 wc => ∃ (kq : Nat) (x24_11 : Bool), v24 = .bool x24_11 ∧ Aside0 (sorrelref02_Put.j1 kq l0 a1 l2 x24_11 = some (r1, r2)) ∧ Aside0 (kq ≤ kj3) ∧ Aside0 (Below w.heap.size w wc))
      case first =>
        have H := HC12.out
        clear HC12
        by_cases c13 : a1 < 0
        rotate_left
        · rw [if_neg c13] at H
          have c13b0 : decide (a1 < 0) = false := decide_eq_false c13
          clear c13
          (first | rw [c13b0] | (simp only [i64_w, i32_w]; rw [c13b0]) | skip)
          have H' := am H
          clear H
          go_wp2
          go_meet
          case rel => exact ⟨_, (decide (a1 ≥ (l0.length : Int))), (by first | rfl | (simp; done) | (simp [*]; done)), H', ⟨by have := HJ3.out; first | omega | exact Nat.le_refl _⟩, ⟨by repeat (first | (with_reducible first | exact HB.out | apply below_alloc | apply pw_below_drewN | apply below_drew1) | exact HB.out)⟩⟩
        rw [if_pos c13] at H
        have c13b0 : decide (a1 < 0) = true := decide_eq_true c13
        clear c13
        (first | rw [c13b0] | (simp only [i64_w, i32_w]; rw [c13b0]) | skip)
        have H' := am H
        clear H
        go_wp2
        go_meet
        case rel => exact ⟨_, (true), (by first | rfl | (simp; done) | (simp [*]; done)), H', ⟨by have := HJ3.out; first | omega | exact Nat.le_refl _⟩, ⟨by repeat (first | (with_reducible first | exact HB.out | apply below_alloc | apply pw_below_drewN | apply below_drew1) | exact HB.out)⟩⟩
      case rest =>
        clear HC12
        try clear c1
        try clear c2
        try clear p2
        try clear c3
        try clear c6
        try clear c6b0
        try clear c6b1
        try clear c7
        try clear c11
        try clear c13
        try clear c13b0
        try clear p2
        obtain ⟨kq, x24_11, rfl, HA, HJ11, HB⟩ := hcut
        cases kq with
        | zero => exact absurd HA.out (by simp [sorrelref02_Put.j1])
        | succ kj11 =>
          have H := HA.out
          clear HA
          simp only [sorrelref02_Put.j1] at H
          by_cases c14 : x24_11 = true
          · subst c14
            have H1 : (some (([] : List (S45)), 2)) = some (r1, r2) := by rw [if_pos rfl] at H; exact H
            clear H
            have H := H1
            clear H1
            simp only [Option.some.injEq, Prod.mk.injEq] at H
            obtain ⟨rfl, rfl⟩ := H
            go_wp2
            go_ret2
            exact ⟨_, by first | rfl | (simp [errW_none, errW_some] <;> rfl) | (simp [*, errW_none, errW_some] <;> rfl), by first | exact Kd.S_nil _ _ _ _ _ | exact Kd.N_nil _ _ _ _ _ | exact Kd.V_nil _ _ _ _ _ | exact Kd.Q_nil _ _ _ _ _ | exact Kd.R_nil _ _ _ _ _, by repeat (first | (with_reducible first | exact HB.out | apply below_alloc | apply pw_below_drewN | apply below_drew1) | exact HB.out)⟩
          replace c14 := Bool.eq_false_iff.mpr c14
          subst c14
          have H1 : ((sorrelref02_PutIn.f kj11 l0 (wrap64 ((l0.length : Int) - 1)) a1 l2).bind fun t295 => (if (t295.length : Int) > 64 then (some (([] : List (S45)), 10)) else ((sorrelref02_Copy.f kj11 t295).bind fun t298 => (some (t298, 0))))) = some (r1, r2) := by rw [if_neg (show ¬ (false = true) by decide)] at H; exact H
          clear H
          have H := H1
          clear H1
          replace H := Option.bind_eq_some_iff.mp H
          obtain ⟨t295, A150, H⟩ := H
          replace H : (if (t295.length : Int) > 64 then (some (([] : List (S45)), 10)) else ((sorrelref02_Copy.f kj11 t295).bind fun t298 => (some (t298, 0)))) = some (r1, r2) := H
          have A15 := am A150
          clear A150
          by_cases c16 : (t295.length : Int) > 64
          · rw [if_pos c16] at H
            have c16b0 : decide (64 < (t295.length : Int)) = true := decide_eq_true c16
            have c16b1 : decide (64 < t295.length) = true := decide_eq_true (by omega)
            clear c16
            simp only [Option.some.injEq, Prod.mk.injEq] at H
            obtain ⟨rfl, rfl⟩ := H
            go_wp2_with (first | ((with_reducible refine gate_callee (f := 120) rfl ?_); refine goesL_ (some 31) rfl rfl Tryd.func120 (by kernel_rfl) rfl #[.slice A0 l0.length c0, .int .i64 (wrap64 ((l0.length : Int) - 1)), .int .i64 a1, .slice A2 l2.length c2] rfl (by (try simp only [List.map_toArray, List.map_cons, List.map_nil]); first | done | rfl | (simp only [List.length_drop, List.length_take]; rfl)) ?_; (with_reducible refine (sorrelref02_PutIn.calls kj11 _ _ l0 (wrap64 ((l0.length : Int) - 1)) a1 _ _ l2 t295 _ ?side1 ?side2 ?side3 ?side4 A15.out).mono ?_); (case side1 => repeat (first | exact (Kd.C_below HR0.out HB.out) | (with_reducible refine Kd.C_alloc ?_ _) | (with_reducible refine Kd.C_drewN ?_ _) | (with_reducible refine Kd.C_drew ?_))); (case side2 => exact HC0.out); (case side3 => repeat (first | exact (Kd.C_below HR2.out HB.out) | (with_reducible refine Kd.C_alloc ?_ _) | (with_reducible refine Kd.C_drewN ?_ _) | (with_reducible refine Kd.C_drew ?_))); (case side4 => exact HC2.out); rintro e w17 ⟨v296, rfl, ho0, hb⟩; refine ⟨_, rfl, ?_⟩; have n1_ := am (below_step (by repeat (first | (with_reducible first | exact HB.out | apply below_alloc | apply pw_below_drewN | apply below_drew1) | exact HB.out)) hb); obtain ⟨Ao18, co18, eo18, le_, rd_⟩ := RoA_reads ho0 (fun w2_ h2_ => Kd.C_below HR2.out h2_) HC2.out n1_.out; subst eo18; clear HB; have HB := n1_; have HO297 := am (And.intro le_ rd_); clear n1_ le_ rd_ ho0 hb))
            go_ret2
            exact ⟨_, by first | rfl | (simp [errW_none, errW_some] <;> rfl) | (simp [*, errW_none, errW_some] <;> rfl), by first | exact Kd.S_nil _ _ _ _ _ | exact Kd.N_nil _ _ _ _ _ | exact Kd.V_nil _ _ _ _ _ | exact Kd.Q_nil _ _ _ _ _ | exact Kd.R_nil _ _ _ _ _, by repeat (first | (with_reducible first | exact HB.out | apply below_alloc | apply pw_below_drewN | apply below_drew1) | exact HB.out)⟩
          rw [if_neg c16] at H
          have c16b0 : decide (64 < (t295.length : Int)) = false := decide_eq_false c16
          have c16b1 : decide (64 < t295.length) = false := decide_eq_false (by omega)
          clear c16
          replace H := Option.bind_eq_some_iff.mp H
          obtain ⟨t298, A190, H⟩ := H
          replace H : (some (t298, 0)) = some (r1, r2) := H
          have A19 := am A190
          clear A190
          simp only [Option.some.injEq, Prod.mk.injEq] at H
          obtain ⟨rfl, rfl⟩ := H
          go_wp2_with (first | ((with_reducible refine gate_callee (f := 120) rfl ?_); refine goesL_ (some 31) rfl rfl Tryd.func120 (by kernel_rfl) rfl #[.slice A0 l0.length c0, .int .i64 (wrap64 ((l0.length : Int) - 1)), .int .i64 a1, .slice A2 l2.length c2] rfl (by (try simp only [List.map_toArray, List.map_cons, List.map_nil]); first | done | rfl | (simp only [List.length_drop, List.length_take]; rfl)) ?_; (with_reducible refine (sorrelref02_PutIn.calls kj11 _ _ l0 (wrap64 ((l0.length : Int) - 1)) a1 _ _ l2 t295 _ ?side1 ?side2 ?side3 ?side4 A15.out).mono ?_); (case side1 => repeat (first | exact (Kd.C_below HR0.out HB.out) | (with_reducible refine Kd.C_alloc ?_ _) | (with_reducible refine Kd.C_drewN ?_ _) | (with_reducible refine Kd.C_drew ?_))); (case side2 => exact HC0.out); (case side3 => repeat (first | exact (Kd.C_below HR2.out HB.out) | (with_reducible refine Kd.C_alloc ?_ _) | (with_reducible refine Kd.C_drewN ?_ _) | (with_reducible refine Kd.C_drew ?_))); (case side4 => exact HC2.out); rintro e w20 ⟨v296, rfl, ho0, hb⟩; refine ⟨_, rfl, ?_⟩; have n1_ := am (below_step (by repeat (first | (with_reducible first | exact HB.out | apply below_alloc | apply pw_below_drewN | apply below_drew1) | exact HB.out)) hb); obtain ⟨Ao21, co21, eo21, le_, rd_⟩ := RoA_reads ho0 (fun w2_ h2_ => Kd.C_below HR2.out h2_) HC2.out n1_.out; subst eo21; clear HB; have HB := n1_; have HO297 := am (And.intro le_ rd_); clear n1_ le_ rd_ ho0 hb) | ((with_reducible refine gate_callee (f := 30) rfl ?_); refine goesL_ (some 36) rfl rfl Tryd.func30 (by kernel_rfl) rfl #[.slice Ao21 t295.length co21] rfl (by (try simp only [List.map_toArray, List.map_cons, List.map_nil]); first | done | rfl | (simp only [List.length_drop, List.length_take]; rfl)) ?_; (with_reducible refine (sorrelref02_Copy.calls kj11 _ _ t295 t298 _ ?side1 ?side2 A19.out).mono ?_); (case side1 => repeat (first | exact HO297.out.2 | (with_reducible refine Kd.C_alloc ?_ _) | (with_reducible refine Kd.C_drewN ?_ _) | (with_reducible refine Kd.C_drew ?_))); (case side2 => exact HO297.out.1); rintro e w22 ⟨v299, rfl, ho0, hb⟩; refine ⟨_, rfl, ?_⟩; have n0_ := am trivial; have n1_ := am (Kd.S_lower ho0 (below_size (by repeat (first | (with_reducible first | exact HB.out | apply below_alloc | apply pw_below_drewN | apply below_drew1) | exact HB.out)))); have n2_ := am (below_step (by repeat (first | (with_reducible first | exact HB.out | apply below_alloc | apply pw_below_drewN | apply below_drew1) | exact HB.out)) hb); clear HO297; clear HB; have HO297 := n0_; have HO300 := n1_; have HB := n2_; clear n0_ n1_ n2_; (try clear hb); (try clear hb2); (try clear hk); (try clear hi); (try clear ho0)))
          go_ret2
          exact ⟨_, by first | rfl | (simp [errW_none, errW_some] <;> rfl) | (simp [*, errW_none, errW_some] <;> rfl), by (with_reducible repeat (first | apply Kd.S_alloc | apply Kd.S_drewN | apply Kd.S_drew)); exact Kd.S_mono HO300.out (fun _ hk => trivial), by repeat (first | (with_reducible first | exact HB.out | apply below_alloc | apply pw_below_drewN | apply below_drew1) | exact HB.out)⟩
/-! ### sorrelref02_depth: function 121 -/
mutual
def sorrelref02_depth.l0 : Nat → List (S45) → Int → Int → Int → Option (Int)
  | 0, _, _, _, _ => none
  | k + 1, x0, x1, x5, x6 => if 0 ≤ x1 then (if x1 < (x0.length : Int) then (if x6 < (((rd_T45 x0 x1).f3).length : Int) then (if 0 ≤ x6 then ((sorrelref02_depth.f k x0 (rd ((rd_T45 x0 x1).f3) x6)).bind fun t304 => (sorrelref02_depth.l0 k x0 x1 (mx x5 t304) (wrap64 (x6 + 1)))) else (none)) else (some (wrap64 (x5 + 1)))) else (none)) else (none)
def sorrelref02_depth.f : Nat → List (S45) → Int → Option (Int)
  | 0, _, _ => none
  | k + 1, l0, a1 => sorrelref02_depth.l0 k l0 a1 0 0
end
theorem sorrelref02_depth.mono_l : ∀ k, (∀ y0 y1, LeO (sorrelref02_depth.f k y0 y1) (sorrelref02_depth.f (k + 1) y0 y1)) ∧ (∀ y0 y1 y2 y3, LeO (sorrelref02_depth.l0 k y0 y1 y2 y3) (sorrelref02_depth.l0 (k + 1) y0 y1 y2 y3))
  | 0 => ⟨fun _ _ r h => by simp [sorrelref02_depth.f] at h, fun _ _ _ _ r h => by simp [sorrelref02_depth.l0] at h⟩
  | k + 1 => by
    obtain ⟨ih0, ih1⟩ := sorrelref02_depth.mono_l k
    refine ⟨?_, ?_⟩
    rotate_left
    · intro y0 y1 y2 y3
      unfold sorrelref02_depth.l0
      repeat' first
      | (with_reducible exact ih0 _ _)
      | (with_reducible exact ih1 _ _ _ _)
      | (with_reducible exact LeO.refl _)
      | (with_reducible exact LeO.none _)
      | (with_reducible refine LeO.ite ?_ ?_)
      | (with_reducible refine LeO.bind ?_ (fun _ => ?_))
      | exact ih0 _ _
      | exact ih1 _ _ _ _
      | exact LeO.none _
      | refine LeO.ite ?_ ?_
      | refine LeO.bind ?_ (fun _ => ?_)
    intro y0 y1
    unfold sorrelref02_depth.f
    repeat' first
    | (with_reducible exact ih0 _ _)
    | (with_reducible exact ih1 _ _ _ _)
    | (with_reducible exact LeO.refl _)
    | (with_reducible exact LeO.none _)
    | (with_reducible refine LeO.ite ?_ ?_)
    | (with_reducible refine LeO.bind ?_ (fun _ => ?_))
    | exact ih0 _ _
    | exact ih1 _ _ _ _
    | exact LeO.none _
    | refine LeO.ite ?_ ?_
    | refine LeO.bind ?_ (fun _ => ?_)
theorem sorrelref02_depth.mono : ∀ a0 a1 k, LeO (sorrelref02_depth.f k a0 a1) (sorrelref02_depth.f (k + 1) a0 a1) := by
  intro a0 a1 k
  obtain ⟨ih0, ih1⟩ := sorrelref02_depth.mono_l k
  exact ih0 a0 a1
set_option maxHeartbeats 8000000 in
set_option maxRecDepth 100000 in
theorem sorrelref02_depth.calls (k : Nat) : ∀ (A0 : Option Addr) (c0 : Nat) (l0 : List (S45)) (a1 : Int) (r : Int) (w : World) (hr0 : Kd.C k45 w A0 l0.length l0) (hc0 : l0.length ≤ c0) (h : sorrelref02_depth.f k l0 a1 = some r),
    Calls Tryd.prog 121 #[.slice A0 l0.length c0, .int .i64 a1] w fun e w' => e = .returned (.int .i64 r) ∧ Below w.heap.size w w' := by
  induction k using Nat.strongRecOn with
  | _ k ih =>
  intro A0 c0 l0 a1 r w hr0 hc0 h
  cases k with
  | zero => exact absurd h (by simp [sorrelref02_depth.f])
  | succ k =>
  simp only [sorrelref02_depth.f] at h
  have HR0 := am hr0
  have HC0 := am hc0
  clear hr0 hc0
  have HB := am (Below.refl w.heap.size w)
  have H : (sorrelref02_depth.l0 k l0 a1 0 0) = some r := h
  clear h
  have H' := am H
  clear H
  go_enter Tryd.func121, Tryd.ntmps121
  go_wp2
  go_loopg [5, 6] k (fun kq v5 v6 w' => ∃ (x5_1 : Int) (x6_1 : Int), v5 = .int .i64 x5_1 ∧ v6 = .int .i64 x6_1 ∧ Aside0 (sorrelref02_depth.l0 kq l0 a1 x5_1 x6_1 = some r) ∧ Aside0 (kq ≤ k) ∧ Aside0 (Below w.heap.size w w'))
  case atStart => exact ⟨(0), (0), (by first | rfl | (simp; done) | (simp [*]; done)), (by first | rfl | (simp; done) | (simp [*]; done)), H', ⟨Nat.le_refl _⟩, ⟨by repeat (first | (with_reducible first | exact HB.out | apply below_alloc | apply pw_below_drewN | apply below_drew1) | exact HB.out)⟩⟩
  case round =>
    clear H'
    try clear c1
    try clear p2
    obtain ⟨x5_1, x6_1, rfl, rfl, HA, HK1, HB⟩ := hrel
    cases gk with
    | zero => exact absurd HA.out (by simp [sorrelref02_depth.l0])
    | succ k1 =>
      have H := HA.out
      clear HA
      simp only [sorrelref02_depth.l0] at H
      by_cases c3 : 0 ≤ a1
      rotate_left
      · rw [if_neg c3] at H
        exact absurd H (by simp)
      rw [if_pos c3] at H
      have c3b0 : decide (0 ≤ a1) = true := decide_eq_true c3
      clear c3
      by_cases c4 : a1 < (l0.length : Int)
      rotate_left
      · rw [if_neg c4] at H
        exact absurd H (by simp)
      rw [if_pos c4] at H
      have c4b0 : decide (a1 < (l0.length : Int)) = true := decide_eq_true c4
      clear c4
      by_cases c5 : x6_1 < (((rd_T45 l0 a1).f3).length : Int)
      rotate_left
      · rw [if_neg c5] at H
        have c5b0 : decide (x6_1 < (((rd_T45 l0 a1).f3).length : Int)) = false := decide_eq_false c5
        clear c5
        obtain rfl := Option.some.inj H
        have p301 : 0 ≤ (a1 : Int) := of_decide_eq_true (by first | (with_reducible assumption) | assumption)
        have q301 : a1 < (l0.length : Int) := of_decide_eq_true (by first | (with_reducible assumption) | assumption)
        obtain ⟨ad301, A301_3, c301_3, e301, hx301_0, hx301_1, hx301_2, hx301_3, hl301_3, hi301_3⟩ := at_T45 HR0.out a1 p301 q301
        cases e301
        replace hx301_0 := (HB.out.cell (World.block_lt_of_cell? w _ hx301_0)).trans hx301_0
        replace hx301_1 := (HB.out.cell (World.block_lt_of_cell? w _ hx301_1)).trans hx301_1
        replace hx301_2 := (HB.out.cell (World.block_lt_of_cell? w _ hx301_2)).trans hx301_2
        replace hx301_3 := (HB.out.cell (World.block_lt_of_cell? w _ hx301_3)).trans hx301_3
        have HR301_3 := am hi301_3
        have HC301_3 := am hl301_3
        clear hi301_3 hl301_3
        replace p301 := eq_true p301
        replace q301 := eq_true q301
        go_wp2
        go_ret
        exact ⟨by first | rfl | (simp [errW_none, errW_some] <;> rfl) | (simp [*, errW_none, errW_some] <;> rfl), by repeat (first | (with_reducible first | exact HB.out | apply below_alloc | apply pw_below_drewN | apply below_drew1) | exact HB.out)⟩
      rw [if_pos c5] at H
      have c5b0 : decide (x6_1 < (((rd_T45 l0 a1).f3).length : Int)) = true := decide_eq_true c5
      clear c5
      by_cases c6 : 0 ≤ x6_1
      rotate_left
      · rw [if_neg c6] at H
        exact absurd H (by simp)
      rw [if_pos c6] at H
      have c6b0 : decide (0 ≤ x6_1) = true := decide_eq_true c6
      clear c6
      replace H := Option.bind_eq_some_iff.mp H
      obtain ⟨t304, A70, H⟩ := H
      replace H : (sorrelref02_depth.l0 k1 l0 a1 (mx x5_1 t304) (wrap64 (x6_1 + 1))) = some r := H
      have A7 := am A70
      clear A70
      obtain ⟨ji8, hji8⟩ : ∃ j_ : Int, (mx x5_1 t304) = j_ := ⟨_, rfl⟩
      replace H : (sorrelref02_depth.l0 k1 l0 a1 ji8 (wrap64 (x6_1 + 1))) = some r := by first | (rw [hji8] at H; exact H) | (simp only [hji8] at H ⊢; exact H)
      (try rw [hji8] at A7)
      have hji8_ : (if x5_1 < t304 then t304 else x5_1) = ji8 := hji8
      have H' := am H
      clear H
      have p301 : 0 ≤ (a1 : Int) := of_decide_eq_true (by first | (with_reducible assumption) | assumption)
      have q301 : a1 < (l0.length : Int) := of_decide_eq_true (by first | (with_reducible assumption) | assumption)
      obtain ⟨ad301, A301_3, c301_3, e301, hx301_0, hx301_1, hx301_2, hx301_3, hl301_3, hi301_3⟩ := at_T45 HR0.out a1 p301 q301
      cases e301
      replace hx301_0 := (HB.out.cell (World.block_lt_of_cell? w _ hx301_0)).trans hx301_0
      replace hx301_1 := (HB.out.cell (World.block_lt_of_cell? w _ hx301_1)).trans hx301_1
      replace hx301_2 := (HB.out.cell (World.block_lt_of_cell? w _ hx301_2)).trans hx301_2
      replace hx301_3 := (HB.out.cell (World.block_lt_of_cell? w _ hx301_3)).trans hx301_3
      have HR301_3 := am hi301_3
      have HC301_3 := am hl301_3
      clear hi301_3 hl301_3
      replace p301 := eq_true p301
      replace q301 := eq_true q301
      have p302 : 0 ≤ (a1 : Int) := of_decide_eq_true (by first | (with_reducible assumption) | assumption)
      have q302 : a1 < (l0.length : Int) := of_decide_eq_true (by first | (with_reducible assumption) | assumption)
      obtain ⟨ad302, A302_3, c302_3, e302, hx302_0, hx302_1, hx302_2, hx302_3, hl302_3, hi302_3⟩ := at_T45 HR0.out a1 p302 q302
      obtain rfl : ad301 = ad302 := (by injection e302)
      replace hx302_0 := (HB.out.cell (World.block_lt_of_cell? w _ hx302_0)).trans hx302_0
      replace hx302_1 := (HB.out.cell (World.block_lt_of_cell? w _ hx302_1)).trans hx302_1
      replace hx302_2 := (HB.out.cell (World.block_lt_of_cell? w _ hx302_2)).trans hx302_2
      replace hx302_3 := (HB.out.cell (World.block_lt_of_cell? w _ hx302_3)).trans hx302_3
      have HR302_3 := am hi302_3
      have HC302_3 := am hl302_3
      clear hi302_3 hl302_3
      replace p302 := eq_true p302
      replace q302 := eq_true q302
      have ea_ := Option.some.inj (hx301_3.symm.trans hx302_3)
      injection ea_ with ea_ en_ ec_
      subst ea_
      subst ec_
      clear en_
      have p303 : 0 ≤ (x6_1 : Int) := of_decide_eq_true (by first | (with_reducible assumption) | assumption)
      have q303 : x6_1 < (((rd_T45 l0 a1).f3).length : Int) := of_decide_eq_true (by first | (with_reducible assumption) | assumption)
      obtain ⟨ad303, e303, hx303_0⟩ := Kd.at_int HR302_3.out x6_1 p303 q303
      cases e303
      replace hx303_0 := (HB.out.cell (World.block_lt_of_cell? w _ hx303_0)).trans hx303_0
      replace p303 := eq_true p303
      replace q303 := eq_true q303
      go_wp2_with (first | ((with_reducible refine gate_callee (f := 121) rfl ?_); refine goesL_ (some 27) rfl rfl Tryd.func121 (by kernel_rfl) rfl #[.slice (some ad301) l0.length c0, .int .i64 (rd ((rd_T45 l0 a1).f3) x6_1)] rfl (by (try simp only [List.map_toArray, List.map_cons, List.map_nil]); first | done | rfl | (simp only [List.length_drop, List.length_take]; rfl)) ?_; (with_reducible refine (ih k1 (by have := HK1.out; omega) _ _ l0 (rd ((rd_T45 l0 a1).f3) x6_1) t304 _ ?side1 ?side2 A7.out).mono ?_); (case side1 => repeat (first | exact (Kd.C_below HR0.out HB.out) | (with_reducible refine Kd.C_alloc ?_ _) | (with_reducible refine Kd.C_drewN ?_ _) | (with_reducible refine Kd.C_drew ?_))); (case side2 => exact HC0.out); rintro e w9 ⟨rfl, hb⟩; refine ⟨_, rfl, ?_⟩; have n0_ := am (below_step (by repeat (first | (with_reducible first | exact HB.out | apply below_alloc | apply pw_below_drewN | apply below_drew1) | exact HB.out)) hb); clear HB; have HB := n0_; clear n0_; (try clear hb); (try clear hb2); (try clear hk); (try clear hi)))
      go_roundg k1
      case measure => have := HK1.out; omega
      case rel => exact ⟨(ji8), (wrap64 (x6_1 + 1)), (by first | rfl | (simp; done) | (simp only [← hji8] <;> (first | rfl | simp)) | (simp [*]; done)), (by first | rfl | (simp; done) | (simp [*]; done)), H', ⟨by have := HK1.out; omega⟩, ⟨by repeat (first | (with_reducible first | exact HB.out | apply below_alloc | apply pw_below_drewN | apply below_drew1) | exact HB.out)⟩⟩
/-! ### sorrelref02_Depth: function 73 -/
def sorrelref02_Depth.f (k : Nat) (l0 : List (S45)) : Option (Int × Int) := (sorrelref02_Check.f k l0).bind fun t305 => (if t305 = 0 then ((sorrelref02_depth.f k l0 (wrap64 ((l0.length : Int) - 1))).bind fun t306 => (some (t306, 0))) else (some (0, 1)))
theorem sorrelref02_Depth.mono : ∀ a0 k, LeO (sorrelref02_Depth.f k a0) (sorrelref02_Depth.f (k + 1) a0) := by
  intro a0 k
  unfold sorrelref02_Depth.f
  repeat' first
      | (with_reducible exact sorrelref02_Check.mono _ _)
      | (with_reducible exact sorrelref02_depth.mono _ _ _)
      | (with_reducible exact LeO.refl _)
      | (with_reducible exact LeO.none _)
      | (with_reducible refine LeO.ite ?_ ?_)
      | (with_reducible refine LeO.bind ?_ (fun _ => ?_))
      | exact sorrelref02_Check.mono _ _
      | exact sorrelref02_depth.mono _ _ _
      | exact LeO.none _
      | refine LeO.ite ?_ ?_
      | refine LeO.bind ?_ (fun _ => ?_)
set_option maxHeartbeats 8000000 in
set_option maxRecDepth 100000 in
theorem sorrelref02_Depth.calls (k : Nat) (A0 : Option Addr) (c0 : Nat) (l0 : List (S45)) (r1 : Int) (r2 : Int) (w : World) (hr0 : Kd.C k45 w A0 l0.length l0) (hc0 : l0.length ≤ c0) (h : sorrelref02_Depth.f k l0 = some (r1, r2)) :
    Calls Tryd.prog 73 #[.slice A0 l0.length c0] w fun e w' => e = .returned (.tuple #[.int .i64 r1, .int .i64 r2]) ∧ Below w.heap.size w w' := by
  have HR0 := am hr0
  have HC0 := am hc0
  clear hr0 hc0
  have HB := am (Below.refl w.heap.size w)
  have H : ((sorrelref02_Check.f k l0).bind fun t305 => (if t305 = 0 then ((sorrelref02_depth.f k l0 (wrap64 ((l0.length : Int) - 1))).bind fun t306 => (some (t306, 0))) else (some (0, 1)))) = some (r1, r2) := h
  clear h
  replace H := Option.bind_eq_some_iff.mp H
  obtain ⟨t305, A20, H⟩ := H
  replace H : (if t305 = 0 then ((sorrelref02_depth.f k l0 (wrap64 ((l0.length : Int) - 1))).bind fun t306 => (some (t306, 0))) else (some (0, 1))) = some (r1, r2) := H
  have A2 := am A20
  clear A20
  by_cases c3 : t305 = 0
  rotate_left
  · rw [if_neg c3] at H
    have c3b0 : (t305 == 0) = false := beq_eq_false_iff_ne.mpr c3
    have c3b1 : (t305 != 0) = true := bne_iff_ne.mpr c3
    simp only [Option.some.injEq, Prod.mk.injEq] at H
    obtain ⟨rfl, rfl⟩ := H
    go_enter Tryd.func73, Tryd.ntmps73
    go_wp2_with (first | ((with_reducible refine gate_callee (f := 32) rfl ?_); refine goesL_ (some 5) rfl rfl Tryd.func32 (by kernel_rfl) rfl #[.slice A0 l0.length c0] rfl (by (try simp only [List.map_toArray, List.map_cons, List.map_nil]); first | done | rfl | (simp only [List.length_drop, List.length_take]; rfl)) ?_; (with_reducible refine (sorrelref02_Check.calls k _ _ l0 t305 _ ?side1 ?side2 A2.out).mono ?_); (case side1 => repeat (first | exact HR0.out | (with_reducible refine Kd.C_alloc ?_ _) | (with_reducible refine Kd.C_drewN ?_ _) | (with_reducible refine Kd.C_drew ?_))); (case side2 => exact HC0.out); rintro e w7 ⟨rfl, hb⟩; refine ⟨_, rfl, ?_⟩; have n0_ := am (below_step (by repeat (first | (with_reducible first | exact HB.out | apply below_alloc | apply pw_below_drewN | apply below_drew1) | exact HB.out)) hb); clear HB; have HB := n0_; clear n0_; (try clear hb); (try clear hb2); (try clear hk); (try clear hi)))
    go_ret2
    exact ⟨by first | rfl | (simp [errW_none, errW_some] <;> rfl) | (simp [*, errW_none, errW_some] <;> rfl), by repeat (first | (with_reducible first | exact HB.out | apply below_alloc | apply pw_below_drewN | apply below_drew1) | exact HB.out)⟩
  rw [if_pos c3] at H
  have c3b0 : (t305 == 0) = true := beq_iff_eq.mpr c3
  have c3b1 : (t305 != 0) = false := bne_eq_false_iff_eq.mpr c3
  clear c3
  replace H := Option.bind_eq_some_iff.mp H
  obtain ⟨t306, A40, H⟩ := H
  replace H : (some (t306, 0)) = some (r1, r2) := H
  have A4 := am A40
  clear A40
  simp only [Option.some.injEq, Prod.mk.injEq] at H
  obtain ⟨rfl, rfl⟩ := H
  go_enter Tryd.func73, Tryd.ntmps73
  go_wp2_with (first | ((with_reducible refine gate_callee (f := 32) rfl ?_); refine goesL_ (some 5) rfl rfl Tryd.func32 (by kernel_rfl) rfl #[.slice A0 l0.length c0] rfl (by (try simp only [List.map_toArray, List.map_cons, List.map_nil]); first | done | rfl | (simp only [List.length_drop, List.length_take]; rfl)) ?_; (with_reducible refine (sorrelref02_Check.calls k _ _ l0 t305 _ ?side1 ?side2 A2.out).mono ?_); (case side1 => repeat (first | exact HR0.out | (with_reducible refine Kd.C_alloc ?_ _) | (with_reducible refine Kd.C_drewN ?_ _) | (with_reducible refine Kd.C_drew ?_))); (case side2 => exact HC0.out); rintro e w5 ⟨rfl, hb⟩; refine ⟨_, rfl, ?_⟩; have n0_ := am (below_step (by repeat (first | (with_reducible first | exact HB.out | apply below_alloc | apply pw_below_drewN | apply below_drew1) | exact HB.out)) hb); clear HB; have HB := n0_; clear n0_; (try clear hb); (try clear hb2); (try clear hk); (try clear hi)) | ((with_reducible refine gate_callee (f := 121) rfl ?_); refine goesL_ (some 11) rfl rfl Tryd.func121 (by kernel_rfl) rfl #[.slice A0 l0.length c0, .int .i64 (wrap64 ((l0.length : Int) - 1))] rfl (by (try simp only [List.map_toArray, List.map_cons, List.map_nil]); first | done | rfl | (simp only [List.length_drop, List.length_take]; rfl)) ?_; (with_reducible refine (sorrelref02_depth.calls k _ _ l0 (wrap64 ((l0.length : Int) - 1)) t306 _ ?side1 ?side2 A4.out).mono ?_); (case side1 => repeat (first | exact (Kd.C_below HR0.out HB.out) | (with_reducible refine Kd.C_alloc ?_ _) | (with_reducible refine Kd.C_drewN ?_ _) | (with_reducible refine Kd.C_drew ?_))); (case side2 => exact HC0.out); rintro e w6 ⟨rfl, hb⟩; refine ⟨_, rfl, ?_⟩; have n0_ := am (below_step (by repeat (first | (with_reducible first | exact HB.out | apply below_alloc | apply pw_below_drewN | apply below_drew1) | exact HB.out)) hb); clear HB; have HB := n0_; clear n0_; (try clear hb); (try clear hb2); (try clear hk); (try clear hi)))
  go_ret2
  exact ⟨by first | rfl | (simp [errW_none, errW_some] <;> rfl) | (simp [*, errW_none, errW_some] <;> rfl), by repeat (first | (with_reducible first | exact HB.out | apply below_alloc | apply pw_below_drewN | apply below_drew1) | exact HB.out)⟩
end Go.Proofs.YtacjjfoelhckcaaDoor.PExprPlays
