/- Contracts of runes.Order and the reference's Order, proved by walking. -/
import Derived.Test.YtacjjfoelhckcaaDoorA10
import Derived.Deep.RegionHeld3
namespace Go.Proofs.YtacjjfoelhckcaaDoor
open Go.RowKit Go.Proofs.YtacjjfoelhckcaaDoorW.PrintWords
set_option linter.unusedVariables false

theorem conv_runes (s : ByteArray) : ∀ (n i : Nat) (acc : Array Value), Conv.runesFrom s n i acc = acc ++ ((runesFrom s n i).map fun p => Value.int .i32 p.2).toArray := by
  intro n
  induction n with
  | zero => intro i acc; simp [Conv.runesFrom, runesFrom]
  | succ n ih =>
    intro i acc
    by_cases h : i < s.size
    · rw [Conv.runesFrom, runesFrom, if_pos h, if_pos h, List.map_cons]
      have := ih (i + (Utf8.decode s i).2) (acc.push (.int .i32 ((Utf8.decode s i).1 : Int)))
      refine this.trans ?_
      simp
    · rw [Conv.runesFrom, runesFrom, if_neg h, if_neg h]
      simp
def runeRow (s : ByteArray) : Array Value := ((runesL s).map (Value.int .i32)).toArray
theorem conv_all (s : ByteArray) : Conv.runesFrom s s.size 0 #[] = runeRow s := by
  rw [conv_runes, runeRow, runesL, runesAt, Nat.sub_zero, List.map_map]
  simp
theorem runeRow_size (s : ByteArray) : (runeRow s).size = (runesL s).length := by simp [runeRow]
theorem runeRow_at (s : ByteArray) (p : Array Value) (j : Nat) (h : j < (runesL s).length) : (runeRow s ++ p)[j]? = some (.int .i32 ((runesL s).getD j 0)) := by
  rw [Array.getElem?_append_left (by rw [runeRow_size]; exact h), getD_lt _ _ _ h]
  simp [runeRow, h]
theorem two_rows (s t : ByteArray) (hs : (runesL s).length ≤ 70368744177664) (ht : (runesL t).length ≤ 70368744177664) (w : World) :
    ∃ (w1 w2 : World) (o1 o2 : Obj) (c1 c2 : Nat), w1 = w.drew.alloc o1 ∧ w2 = w1.drew.alloc o2 ∧
      (convert 9 166 (.string s)).run Tryd.prog w = .ok (.slice (some ⟨w.heap.size, 0, none⟩) (runesL s).length c1) w1 ∧
      (convert 9 166 (.string t)).run Tryd.prog w1 = .ok (.slice (some ⟨w.heap.size + 1, 0, none⟩) (runesL t).length c2) w2 ∧
      (∀ j, j < (runesL s).length → w2.cell? ⟨w.heap.size, 0 + j, none⟩ = some (.int .i32 ((runesL s).getD j 0))) ∧
      (∀ j, j < (runesL t).length → w2.cell? ⟨w.heap.size + 1, 0 + j, none⟩ = some (.int .i32 ((runesL t).getD j 0))) := by
  have e1 := run_runes_of_string (P := Tryd.prog) w 9 166 21 s Tryd.underlying9 Tryd.underlying166 Tryd.underlying21 (by rw [conv_all, runeRow_size]; exact hs)
  rw [conv_all, runeRow_size] at e1
  obtain ⟨w1, hw1⟩ : ∃ w1, w1 = w.drew.alloc (.cells (runeRow s ++ Array.replicate (grownCap w (runesL s).length 0 21 - (runesL s).length) (.int .i32 0)) 21) := ⟨_, rfl⟩
  rw [← hw1] at e1
  have e2 := run_runes_of_string (P := Tryd.prog) w1 9 166 21 t Tryd.underlying9 Tryd.underlying166 Tryd.underlying21 (by rw [conv_all, runeRow_size]; exact ht)
  rw [conv_all, runeRow_size] at e2
  have hz : w1.heap.size = w.heap.size + 1 := by rw [hw1]; simp
  generalize grownCap w (runesL s).length 0 21 = g1 at *
  generalize grownCap w1 (runesL t).length 0 21 = g2 at *
  rw [hz] at e2
  refine ⟨w1, w1.drew.alloc (.cells (runeRow t ++ Array.replicate (g2 - (runesL t).length) (.int .i32 0)) 21), .cells (runeRow s ++ Array.replicate (g1 - (runesL s).length) (.int .i32 0)) 21, .cells (runeRow t ++ Array.replicate (g2 - (runesL t).length) (.int .i32 0)) 21, g1, g2, hw1, rfl, e1, e2, ?_, ?_⟩
  · intro j hj
    refine (World.cell?_alloc_lt (w := w1.drew) (a := ⟨w.heap.size, 0 + j, none⟩) _ (show w.heap.size < w1.heap.size by omega)).trans ?_
    show w1.cell? _ = _
    rw [hw1, Nat.zero_add]
    refine (World.cell?_alloc_mark w.drew _ 21 (0, 0) j).trans ?_
    exact runeRow_at s _ j hj
  · intro j hj
    rw [← hz, Nat.zero_add]
    refine (World.cell?_alloc_mark w1.drew _ 21 (0, 0) j).trans ?_
    exact runeRow_at t _ j hj
set_option maxHeartbeats 1000000 in
theorem order_calls (s t : ByteArray) (hs : (runesL s).length ≤ 70368744177664) (ht : (runesL t).length ≤ 70368744177664) (w : World) :
    Calls Tryd.prog 117 #[.string s, .string t] w fun e w' => e = .returned (.int .i64 (cmpL (runesL s) (runesL t))) ∧ ∃ o1 o2, w' = ((w.drew.alloc o1).drew).alloc o2 := by
  obtain ⟨w1, w2, o1, o2, c1, c2, h1, h2, e1, e2, a1, a2⟩ := two_rows s t hs ht w
  have C := Lib.hid (cmpRunes_calls w.heap.size (w.heap.size + 1) 0 0 c1 c2 (runesL s) (runesL t) w2 (by omega) (by omega) a1 a2)
  clear a1 a2
  generalize cmpL (runesL s) (runesL t) = V at C ⊢
  have H2 : Hid (w2 = ((w.drew.alloc o1).drew).alloc o2) := Lib.hid (by rw [h2, h1])
  clear h1 h2
  generalize (runesL s).length = n1 at *
  generalize (runesL t).length = n2 at *
  go_enter Tryd.func117, Tryd.ntmps117
  go_wp2_with (go_at_call 147; (with_reducible refine C.out.mono ?_); rintro e w' ⟨rfl, rfl⟩)
  go_ret
  exact ⟨rfl, o1, o2, H2.out⟩
set_option maxHeartbeats 4000000 in
set_option maxRecDepth 100000 in
theorem refOrder_calls (s t : ByteArray) (hs : (runesL s).length ≤ 70368744177664) (ht : (runesL t).length ≤ 70368744177664) (w : World) :
    Calls Tryd.prog 70 #[.string s, .string t] w fun e w' => e = .returned (.int .i64 (cmpL (runesL s) (runesL t))) ∧ Below w.heap.size w w' := by
  obtain ⟨w1, w2, o1, o2, c1, c2, h1, h2, e1, e2, a1, a2⟩ := two_rows s t hs ht w
  have B2 : Hid (Below w.heap.size w w2) := Lib.hid (by rw [h2, h1]; exact below_alloc (below_drew1 (below_alloc (below_drew1 (Below.refl _ _)) _)) _)
  have Z : w2.heap.size = w.heap.size + 2 := by rw [h2, h1]; simp
  have A1 := Lib.hid a1
  have A2 := Lib.hid a2
  clear h1 h2 a1 a2
  obtain ⟨V, hV⟩ : ∃ V, V = cmpL (runesL s) (runesL t) := ⟨_, rfl⟩
  rw [← hV]
  have HV := Lib.hid hV
  clear hV
  generalize runesL s = xs at *
  generalize runesL t = ys at *
  go_enter Tryd.func70, Tryd.ntmps70
  go_wp2
  go_loopw [7] (fun i wr => ∃ k : Nat, k ≤ xs.length ∧ k ≤ ys.length ∧ i = .int .i64 k ∧ Below w2.heap.size w2 wr ∧ V = cmpL (xs.drop k) (ys.drop k)) (fun i _ => xs.length - (intOf i).toNat)
  case atStart => exact ⟨0, Nat.zero_le _, Nat.zero_le _, rfl, Below.refl _ _, HV.out⟩
  case round =>
    obtain ⟨k, hk, hky, rfl, hb, he⟩ := hrel
    have He := Lib.hid he
    clear he
    have BB : ∀ W, Below w2.heap.size w2 W → Below w.heap.size w W := fun W hW => B2.out.trans (hW.mono (by omega))
    by_cases hlt : k < xs.length
    · by_cases hly : k < ys.length
      · have hca := (hb.cell (p := ⟨w.heap.size, 0 + k, none⟩) (by show w.heap.size < w2.heap.size; omega)).trans (A1.out k hlt)
        have hcb := (hb.cell (p := ⟨w.heap.size + 1, 0 + k, none⟩) (by show w.heap.size + 1 < w2.heap.size; omega)).trans (A2.out k hly)
        rw [Nat.zero_add] at hca hcb
        have Hc := Lib.hid (cmpL_cons xs ys k hlt hly)
        generalize xs.getD k 0 = x at *
        generalize ys.getD k 0 = y at *
        have HB := Lib.hid BB
        clear BB
        by_cases h1 : x < y
        · have E : Hid (V = -1) := Lib.hid (by rw [He.out, Hc.out, show cmpI x y = -1 from if_pos h1]; rfl)
          clear He Hc
          go_wp2
          go_region_held3 (fun W => W.cell? ⟨w.heap.size, k, none⟩ = some (.int .i32 x) ∧ W.cell? ⟨w.heap.size + 1, k, none⟩ = some (.int .i32 y)) (go_keep) (fail)
          all_goals go_wp2
          go_ret
          exact ⟨by rw [E.out]; rfl, HB.out _ hb.drew⟩
        · by_cases h2 : y < x
          · have E : Hid (V = 1) := Lib.hid (by rw [He.out, Hc.out, show cmpI x y = 1 from (if_neg h1).trans (if_pos h2)]; rfl)
            clear He Hc
            go_wp2
            go_region_held3 (fun W => W.cell? ⟨w.heap.size, k, none⟩ = some (.int .i32 x) ∧ W.cell? ⟨w.heap.size + 1, k, none⟩ = some (.int .i32 y)) (go_keep) (fail)
            all_goals go_wp2
            go_region_held3 (fun W => W.cell? ⟨w.heap.size, k, none⟩ = some (.int .i32 x) ∧ W.cell? ⟨w.heap.size + 1, k, none⟩ = some (.int .i32 y)) (go_keep) (fail)
            all_goals go_wp2
            go_ret
            exact ⟨by rw [E.out]; rfl, HB.out _ hb.drew.drew⟩
          · have E : Hid (V = cmpL (xs.drop (k + 1)) (ys.drop (k + 1))) := Lib.hid (by rw [He.out, Hc.out, show cmpI x y = 0 from (if_neg h1).trans (if_neg h2)]; rfl)
            clear He Hc
            go_wp2
            go_region_held3 (fun W => W.cell? ⟨w.heap.size, k, none⟩ = some (.int .i32 x) ∧ W.cell? ⟨w.heap.size + 1, k, none⟩ = some (.int .i32 y)) (go_keep) (fail)
            all_goals go_wp2
            go_region_held3 (fun W => W.cell? ⟨w.heap.size, k, none⟩ = some (.int .i32 x) ∧ W.cell? ⟨w.heap.size + 1, k, none⟩ = some (.int .i32 y)) (go_keep) (fail)
            all_goals go_wp2
            go_roundw
            case rel => exact ⟨k + 1, by omega, by omega, by go_num, hb.drew.drew, E.out⟩
            case measure => simp only [intOf]; omega
      · have E : Hid (V = 1) := Lib.hid (by rw [He.out, show ys.drop k = [] from List.drop_eq_nil_of_le (by omega), List.drop_eq_getElem_cons hlt]; rfl)
        clear He
        go_wp2
        go_ret
        exact ⟨by rw [E.out]; rfl, BB _ hb⟩
    · by_cases hly : k < ys.length
      · have E : Hid (V = -1) := Lib.hid (by rw [He.out, show xs.drop k = [] from List.drop_eq_nil_of_le (by omega), List.drop_eq_getElem_cons hly]; rfl)
        clear He
        go_wp2
        go_ret
        exact ⟨by rw [E.out]; rfl, BB _ hb⟩
      · have E : Hid (V = 0) := Lib.hid (by rw [He.out, List.drop_eq_nil_of_le (by omega), List.drop_eq_nil_of_le (by omega)]; rfl)
        clear He
        go_wp2
        go_ret
        exact ⟨by rw [E.out]; rfl, BB _ hb⟩
/-! ### in the printed contracts' form -/
def orderR (a0 a1 : ByteArray) : Option Int := if (runesL a0).length ≤ 70368744177664 ∧ (runesL a1).length ≤ 70368744177664 then some (cmpL (runesL a0) (runesL a1)) else none
def runes_Order.f (a0 a1 : ByteArray) : Option Int := orderR a0 a1
theorem runes_Order.calls (a0 a1 : ByteArray) (r : Int) (w : World) (h : runes_Order.f a0 a1 = some r) :
    Calls Tryd.prog 117 #[.string a0, .string a1] w fun e w' => e = .returned (.int .i64 r) ∧ Below w.heap.size w w' := by
  unfold runes_Order.f orderR at h
  split at h
  · rename_i hc
    obtain rfl := Option.some.inj h
    refine (order_calls a0 a1 hc.1 hc.2 w).mono ?_
    rintro e w' ⟨he, o1, o2, rfl⟩
    exact ⟨he, below_alloc (below_drew1 (below_alloc (below_drew1 (Below.refl _ _)) _)) _⟩
  · cases h
def sorrelref01_Order.f (a0 a1 : ByteArray) : Option Int := orderR a0 a1
theorem sorrelref01_Order.calls (a0 a1 : ByteArray) (r : Int) (w : World) (h : sorrelref01_Order.f a0 a1 = some r) :
    Calls Tryd.prog 70 #[.string a0, .string a1] w fun e w' => e = .returned (.int .i64 r) ∧ Below w.heap.size w w' := by
  unfold sorrelref01_Order.f orderR at h
  split at h
  · rename_i hc
    obtain rfl := Option.some.inj h
    exact refOrder_calls a0 a1 hc.1 hc.2 w
  · cases h
end Go.Proofs.YtacjjfoelhckcaaDoor
