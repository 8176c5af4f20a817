/- Contracts of cmp.Compare and slices.Compare at runes, proved by walking. -/
import Derived.Test.YtacjjfoelhckcaaDoorM5
import Derived.Laws.IdiomStrings
namespace Go.Proofs.YtacjjfoelhckcaaDoor
open Go.RowKit Go.Proofs.YtacjjfoelhckcaaDoorW.PrintWords
set_option linter.unusedVariables false

theorem isNaN_calls (x : Int) (w : World) : Calls Tryd.prog 179 #[.int .i32 x] w fun e w' => e = .returned (.bool false) ∧ w' = w := by
  have hx : (x != x) = false := by simp
  go_enter Tryd.func179, Tryd.ntmps179
  go_wp2
  go_ret
  exact ⟨rfl, rfl⟩
theorem cmpRune_calls (x y : Int) (w : World) : Calls Tryd.prog 166 #[.int .i32 x, .int .i32 y] w fun e w' => e = .returned (.int .i64 (cmpI x y)) ∧ w' = w := by
  by_cases h1 : x < y
  · have e1 : cmpI x y = -1 := if_pos h1
    have E := Lib.hid e1
    clear e1
    generalize cmpI x y = r at E
    go_enter Tryd.func166, Tryd.ntmps166
    go_wp2_with (go_at_call 179; refine (isNaN_calls _ _).mono ?_; rintro e w' ⟨rfl, rfl⟩)
    go_ret
    exact ⟨by rw [E.out]; rfl, rfl⟩
  · by_cases h2 : y < x
    · have e1 : cmpI x y = 1 := (if_neg h1).trans (if_pos h2)
      have E := Lib.hid e1
      clear e1
      generalize cmpI x y = r at E
      go_enter Tryd.func166, Tryd.ntmps166
      go_wp2_with (go_at_call 179; refine (isNaN_calls _ _).mono ?_; rintro e w' ⟨rfl, rfl⟩)
      go_ret
      exact ⟨by rw [E.out]; rfl, rfl⟩
    · have e1 : cmpI x y = 0 := (if_neg h1).trans (if_neg h2)
      have E := Lib.hid e1
      clear e1
      generalize cmpI x y = r at E
      go_enter Tryd.func166, Tryd.ntmps166
      go_wp2_with (go_at_call 179; refine (isNaN_calls _ _).mono ?_; rintro e w' ⟨rfl, rfl⟩)
      go_ret
      exact ⟨by rw [E.out]; rfl, rfl⟩
theorem cmpL_cons (xs ys : List Int) (k : Nat) (hx : k < xs.length) (hy : k < ys.length) : cmpL (xs.drop k) (ys.drop k) = orI (cmpI (xs.getD k 0) (ys.getD k 0)) (cmpL (xs.drop (k + 1)) (ys.drop (k + 1))) := by
  rw [List.drop_eq_getElem_cons hx, List.drop_eq_getElem_cons hy, cmpL, getD_lt xs k 0 hx, getD_lt ys k 0 hy]
set_option maxHeartbeats 2000000 in
theorem cmpRunes_calls (a b oa ob c c' : Nat) (xs ys : List Int) (w : World) (hx : xs.length ≤ 9223372036854775800) (hy : ys.length ≤ 9223372036854775800)
    (ha : ∀ j, j < xs.length → w.cell? ⟨a, oa + j, none⟩ = some (.int .i32 (xs.getD j 0))) (hb : ∀ j, j < ys.length → w.cell? ⟨b, ob + j, none⟩ = some (.int .i32 (ys.getD j 0))) :
    Calls Tryd.prog 147 #[.slice (some ⟨a, oa, none⟩) xs.length c, .slice (some ⟨b, ob, none⟩) ys.length c'] w fun e w' => e = .returned (.int .i64 (cmpL xs ys)) ∧ w' = w := by
  obtain ⟨V, hV⟩ : ∃ V, V = cmpL xs ys := ⟨_, rfl⟩
  rw [← hV]
  have HV := Lib.hid hV
  clear hV
  go_enter Tryd.func147, Tryd.ntmps147
  go_wp2
  go_loop [11] (fun i => ∃ k : Nat, k ≤ xs.length ∧ k ≤ ys.length ∧ i = .int .i64 k ∧ V = cmpL (xs.drop k) (ys.drop k)) (fun i => xs.length - (intOf i).toNat)
  case atStart => exact ⟨0, Nat.zero_le _, Nat.zero_le _, rfl, HV.out⟩
  case round =>
    obtain ⟨k, hk, hky, rfl, he⟩ := hrel
    have He := Lib.hid he
    clear he
    by_cases hlt : k < xs.length
    · by_cases hly : k < ys.length
      · have hca := ha k hlt
        have hcb := hb k hly
        clear ha hb
        have Hc := Lib.hid (cmpL_cons xs ys k hlt hly)
        generalize xs.getD k 0 = x at *
        generalize ys.getD k 0 = y at *
        have C := Lib.hid (cmpRune_calls x y w)
        generalize hr : cmpI x y = r at *
        clear hr
        by_cases hr0 : r = 0
        · have E : Hid (V = cmpL (xs.drop (k + 1)) (ys.drop (k + 1))) := Lib.hid (by rw [He.out, Hc.out, hr0]; rfl)
          clear He Hc
          subst hr0
          go_wp2_with (go_at_call 166; (with_reducible refine C.out.mono ?_); rintro e w' ⟨rfl, rfl⟩)
          go_round
          case rel => exact ⟨k + 1, by omega, by omega, by go_num, E.out⟩
          case measure => simp only [intOf]; omega
        · have E : Hid (V = r) := Lib.hid (by rw [He.out, Hc.out]; exact if_neg hr0)
          clear He Hc
          go_wp2_with (go_at_call 166; (with_reducible refine C.out.mono ?_); rintro e w' ⟨rfl, rfl⟩)
          go_ret
          exact ⟨by rw [E.out]; rfl, rfl⟩
      · have E : Hid (V = 1) := Lib.hid (by rw [He.out, show ys.drop k = [] from List.drop_eq_nil_of_le (by omega), List.drop_eq_getElem_cons hlt]; rfl)
        clear He
        have hca := ha k hlt
        go_wp2
        go_ret
        exact ⟨by rw [E.out]; rfl, rfl⟩
    · by_cases hly : k < ys.length
      · have E : Hid (V = -1) := Lib.hid (by rw [He.out, show xs.drop k = [] from List.drop_eq_nil_of_le (by omega), List.drop_eq_getElem_cons hly]; rfl)
        clear He
        go_wp2
        go_ret
        exact ⟨by rw [E.out]; rfl, rfl⟩
      · have E : Hid (V = 0) := Lib.hid (by rw [He.out, List.drop_eq_nil_of_le (by omega), List.drop_eq_nil_of_le (by omega)]; rfl)
        clear He
        go_wp2
        go_ret
        exact ⟨by rw [E.out]; rfl, rfl⟩
end Go.Proofs.YtacjjfoelhckcaaDoor
