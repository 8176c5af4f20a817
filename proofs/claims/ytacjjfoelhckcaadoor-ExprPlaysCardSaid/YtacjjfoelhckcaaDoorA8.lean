/- Contracts of the reference's Arity and Form (sorrelref02), proved by walking. -/
import Derived.Test.YtacjjfoelhckcaaDoorA7
import Derived.Deep.QuietTactic
import Derived.BigQuiet
namespace Go.Proofs.YtacjjfoelhckcaaDoor
open Go.RowKit Go.Proofs.YtacjjfoelhckcaaDoorW.PrintWords
set_option linter.unusedVariables false

def arityZ (op : Int) : Int := if op = 1 ∨ op = 2 then 0 else if op = 3 ∨ op = 4 then 1 else if op = 17 then 3 else if 5 ≤ op ∧ op ≤ 16 then 2 else -1
set_option maxHeartbeats 1000000 in
theorem arity_calls (op : Int) (w : World) :
    Calls Tryd.prog 24 #[.int .i64 op] w fun e w' => e = .returned (.int .i64 (arityZ op)) ∧ w' = w := by
  generalize hd : arityZ op = d
  have Hd := Lib.hid hd
  clear hd
  go_enter Tryd.func24, Tryd.ntmps24
  go_wp2
  all_goals
    go_ret
    refine ⟨?_, rfl⟩
    rw [← Hd.out]
    show Ending.returned (Value.int .i64 _) = _
    congr 2
    unfold arityZ
    (try simp only [beq_iff_eq, beq_eq_false_iff_ne, ne_eq] at *)
    first | rw [if_pos (by omega)] | rw [if_neg (by omega), if_pos (by omega)] | rw [if_neg (by omega), if_neg (by omega), if_pos (by omega)] | rw [if_neg (by omega), if_neg (by omega), if_neg (by omega), if_pos (by omega)] | rw [if_neg (by omega), if_neg (by omega), if_neg (by omega), if_neg (by omega)]

def sorrelref02_Form.f (a0_0 a0_1 : Int) (a0_2 : ByteArray) (l0_3 : List Int) : Option Bool :=
  if arityZ a0_0 < 0 ∨ arityZ a0_0 ≠ l0_3.length ∨ (a0_0 ≠ 1 ∧ a0_1 ≠ 0) then some false
  else if a0_0 = 2 then sorrelref01_Name.f a0_2 else some (a0_2.toList == [])
set_option maxHeartbeats 4000000 in
set_option maxRecDepth 100000 in
theorem sorrelref02_Form.calls (a0_0 : Int) (a0_1 : Int) (a0_2 : ByteArray) (A0_3 : Option Addr) (c0_3 : Nat) (l0_3 : List Int) (r : Bool) (w : World) (hr0_3 : Kd.C (Kd.int .i64) w A0_3 l0_3.length l0_3) (hc0_3 : l0_3.length ≤ c0_3) (h : sorrelref02_Form.f a0_0 a0_1 a0_2 l0_3 = some r) :
    Calls Tryd.prog 78 #[.agg #[.int .i64 a0_0, .int .i64 a0_1, .string a0_2, .slice A0_3 l0_3.length c0_3]] w fun e w' => e = .returned (.bool r) ∧ Below w.heap.size w w' := by
  clear hr0_3 hc0_3
  have hu45 := Tryd.underlying45
  have CA : Hid (∀ W, Calls Tryd.prog 24 #[.int .i64 a0_0] W fun e w' => e = .returned (.int .i64 (arityZ a0_0)) ∧ w' = W) := Lib.hid (arity_calls a0_0)
  have H := Lib.hid h
  unfold sorrelref02_Form.f at H
  clear h
  generalize arityZ a0_0 = k at CA H
  generalize l0_3.length = m at H ⊢
  by_cases h1 : k < 0
  · have h1' : decide (k < 0) = true := decide_eq_true h1
    have hr : Hid (false = r) := Lib.hid (by have := H.out; rw [if_pos (Or.inl h1)] at this; exact Option.some.inj this)
    clear H h1
    go_enter Tryd.func78, Tryd.ntmps78
    go_wp2
    go_quiet (refine Calls.quiet_of_same (CA.out _))
    go_wp2
    go_ret
    exact ⟨by rw [← hr.out]; rfl, pw_below_drewN ((Below.refl _ _).alloc (Nat.le_refl _) _) _⟩
  · have h1' : decide (k < 0) = false := decide_eq_false h1
    by_cases h2 : k ≠ m
    · have h2' : (k != (m : Int)) = true := by rw [bne_iff_ne]; exact h2
      have hr : Hid (false = r) := Lib.hid (by have := H.out; rw [if_pos (Or.inr (Or.inl h2))] at this; exact Option.some.inj this)
      clear H h1 h2
      go_enter Tryd.func78, Tryd.ntmps78
      go_wp2
      go_quiet (refine Calls.quiet_of_same (CA.out _))
      go_wp2
      go_ret
      exact ⟨by rw [← hr.out]; rfl, pw_below_drewN ((Below.refl _ _).alloc (Nat.le_refl _) _) _⟩
    have h2' : (k != (m : Int)) = false := by rw [bne_eq_false_iff_eq]; exact Decidable.not_not.1 h2
    cases h3 : a0_0 != 1 with
    | true =>
      cases h4 : a0_1 != 0 with
      | true =>
        have hr : Hid (false = r) := Lib.hid (by have := H.out; rw [if_pos (Or.inr (Or.inr ⟨bne_iff_ne.1 h3, bne_iff_ne.1 h4⟩))] at this; exact Option.some.inj this)
        clear H h1 h2
        go_enter Tryd.func78, Tryd.ntmps78
        go_wp2
        go_quiet (refine Calls.quiet_of_same (CA.out _))
        go_wp2
        go_ret
        exact ⟨by rw [← hr.out]; rfl, pw_below_drewN ((Below.refl _ _).alloc (Nat.le_refl _) _) _⟩
      | false =>
        have H2 := Lib.hid (by have := H.out; rw [if_neg (by rintro (h | h | ⟨_, h⟩); · exact h1 h
                                                             · exact h2 h
                                                             · exact h (bne_eq_false_iff_eq.1 h4))] at this; exact this)
        clear H h1 h2
        cases h5 : a0_0 == 2 with
        | true =>
          have H3 : Hid (sorrelref01_Name.f a0_2 = some r) := Lib.hid (by have := H2.out; rw [if_pos (beq_iff_eq.1 h5)] at this; exact this)
          clear H2
          go_enter Tryd.func78, Tryd.ntmps78
          go_wp2
          go_quiet (refine Calls.quiet_of_same (CA.out _))
          go_wp2_with (refine (sorrelref01_Name.calls a0_2 r _ H3.out).mono ?_; rintro e w1 ⟨rfl, hk⟩)
          go_ret
          exact ⟨rfl, below_then (pw_below_drewN ((Below.refl _ _).alloc (Nat.le_refl _) _) _) (by simp) hk⟩
        | false =>
          have H3 : Hid ((a0_2.toList == []) = r) := Lib.hid (by have := H2.out; rw [if_neg (beq_eq_false_iff_ne.1 h5)] at this; exact Option.some.inj this)
          clear H2
          cases h6 : a0_2.toList == [] with
          | true =>
            have h7 : a0_2.toList = [] := beq_iff_eq.1 h6
            have hr : Hid (true = r) := Lib.hid (by rw [← H3.out, h6])
            clear H3 h6
            go_enter Tryd.func78, Tryd.ntmps78
            go_wp2
            go_quiet (refine Calls.quiet_of_same (CA.out _))
            go_wp2
            go_ret
            exact ⟨by rw [← hr.out]; first | rfl | (simp [*]; done), pw_below_drewN ((Below.refl _ _).alloc (Nat.le_refl _) _) _⟩
          | false =>
            have h7 : a0_2.toList.isEmpty = false := by cases h : a0_2.toList with
              | nil => rw [h] at h6; cases h6
              | cons _ _ => rfl
            have hr : Hid (false = r) := Lib.hid (by rw [← H3.out, h6])
            clear H3
            go_enter Tryd.func78, Tryd.ntmps78
            go_wp2
            go_quiet (refine Calls.quiet_of_same (CA.out _))
            go_wp2
            go_ret
            exact ⟨by rw [← hr.out]; first | rfl | (simp [*]; done), pw_below_drewN ((Below.refl _ _).alloc (Nat.le_refl _) _) _⟩
    | false =>
      have H2 := Lib.hid (by have := H.out; rw [if_neg (by rintro (h | h | ⟨h, _⟩); · exact h1 h
                                                           · exact h2 h
                                                           · exact h (bne_eq_false_iff_eq.1 h3))] at this; exact this)
      clear H h1 h2
      cases h5 : a0_0 == 2 with
      | true =>
        have H3 : Hid (sorrelref01_Name.f a0_2 = some r) := Lib.hid (by have := H2.out; rw [if_pos (beq_iff_eq.1 h5)] at this; exact this)
        clear H2
        go_enter Tryd.func78, Tryd.ntmps78
        go_wp2
        go_quiet (refine Calls.quiet_of_same (CA.out _))
        go_wp2_with (refine (sorrelref01_Name.calls a0_2 r _ H3.out).mono ?_; rintro e w1 ⟨rfl, hk⟩)
        go_ret
        exact ⟨rfl, below_then (pw_below_drewN ((Below.refl _ _).alloc (Nat.le_refl _) _) _) (by simp) hk⟩
      | false =>
        have H3 : Hid ((a0_2.toList == []) = r) := Lib.hid (by have := H2.out; rw [if_neg (beq_eq_false_iff_ne.1 h5)] at this; exact Option.some.inj this)
        clear H2
        cases h6 : a0_2.toList == [] with
        | true =>
          have h7 : a0_2.toList = [] := beq_iff_eq.1 h6
          have hr : Hid (true = r) := Lib.hid (by rw [← H3.out, h6])
          clear H3 h6
          go_enter Tryd.func78, Tryd.ntmps78
          go_wp2
          go_quiet (refine Calls.quiet_of_same (CA.out _))
          go_wp2
          go_ret
          exact ⟨by rw [← hr.out]; first | rfl | (simp [*]; done), pw_below_drewN ((Below.refl _ _).alloc (Nat.le_refl _) _) _⟩
        | false =>
          have h7 : a0_2.toList.isEmpty = false := by cases h : a0_2.toList with
            | nil => rw [h] at h6; cases h6
            | cons _ _ => rfl
          have hr : Hid (false = r) := Lib.hid (by rw [← H3.out, h6])
          clear H3
          go_enter Tryd.func78, Tryd.ntmps78
          go_wp2
          go_quiet (refine Calls.quiet_of_same (CA.out _))
          go_wp2
          go_ret
          exact ⟨by rw [← hr.out]; first | rfl | (simp [*]; done), pw_below_drewN ((Below.refl _ _).alloc (Nat.le_refl _) _) _⟩

end Go.Proofs.YtacjjfoelhckcaaDoor
