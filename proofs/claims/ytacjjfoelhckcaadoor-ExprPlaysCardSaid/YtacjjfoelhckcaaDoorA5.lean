/- Contracts of the reference's characters (sorrelref01: within, Digit, letter, Kind, behind), proved by walking. -/
import Derived.Test.YtacjjfoelhckcaaDoorA4
namespace Go.Proofs.YtacjjfoelhckcaaDoor
open Go.RowKit Go.Proofs.YtacjjfoelhckcaaDoorW.PrintWords

def winB (r lo hi : Int) : Bool := decide (lo ≤ r) && decide (r ≤ hi)
set_option maxHeartbeats 1000000 in
theorem within_calls (r lo hi : Int) (w : World) :
    Calls Tryd.prog 129 #[.int .i32 r, .int .i32 lo, .int .i32 hi] w fun e w' => e = .returned (.bool (winB r lo hi)) ∧ w' = w := by
  by_cases h1 : lo ≤ r
  · have Hw : Hid (winB r lo hi = decide (r ≤ hi)) := Lib.hid (by rw [winB, decide_eq_true h1, Bool.true_and])
    have h1' : decide (lo ≤ r) = true := decide_eq_true h1
    go_enter Tryd.func129, Tryd.ntmps129
    go_wp2
    go_ret
    exact ⟨by rw [Hw.out]; rfl, rfl⟩
  · have Hw : Hid (winB r lo hi = false) := Lib.hid (by rw [winB, decide_eq_false h1, Bool.false_and])
    have h1' : decide (lo ≤ r) = false := decide_eq_false h1
    go_enter Tryd.func129, Tryd.ntmps129
    go_wp2
    go_ret
    exact ⟨by rw [Hw.out]; rfl, rfl⟩

def digitZ (r : Int) : Int × Int := if winB r 48 57 = true then (wrap64 (wrap32 (r - 48)), 48) else if winB r 1632 1641 = true then (wrap64 (wrap32 (r - 1632)), 1632) else if winB r 65296 65305 = true then (wrap64 (wrap32 (r - 65296)), 65296) else (-1, 0)
set_option maxHeartbeats 1000000 in
theorem digit_calls (r : Int) (w : World) :
    Calls Tryd.prog 127 #[.int .i32 r] w fun e w' => e = .returned (.tuple #[.int .i64 (digitZ r).1, .int .i32 (digitZ r).2]) ∧ w' = w := by
  have C : Hid (∀ lo hi W, Calls Tryd.prog 129 #[.int .i32 r, .int .i32 lo, .int .i32 hi] W fun e w' => e = .returned (.bool (winB r lo hi)) ∧ w' = W) := Lib.hid (within_calls r)
  have Hd : Hid (digitZ r = _) := Lib.hid (by unfold digitZ; rfl)
  generalize digitZ r = d at Hd
  cases h1 : winB r 48 57 with
  | true =>
    have Hd2 : Hid (d = _) := Lib.hid (Hd.out.trans (if_pos h1))
    go_enter Tryd.func127, Tryd.ntmps127
    go_wp2_with (refine (C.out _ _ _).mono ?_; rintro e w' ⟨rfl, rfl⟩)
    go_ret2
    exact ⟨by rw [Hd2.out]; rfl, rfl⟩
  | false =>
    cases h2 : winB r 1632 1641 with
    | true =>
      have Hd2 : Hid (d = _) := Lib.hid (Hd.out.trans ((if_neg (by rw [h1]; decide)).trans (if_pos h2)))
      go_enter Tryd.func127, Tryd.ntmps127
      go_wp2_with (refine (C.out _ _ _).mono ?_; rintro e w' ⟨rfl, rfl⟩)
      go_ret2
      exact ⟨by rw [Hd2.out]; rfl, rfl⟩
    | false =>
      cases h3 : winB r 65296 65305 with
      | true =>
        have Hd2 : Hid (d = _) := Lib.hid (Hd.out.trans ((if_neg (by rw [h1]; decide)).trans ((if_neg (by rw [h2]; decide)).trans (if_pos h3))))
        go_enter Tryd.func127, Tryd.ntmps127
        go_wp2_with (refine (C.out _ _ _).mono ?_; rintro e w' ⟨rfl, rfl⟩)
        go_ret2
        exact ⟨by rw [Hd2.out]; rfl, rfl⟩
      | false =>
        have Hd2 : Hid (d = _) := Lib.hid (Hd.out.trans ((if_neg (by rw [h1]; decide)).trans ((if_neg (by rw [h2]; decide)).trans (if_neg (by rw [h3]; decide)))))
        go_enter Tryd.func127, Tryd.ntmps127
        go_wp2_with (refine (C.out _ _ _).mono ?_; rintro e w' ⟨rfl, rfl⟩)
        go_ret2
        exact ⟨by rw [Hd2.out]; rfl, rfl⟩

def letterR (r : Int) : Bool :=
  if (winB r 97 122 || winB r 65 90 || r == 95) = true then true else if winB r 192 591 = true then (r != 215 && r != 247) else if winB r 880 1023 = true then (r != 894 && r != 903)
  else if winB r 1024 1327 = true then !(winB r 1154 1161) else (winB r 19968 40959 || winB r 66560 66639)
set_option maxHeartbeats 4000000 in
theorem letter_calls (r : Int) (w : World) :
    Calls Tryd.prog 128 #[.int .i32 r] w fun e w' => e = .returned (.bool (letterR r)) ∧ w' = w := by
  have C : Hid (∀ lo hi W, Calls Tryd.prog 129 #[.int .i32 r, .int .i32 lo, .int .i32 hi] W fun e w' => e = .returned (.bool (winB r lo hi)) ∧ w' = W) := Lib.hid (within_calls r)
  have Hd : Hid (letterR r = _) := Lib.hid (by unfold letterR; rfl)
  generalize letterR r = d at Hd
  cases h215 : r != 215 <;> cases h894 : r != 894 <;>
  · go_enter Tryd.func128, Tryd.ntmps128
    go_wp2_with (refine (C.out _ _ _).mono ?_; rintro e w' ⟨rfl, rfl⟩)
    all_goals
      go_ret
      refine ⟨?_, rfl⟩
      rw [Hd.out]
      simp [*]

def refKindZ (r : Int) : Int :=
  if letterR r = true then 1 else if (digitZ r).1 ≥ 0 then 2 else if (r == 32 || r == 9 || r == 10 || r == 13 || r == 160 || r == 12288) = true then 3
  else if winB r 8320 8329 = true then 5 else if hasB signsS 0 r = true then 4 else 0
theorem hasB_cons' (s : ByteArray) (pos : Nat) (h : pos < s.size) (r : Int) : hasB s pos r = (((Utf8.decode s pos).1 : Int) == r || hasB s (pos + (Utf8.decode s pos).2) r) := hasB_cons s pos h r
set_option maxRecDepth 100000 in
set_option maxHeartbeats 4000000 in
theorem refKind_calls (r : Int) (w : World) :
    Calls Tryd.prog 86 #[.int .i32 r] w fun e w' => e = .returned (.int .i64 (refKindZ r)) ∧ Below w.heap.size w w' := by
  have C9 : Hid (∀ lo hi W, Calls Tryd.prog 129 #[.int .i32 r, .int .i32 lo, .int .i32 hi] W fun e w' => e = .returned (.bool (winB r lo hi)) ∧ w' = W) := Lib.hid (within_calls r)
  have CD : Hid (∀ W, Calls Tryd.prog 127 #[.int .i32 r] W fun e w' => e = .returned (.tuple #[.int .i64 (digitZ r).1, .int .i32 (digitZ r).2]) ∧ w' = W) := Lib.hid (digit_calls r)
  have CL : Hid (∀ W, Calls Tryd.prog 128 #[.int .i32 r] W fun e w' => e = .returned (.bool (letterR r)) ∧ w' = W) := Lib.hid (letter_calls r)
  have Hd : Hid (refKindZ r = _) := Lib.hid (by unfold refKindZ; rfl)
  generalize refKindZ r = d at Hd
  generalize hS : hasB signsS 0 r = hs at Hd
  have HS := Lib.hid hS
  clear hS
  generalize (digitZ r).1 = dg, (digitZ r).2 = dz at Hd CD
  generalize letterR r = lt at Hd CL
  cases lt with
  | true =>
    have Hd2 : Hid (d = 1) := Lib.hid (Hd.out.trans (if_pos rfl))
    go_enter Tryd.func86, Tryd.ntmps86
    go_wp2_with (first | ((with_reducible refine (CD.out _).mono ?_); rintro e w' ⟨rfl, hw⟩; obtain rfl := hw.symm) | ((with_reducible refine (CL.out _).mono ?_); rintro e w' ⟨rfl, hw⟩; obtain rfl := hw.symm))
    go_ret
    exact ⟨by rw [Hd2.out]; rfl, Below.refl _ _⟩
  | false =>
    by_cases h2 : dg ≥ 0
    · have Hd2 : Hid (d = 2) := Lib.hid (Hd.out.trans ((if_neg (by decide)).trans (if_pos h2)))
      go_enter Tryd.func86, Tryd.ntmps86
      go_wp2_with (first | ((with_reducible refine (CD.out _).mono ?_); rintro e w' ⟨rfl, hw⟩; obtain rfl := hw.symm) | ((with_reducible refine (CL.out _).mono ?_); rintro e w' ⟨rfl, hw⟩; obtain rfl := hw.symm))
      go_ret
      exact ⟨by rw [Hd2.out]; rfl, Below.refl _ _⟩
    · have h2' : decide (0 ≤ dg) = false := decide_eq_false h2
      have Hd2 : Hid (d = _) := Lib.hid (Hd.out.trans ((if_neg (by decide)).trans (if_neg h2)))
      clear h2
      cases e0 : r == 32 with
      | true =>
        have Hd3 : Hid (d = 3) := Lib.hid (Hd2.out.trans (if_pos (by simp [e0])))
        go_enter Tryd.func86, Tryd.ntmps86
        go_wp2_with (first | ((with_reducible refine (CD.out _).mono ?_); rintro e w' ⟨rfl, hw⟩; obtain rfl := hw.symm) | ((with_reducible refine (CL.out _).mono ?_); rintro e w' ⟨rfl, hw⟩; obtain rfl := hw.symm) | ((with_reducible refine (C9.out _ _ _).mono ?_); rintro e w' ⟨rfl, hw⟩; obtain rfl := hw.symm))
        go_ret
        exact ⟨by rw [Hd3.out]; rfl, Below.refl _ _⟩
      | false =>
        cases e1 : r == 9 with
        | true =>
          have Hd3 : Hid (d = 3) := Lib.hid (Hd2.out.trans (if_pos (by simp [e0, e1])))
          go_enter Tryd.func86, Tryd.ntmps86
          go_wp2_with (first | ((with_reducible refine (CD.out _).mono ?_); rintro e w' ⟨rfl, hw⟩; obtain rfl := hw.symm) | ((with_reducible refine (CL.out _).mono ?_); rintro e w' ⟨rfl, hw⟩; obtain rfl := hw.symm) | ((with_reducible refine (C9.out _ _ _).mono ?_); rintro e w' ⟨rfl, hw⟩; obtain rfl := hw.symm))
          go_ret
          exact ⟨by rw [Hd3.out]; rfl, Below.refl _ _⟩
        | false =>
          cases e2 : r == 10 with
          | true =>
            have Hd3 : Hid (d = 3) := Lib.hid (Hd2.out.trans (if_pos (by simp [e0, e1, e2])))
            go_enter Tryd.func86, Tryd.ntmps86
            go_wp2_with (first | ((with_reducible refine (CD.out _).mono ?_); rintro e w' ⟨rfl, hw⟩; obtain rfl := hw.symm) | ((with_reducible refine (CL.out _).mono ?_); rintro e w' ⟨rfl, hw⟩; obtain rfl := hw.symm) | ((with_reducible refine (C9.out _ _ _).mono ?_); rintro e w' ⟨rfl, hw⟩; obtain rfl := hw.symm))
            go_ret
            exact ⟨by rw [Hd3.out]; rfl, Below.refl _ _⟩
          | false =>
            cases e3 : r == 13 with
            | true =>
              have Hd3 : Hid (d = 3) := Lib.hid (Hd2.out.trans (if_pos (by simp [e0, e1, e2, e3])))
              go_enter Tryd.func86, Tryd.ntmps86
              go_wp2_with (first | ((with_reducible refine (CD.out _).mono ?_); rintro e w' ⟨rfl, hw⟩; obtain rfl := hw.symm) | ((with_reducible refine (CL.out _).mono ?_); rintro e w' ⟨rfl, hw⟩; obtain rfl := hw.symm) | ((with_reducible refine (C9.out _ _ _).mono ?_); rintro e w' ⟨rfl, hw⟩; obtain rfl := hw.symm))
              go_ret
              exact ⟨by rw [Hd3.out]; rfl, Below.refl _ _⟩
            | false =>
              cases e4 : r == 160 with
              | true =>
                have Hd3 : Hid (d = 3) := Lib.hid (Hd2.out.trans (if_pos (by simp [e0, e1, e2, e3, e4])))
                go_enter Tryd.func86, Tryd.ntmps86
                go_wp2_with (first | ((with_reducible refine (CD.out _).mono ?_); rintro e w' ⟨rfl, hw⟩; obtain rfl := hw.symm) | ((with_reducible refine (CL.out _).mono ?_); rintro e w' ⟨rfl, hw⟩; obtain rfl := hw.symm) | ((with_reducible refine (C9.out _ _ _).mono ?_); rintro e w' ⟨rfl, hw⟩; obtain rfl := hw.symm))
                go_ret
                exact ⟨by rw [Hd3.out]; rfl, Below.refl _ _⟩
              | false =>
                cases e5 : r == 12288 with
                | true =>
                  have Hd3 : Hid (d = 3) := Lib.hid (Hd2.out.trans (if_pos (by simp [e0, e1, e2, e3, e4, e5])))
                  go_enter Tryd.func86, Tryd.ntmps86
                  go_wp2_with (first | ((with_reducible refine (CD.out _).mono ?_); rintro e w' ⟨rfl, hw⟩; obtain rfl := hw.symm) | ((with_reducible refine (CL.out _).mono ?_); rintro e w' ⟨rfl, hw⟩; obtain rfl := hw.symm) | ((with_reducible refine (C9.out _ _ _).mono ?_); rintro e w' ⟨rfl, hw⟩; obtain rfl := hw.symm))
                  go_ret
                  exact ⟨by rw [Hd3.out]; rfl, Below.refl _ _⟩
                | false =>
                  have Hd3 : Hid (d = if winB r 8320 8329 = true then 5 else if hs = true then 4 else 0) := Lib.hid (Hd2.out.trans (if_neg (by simp [e0, e1, e2, e3, e4, e5])))
                  cases e6 : winB r 8320 8329 with
                  | true =>
                    have Hd4 : Hid (d = 5) := Lib.hid (Hd3.out.trans (if_pos e6))
                    go_enter Tryd.func86, Tryd.ntmps86
                    go_wp2_with (first | ((with_reducible refine (CD.out _).mono ?_); rintro e w' ⟨rfl, hw⟩; obtain rfl := hw.symm) | ((with_reducible refine (CL.out _).mono ?_); rintro e w' ⟨rfl, hw⟩; obtain rfl := hw.symm) | ((with_reducible refine (C9.out _ _ _).mono ?_); rintro e w' ⟨rfl, hw⟩; obtain rfl := hw.symm))
                    go_ret
                    exact ⟨by rw [Hd4.out]; rfl, Below.refl _ _⟩
                  | false =>
                    have Hd4 : Hid (d = if hs = true then 4 else 0) := Lib.hid (Hd3.out.trans (if_neg (by rw [e6]; decide)))
                    go_enter Tryd.func86, Tryd.ntmps86
                    go_wp2_with (first | ((with_reducible refine (CD.out _).mono ?_); rintro e w' ⟨rfl, hw⟩; obtain rfl := hw.symm) | ((with_reducible refine (CL.out _).mono ?_); rintro e w' ⟨rfl, hw⟩; obtain rfl := hw.symm) | ((with_reducible refine (C9.out _ _ _).mono ?_); rintro e w' ⟨rfl, hw⟩; obtain rfl := hw.symm))
                    clear e0 e1 e2 e3 e4 e5 e6 h2'
                    go_loopw [] (fun wr => ∃ pos : Nat, wr.heap[w.heap.size]? = some (.stringIter signsS pos) ∧ Below w.heap.size w wr ∧ hasB signsS 0 r = hasB signsS pos r) (fun wr => signsS.size - wr.iterPos w.heap.size)
                    case atStart => exact ⟨0, World.iter_heap w signsS 0, (Below.refl _ w).alloc (Nat.le_refl _) _, rfl⟩
                    case round =>
                      obtain ⟨pos, hit, hb, he⟩ := hrel
                      have He := Lib.hid he
                      clear he
                      by_cases hp : pos < signsS.size
                      · have hnx : ∀ ty, (Instr.next (.pointer (some ⟨w.heap.size, 0, none⟩)) true ty).run Tryd.prog wr = _ := fun ty => Lib.run_next_any_at wr w.heap.size signsS pos ty hit hp
                        have hit2 := Lib.iterAt_heap wr w.heap.size signsS pos (pos + (Utf8.decode signsS pos).2) hit
                        have hb2 := Lib.below_iterAt hb (k := w.heap.size) (by omega) signsS (pos + (Utf8.decode signsS pos).2)
                        have hw1 := width_pos signsS pos hp
                        have Hc := Lib.hid (hasB_cons signsS pos hp r)
                        generalize hwd : (Utf8.decode signsS pos).2 = wd at *
                        generalize hrr : ((Utf8.decode signsS pos).1 : Int) = c at *
                        clear hwd hrr
                        have HIT := Lib.hid hit
                        clear hit
                        cases h7 : c == r with
                        | true =>
                          have Hd5 : Hid (d = 4) := Lib.hid (Hd4.out.trans (if_pos (by rw [← HS.out, He.out, Hc.out, h7]; rfl)))
                          go_wp2
                          go_ret
                          exact ⟨by rw [Hd5.out]; rfl, hb2⟩
                        | false =>
                          have Hc2 : Hid (hasB signsS pos r = hasB signsS (pos + wd) r) := Lib.hid (by rw [Hc.out, h7]; rfl)
                          go_wp2
                          go_roundw
                          case rel => exact ⟨_, hit2, hb2, by rw [He.out, Hc2.out]⟩
                          case measure => simp only [World.iterPos, hit2, HIT.out]; omega
                      · have hnx : ∀ ty, (Instr.next (.pointer (some ⟨w.heap.size, 0, none⟩)) true ty).run Tryd.prog wr = _ := fun ty => Lib.run_next_end_at wr w.heap.size signsS pos ty hit hp
                        have Hd5 : Hid (d = 0) := Lib.hid (Hd4.out.trans (if_neg (by rw [← HS.out, He.out, hasB, runesAt_end signsS pos hp]; exact Bool.false_ne_true)))
                        go_wp2
                        go_ret
                        exact ⟨by rw [Hd5.out]; rfl, hb⟩

def refInB (r : Int) : Bool := refKindZ r == 1 || refKindZ r == 2 || refKindZ r == 5
set_option maxHeartbeats 1000000 in
theorem behind_calls (r : Int) (w : World) :
    Calls Tryd.prog 87 #[.int .i32 r] w fun e w' => e = .returned (.bool (refInB r)) ∧ Below w.heap.size w w' := by
  have C : Hid (∀ W, Calls Tryd.prog 86 #[.int .i32 r] W fun e w' => e = .returned (.int .i64 (refKindZ r)) ∧ Below W.heap.size W w') := Lib.hid (fun W => refKind_calls r W)
  have E : Hid (∀ k, refKindZ r = k → refInB r = (k == 1 || k == 2 || k == 5)) := Lib.hid (fun k h => by rw [refInB, h])
  generalize hk : refKindZ r = k at C
  have He : Hid (refInB r = (k == 1 || k == 2 || k == 5)) := Lib.hid (E.out k hk)
  clear hk E
  generalize refInB r = b at He
  go_enter Tryd.func87, Tryd.ntmps87
  cases h1 : k == 1 <;> cases h2 : k == 2 <;> cases h3 : k == 5 <;>
  · have H1 := Lib.hid h1
    have H2 := Lib.hid h2
    have H3 := Lib.hid h3
    go_wp2_with (refine (C.out _).mono ?_; rintro e w1 ⟨rfl, hb⟩)
    go_ret
    exact ⟨by rw [He.out, H1.out, H2.out, H3.out]; rfl, hb⟩
end Go.Proofs.YtacjjfoelhckcaaDoor
