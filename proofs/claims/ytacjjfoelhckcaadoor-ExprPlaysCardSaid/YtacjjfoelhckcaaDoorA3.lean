/- Contracts of utf8.ValidRune and runes.Kind, proved by walking. -/
import Derived.Test.YtacjjfoelhckcaaDoorA2
namespace Go.Proofs.YtacjjfoelhckcaaDoor
open Go.RowKit Go.Proofs.YtacjjfoelhckcaaDoorW.PrintWords

def validB (r : Int) : Bool := decide ((0 ≤ r ∧ r < 55296) ∨ (57343 < r ∧ r ≤ 1114111))
set_option maxHeartbeats 1000000 in
theorem valid_calls (r : Int) (w : World) :
    Calls Tryd.prog 150 #[.int .i32 r] w fun e w' => e = .returned (.bool (validB r)) ∧ w' = w := by
  go_enter Tryd.func150, Tryd.ntmps150
  go_wp2
  all_goals
    go_ret
    refine ⟨?_, rfl⟩
    first
      | (rw [validB, decide_eq_true (by omega)]; rfl)
      | (rw [validB, decide_eq_false (by omega)]; rfl)
      | (show Ending.returned (Value.bool _) = _; congr 2; rw [validB]; (first | simp | skip); (try omega); done)
      | (show Ending.returned (Value.bool _) = _; congr 2; rw [validB, decide_eq_decide]; omega)

def letterPairs : List (Int × Int) := [(97, 122), (65, 90), (95, 95), (192, 214), (216, 246), (248, 591), (880, 893), (895, 902), (904, 1023), (1024, 1153), (1162, 1327), (19968, 40959), (66560, 66639)]
def letterFrom (k : Nat) (r : Int) : Bool := (letterPairs.drop k).any fun p => decide (p.1 ≤ r) && decide (r ≤ p.2)
def blanksS : ByteArray := ⟨#[32, 9, 10, 13, 194, 160, 227, 128, 128]⟩
def signsS : ByteArray := ⟨#[40, 41, 43, 45, 42, 47, 37, 38, 124, 94, 126, 60, 62, 61, 63, 58, 59, 44, 64, 194, 172, 194, 183, 195, 151, 195, 183, 226, 136, 146, 226, 136, 167, 226, 136, 168, 226, 137, 161, 226, 137, 170, 226, 137, 171, 226, 138, 149]⟩
def kindZ (r : Int) : Int :=
  if letterFrom 0 r = true then 1 else if (zeroZ r).2 = true then 2 else if validB r = false ∨ r = 65533 then 0
  else if hasB blanksS 0 r = true then 3 else if hasB signsS 0 r = true then 4 else if 8320 ≤ r ∧ r ≤ 8329 then 5 else 0

theorem letter_index (k : Nat) (h : k < 13) : ∀ w, (Instr.index 201 (.agg lettersA) (.int .i64 k)).run Tryd.prog w = .ok (.agg #[.int .i32 (letterPairs.getD k (0, 0)).1, .int .i32 (letterPairs.getD k (0, 0)).2]) w := by
  intro w
  obtain rfl | rfl | rfl | rfl | rfl | rfl | rfl | rfl | rfl | rfl | rfl | rfl | rfl : k = 0 ∨ k = 1 ∨ k = 2 ∨ k = 3 ∨ k = 4 ∨ k = 5 ∨ k = 6 ∨ k = 7 ∨ k = 8 ∨ k = 9 ∨ k = 10 ∨ k = 11 ∨ k = 12 := by omega
  all_goals kernel_rfl
theorem letter_step (k : Nat) (h : k < 13) (r : Int) : letterFrom k r = (decide ((letterPairs.getD k (0, 0)).1 ≤ r) && decide (r ≤ (letterPairs.getD k (0, 0)).2) || letterFrom (k + 1) r) := by
  match k, h with
  | 0, _ | 1, _ | 2, _ | 3, _ | 4, _ | 5, _ | 6, _ | 7, _ | 8, _ | 9, _ | 10, _ | 11, _ | 12, _ => rfl

set_option maxRecDepth 100000 in
set_option maxHeartbeats 2000000 in
theorem kind_calls (r : Int) (w : World) (hG : GL w) :
    Calls Tryd.prog 125 #[.int .i32 r] w fun e w' => e = .returned (.int .i64 (kindZ r)) ∧ Below w.heap.size w w' := by
  obtain ⟨⟨T, f, hg⟩, _⟩ := id hG
  have HI := Lib.hid letter_index
  go_enter Tryd.func125, Tryd.ntmps125
  go_wp2_with (refine wpList_load_row rfl 201 (.global 0) rfl 0 rfl T lettersA f _ hg Tryd.underlying201 rfl (by kernel_rfl) ?_)
  clear hg
  generalize lettersA = LA at HI ⊢
  go_loopw [8] (fun i wr => ∃ k : Nat, k ≤ 13 ∧ i = .int .i64 k ∧ Below w.heap.size w wr ∧ letterFrom 0 r = letterFrom k r) (fun i _ => 13 - (intOf i).toNat)
  case atStart => exact ⟨0, by omega, rfl, Below.refl _ w, rfl⟩
  case round =>
    obtain ⟨k, hk, rfl, hb, he⟩ := hrel
    have He := Lib.hid he
    clear he
    by_cases hlt : k < 13
    · have hi := HI.out k hlt
      have Hs := Lib.hid (letter_step k hlt r)
      generalize (letterPairs.getD k (0, 0)).1 = lo at hi Hs
      generalize (letterPairs.getD k (0, 0)).2 = hh at hi Hs
      have hu := Tryd.underlying200
      by_cases h1 : lo ≤ r
      · by_cases h2 : r ≤ hh
        · have Hl : Hid (letterFrom 0 r = true) := Lib.hid (by rw [He.out, Hs.out, decide_eq_true h1, decide_eq_true h2]; rfl)
          go_wp2
          go_ret
          exact ⟨by rw [kindZ, if_pos Hl.out]; rfl, (hb.alloc hb.size _)⟩
        · have Hl : Hid (letterFrom k r = letterFrom (k + 1) r) := Lib.hid (by rw [Hs.out, decide_eq_false h2, Bool.and_false, Bool.false_or])
          go_wp2
          go_roundw
          case rel => exact ⟨k + 1, by omega, by go_num, (hb.alloc hb.size _), by rw [He.out, Hl.out]⟩
          case measure => simp [intOf]; omega
      · have Hl : Hid (letterFrom k r = letterFrom (k + 1) r) := Lib.hid (by rw [Hs.out, decide_eq_false h1, Bool.false_and, Bool.false_or])
        go_wp2
        go_roundw
        case rel => exact ⟨k + 1, by omega, by go_num, (hb.alloc hb.size _), by rw [He.out, Hl.out]⟩
        case measure => simp [intOf]; omega
    · obtain rfl : k = 13 := by omega
      have Hl : Hid (¬ letterFrom 0 r = true) := Lib.hid (by rw [He.out]; exact Bool.false_ne_true)
      have hG1 := hG.below hb
      have HG := Lib.hid hG1
      clear hG hG1
      cases h2 : (zeroZ r).2 with
      | true =>
        have H2 := Lib.hid h2
        go_wp2_with (go_at_call 149; refine (zero_calls r _ HG.out).mono ?_; rintro e w' ⟨rfl, rfl⟩)
        go_ret
        exact ⟨by rw [kindZ, if_neg Hl.out, if_pos H2.out]; rfl, hb⟩
      | false =>
        have H2 : Hid (¬ (zeroZ r).2 = true) := Lib.hid (by rw [h2]; decide)
        by_cases h3 : validB r = false ∨ r = 65533
        · have H3 := Lib.hid h3
          rcases h3 with h3 | h3
          · go_wp2_with (first | (go_at_call 149; refine (zero_calls r _ HG.out).mono ?_; rintro e w' ⟨rfl, rfl⟩) | (go_at_call 150; refine (valid_calls r _).mono ?_; rintro e w' ⟨rfl, rfl⟩))
            go_ret
            exact ⟨by rw [kindZ, if_neg Hl.out, if_neg H2.out, if_pos H3.out]; rfl, hb⟩
          · have H4 := Lib.hid h3
            have h3b : (r == 65533) = true := beq_iff_eq.2 h3
            clear h3
            cases h5 : validB r <;>
            · go_wp2_with (first | (go_at_call 149; refine (zero_calls r _ HG.out).mono ?_; rintro e w' ⟨rfl, rfl⟩) | (go_at_call 150; refine (valid_calls r _).mono ?_; rintro e w' ⟨rfl, rfl⟩))
              go_ret
              exact ⟨by rw [kindZ, if_neg Hl.out, if_neg H2.out, if_pos H3.out]; rfl, hb⟩
        · have H3 := Lib.hid h3
          have h5 : validB r = true := by cases h : validB r with | true => rfl | false => exact absurd (Or.inl h) h3
          have h6 : (r == 65533) = false := beq_eq_false_iff_ne.2 fun h => h3 (Or.inr h)
          clear h3
          have e7 : (hasB ⟨#[32, 9, 10, 13, 194, 160, 227, 128, 128]⟩ 0 r) = hasB blanksS 0 r := rfl
          have e8 : (hasB ⟨#[40, 41, 43, 45, 42, 47, 37, 38, 124, 94, 126, 60, 62, 61, 63, 58, 59, 44, 64, 194, 172, 194, 183, 195, 151, 195, 183, 226, 136, 146, 226, 136, 167, 226, 136, 168, 226, 137, 161, 226, 137, 170, 226, 137, 171, 226, 138, 149]⟩ 0 r) = hasB signsS 0 r := rfl
          have C7 := fun W => has_calls ⟨#[32, 9, 10, 13, 194, 160, 227, 128, 128]⟩ r W
          have C8 := fun W => has_calls ⟨#[40, 41, 43, 45, 42, 47, 37, 38, 124, 94, 126, 60, 62, 61, 63, 58, 59, 44, 64, 194, 172, 194, 183, 195, 151, 195, 183, 226, 136, 146, 226, 136, 167, 226, 136, 168, 226, 137, 161, 226, 137, 170, 226, 137, 171, 226, 138, 149]⟩ r W
          rw [e7] at C7
          rw [e8] at C8
          clear e7 e8
          have D7 := Lib.hid C7
          have D8 := Lib.hid C8
          clear C7 C8
          cases h7 : hasB blanksS 0 r with
          | true =>
            go_wp2_with (first | (go_at_call 149; refine (zero_calls r _ HG.out).mono ?_; rintro e w' ⟨rfl, rfl⟩) | (go_at_call 150; refine (valid_calls r _).mono ?_; rintro e w' ⟨rfl, rfl⟩) | ((with_reducible refine (D7.out _).mono ?_); rintro e w1 ⟨rfl, hk⟩; replace hb := below_then hb hb.size hk; clear hk))
            go_ret
            exact ⟨by rw [kindZ, if_neg Hl.out, if_neg H2.out, if_neg H3.out, if_pos h7]; rfl, hb⟩
          | false =>
            have H7 : Hid (¬ hasB blanksS 0 r = true) := Lib.hid (by rw [h7]; decide)
            cases h8 : hasB signsS 0 r with
            | true =>
              go_wp2_with (first | (go_at_call 149; refine (zero_calls r _ HG.out).mono ?_; rintro e w' ⟨rfl, rfl⟩) | (go_at_call 150; refine (valid_calls r _).mono ?_; rintro e w' ⟨rfl, rfl⟩) | ((with_reducible refine (D7.out _).mono ?_); rintro e w1 ⟨rfl, hk⟩; replace hb := below_then hb hb.size hk; clear hk) | ((with_reducible refine (D8.out _).mono ?_); rintro e w1 ⟨rfl, hk⟩; replace hb := below_then hb hb.size hk; clear hk))
              go_ret
              exact ⟨by rw [kindZ, if_neg Hl.out, if_neg H2.out, if_neg H3.out, if_neg H7.out, if_pos h8]; rfl, hb⟩
            | false =>
              have H8 : Hid (¬ hasB signsS 0 r = true) := Lib.hid (by rw [h8]; decide)
              by_cases h9 : 8320 ≤ r
              · by_cases h10 : r ≤ 8329
                · go_wp2_with (first | (go_at_call 149; refine (zero_calls r _ HG.out).mono ?_; rintro e w' ⟨rfl, rfl⟩) | (go_at_call 150; refine (valid_calls r _).mono ?_; rintro e w' ⟨rfl, rfl⟩) | ((with_reducible refine (D7.out _).mono ?_); rintro e w1 ⟨rfl, hk⟩; replace hb := below_then hb hb.size hk; clear hk) | ((with_reducible refine (D8.out _).mono ?_); rintro e w1 ⟨rfl, hk⟩; replace hb := below_then hb hb.size hk; clear hk))
                  go_ret
                  exact ⟨by rw [kindZ, if_neg Hl.out, if_neg H2.out, if_neg H3.out, if_neg H7.out, if_neg H8.out, if_pos ⟨h9, h10⟩]; rfl, hb⟩
                · go_wp2_with (first | (go_at_call 149; refine (zero_calls r _ HG.out).mono ?_; rintro e w' ⟨rfl, rfl⟩) | (go_at_call 150; refine (valid_calls r _).mono ?_; rintro e w' ⟨rfl, rfl⟩) | ((with_reducible refine (D7.out _).mono ?_); rintro e w1 ⟨rfl, hk⟩; replace hb := below_then hb hb.size hk; clear hk) | ((with_reducible refine (D8.out _).mono ?_); rintro e w1 ⟨rfl, hk⟩; replace hb := below_then hb hb.size hk; clear hk))
                  go_ret
                  exact ⟨by rw [kindZ, if_neg Hl.out, if_neg H2.out, if_neg H3.out, if_neg H7.out, if_neg H8.out, if_neg (by omega)]; rfl, hb⟩
              · go_wp2_with (first | (go_at_call 149; refine (zero_calls r _ HG.out).mono ?_; rintro e w' ⟨rfl, rfl⟩) | (go_at_call 150; refine (valid_calls r _).mono ?_; rintro e w' ⟨rfl, rfl⟩) | ((with_reducible refine (D7.out _).mono ?_); rintro e w1 ⟨rfl, hk⟩; replace hb := below_then hb hb.size hk; clear hk) | ((with_reducible refine (D8.out _).mono ?_); rintro e w1 ⟨rfl, hk⟩; replace hb := below_then hb hb.size hk; clear hk))
                go_ret
                exact ⟨by rw [kindZ, if_neg Hl.out, if_neg H2.out, if_neg H3.out, if_neg H7.out, if_neg H8.out, if_neg (by omega)]; rfl, hb⟩
end Go.Proofs.YtacjjfoelhckcaaDoor
