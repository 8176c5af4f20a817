/- Plain laws of the names: the program's reading of a name and the reference's answer alike. -/
import Derived.Test.YtacjjfoelhckcaaDoorA8
namespace Go.Proofs.YtacjjfoelhckcaaDoor
open Go.RowKit Go.Proofs.YtacjjfoelhckcaaDoorW.PrintWords

theorem w64 (n : Int) (h : -9223372036854775808 ≤ n ∧ n ≤ 9223372036854775807) : wrap64 n = n := by unfold wrap64; omega
theorem letter_eq (r : Int) : letterFrom 0 r = letterR r := by
  rw [Bool.eq_iff_iff]
  unfold letterR
  simp only [letterFrom, letterPairs, List.drop_zero, List.any_cons, List.any_nil, winB, Bool.or_eq_true, Bool.and_eq_true, decide_eq_true_eq, beq_iff_eq, Bool.or_false]
  split
  · simp; omega
  · split
    · simp [bne_iff_ne]; omega
    · split
      · simp [bne_iff_ne]; omega
      · split
        · simp; omega
        · simp; omega
theorem digit_eq (r : Int) : ((zeroZ r).2 = true) ↔ (digitZ r).1 ≥ 0 := by
  unfold zeroZ digitZ winB wrap32 wrap64
  simp only [Bool.and_eq_true, decide_eq_true_eq]
  repeat' split
  all_goals simp
  all_goals omega
def hasL (l : List Int) (r : Int) : Bool := l.any (· == r)
def codesFrom (s : ByteArray) : Nat → Nat → List Int
  | 0, _ => []
  | n + 1, pos => if pos < s.size then ((Utf8.decode s pos).1 : Int) :: codesFrom s n (pos + (Utf8.decode s pos).2) else []
theorem hasB_codes (s : ByteArray) (r : Int) : ∀ (n pos : Nat), s.size - pos ≤ n → hasB s pos r = hasL (codesFrom s n pos) r := by
  intro n
  induction n with
  | zero =>
    intro pos h
    rw [hasB, runesAt_end s pos (by omega)]; rfl
  | succ n ih =>
    intro pos h
    by_cases hp : pos < s.size
    · have := width_pos s pos hp
      rw [hasB_cons' s pos hp, codesFrom, if_pos hp, ih _ (by omega)]; rfl
    · rw [hasB, runesAt_end s pos hp, codesFrom, if_neg hp]; rfl
theorem blanks_codes : codesFrom blanksS 9 0 = [32, 9, 10, 13, 160, 12288] := by decide +kernel
theorem signs_codes : codesFrom signsS 48 0 = [40, 41, 43, 45, 42, 47, 37, 38, 124, 94, 126, 60, 62, 61, 63, 58, 59, 44, 64, 172, 183, 215, 247, 8722, 8743, 8744, 8801, 8810, 8811, 8853] := by decide +kernel
theorem kind_eq (r : Int) : kindZ r = refKindZ r := by
  unfold kindZ refKindZ
  rw [letter_eq]
  have hb : hasB blanksS 0 r = true ↔ (r = 32 ∨ r = 9 ∨ r = 10 ∨ r = 13 ∨ r = 160 ∨ r = 12288) := by
    rw [hasB_codes blanksS r 9 0 (by decide +kernel), blanks_codes]
    simp only [hasL, List.any_cons, List.any_nil, Bool.or_eq_true, beq_iff_eq, Bool.false_eq_true, or_false]
    omega
  have hs : hasB signsS 0 r = true → validB r = true ∧ r ≠ 65533 ∧ ¬ (8320 ≤ r ∧ r ≤ 8329) := by
    rw [hasB_codes signsS r 48 0 (by decide +kernel), signs_codes]
    simp only [hasL, List.any_cons, List.any_nil, Bool.or_eq_true, beq_iff_eq, validB, decide_eq_true_eq, Bool.false_eq_true, or_false]
    omega
  have hd := digit_eq r
  have hw : winB r 8320 8329 = true ↔ (8320 ≤ r ∧ r ≤ 8329) := by simp [winB]
  by_cases c1 : letterR r = true
  · rw [if_pos c1, if_pos c1]
  rw [if_neg c1, if_neg c1]
  by_cases c2 : (zeroZ r).2 = true
  · rw [if_pos c2, if_pos (hd.1 c2)]
  rw [if_neg c2, if_neg (fun h => c2 (hd.2 h))]
  have hv : validB r = true ↔ ((0 ≤ r ∧ r < 55296) ∨ (57343 < r ∧ r ≤ 1114111)) := by simp [validB]
  simp only [Bool.or_eq_true, beq_iff_eq]
  cases hvb : validB r with
  | false =>
    rw [hvb] at hs hv
    rw [if_pos (Or.inl rfl), if_neg (show ¬ (((((r = 32 ∨ r = 9) ∨ r = 10) ∨ r = 13) ∨ r = 160) ∨ r = 12288) by simp at hv; omega), if_neg (by rw [hw]; simp at hv; omega), if_neg (fun h => by simpa using (hs h).1)]
  | true =>
    rw [hvb] at hv
    by_cases c3 : r = 65533
    · rw [if_pos (Or.inr c3), if_neg (show ¬ (((((r = 32 ∨ r = 9) ∨ r = 10) ∨ r = 13) ∨ r = 160) ∨ r = 12288) by omega), if_neg (by rw [hw]; omega), if_neg (fun h => (hs h).2.1 c3)]
    rw [if_neg (by simp [c3])]
    by_cases c4 : hasB blanksS 0 r = true
    · have := hb.1 c4
      rw [if_pos c4, if_pos (show (((((r = 32 ∨ r = 9) ∨ r = 10) ∨ r = 13) ∨ r = 160) ∨ r = 12288) by omega)]
    rw [if_neg c4, if_neg (show ¬ (((((r = 32 ∨ r = 9) ∨ r = 10) ∨ r = 13) ∨ r = 160) ∨ r = 12288) from fun h => c4 (hb.2 (by omega)))]
    by_cases c5 : hasB signsS 0 r = true
    · rw [if_pos c5, if_neg (fun h => (hs c5).2.2 (hw.1 h)), if_pos c5]
    rw [if_neg c5]
    by_cases c6 : 8320 ≤ r ∧ r ≤ 8329
    · rw [if_pos c6, if_pos (hw.2 c6)]
    · rw [if_neg c6, if_neg (fun h => c6 (hw.1 h)), if_neg c5]
theorem in_eq (r : Int) : inB r = refInB r := by rw [inB, refInB, kind_eq]
theorem bad_eq (s : ByteArray) (q : Nat) (h : q < s.size) : badB s q (Utf8.decode s q).1 = true ↔ widthZ s q = 0 := by
  have hp := width_pos s q h
  rw [widthZ, if_neg (by omega)]
  simp only [Int.toNat_natCast, decode_extract s q (by omega)]
  have e1 : (s.extract q s.size).size = s.size - q := by simp [ByteArray.size_extract]
  have e3 : (errS).size = 3 := rfl
  have e4 : errS.toList = [239, 191, 189] := by decide +kernel
  rw [badB, prefB, e3, e4, e1]
  by_cases c : s.size - q < 3
  · simp [c]
    omega
  · have e2 : (s.extract q s.size).extract 0 3 = s.extract q (q + 3) := by
      rw [ByteArray.extract_extract]
      congr 1
      omega
    rw [e2]
    have c' : 3 ≤ s.size - q := by omega
    simp [c, c']
    generalize (s.extract q (q + 3)).toList = l
    by_cases cl : l = [239, 191, 189] <;> by_cases cr : (Utf8.decode s q).1 = 65533 <;> simp [cl, cr] <;> omega
theorem name_eq (s : ByteArray) (hs : s.size ≤ 9223372036854775800) : refNameB s = nameB s := by
  have key : ∀ (m pos : Nat) (n : Int), s.size - pos ≤ m → pos ≤ s.size → 0 ≤ n → n ≤ pos → (n = 0 → pos = 0) → refNameFrom s n (runesAt s pos) = nameFrom s n (runesAt s pos) := by
    intro m
    induction m with
    | zero =>
      intro pos n h1 h2 h3 h4 h5
      rw [runesAt_end s pos (by omega)]; rfl
    | succ m ih =>
      intro pos n h1 h2 h3 h4 h5
      by_cases hp : pos < s.size
      · have hw := width_pos s pos hp
        have hf := decode_fits s pos hp
        rw [runesAt_cons s pos hp, refNameFrom, nameFrom, w64 (n + 1) (by omega), ih _ (n + 1) (by omega) (by omega) (by omega) (by omega) (by omega)]
        congr 1
        rw [charB]
        have hb := bad_eq s pos hp
        by_cases hz : widthZ s pos = 0
        · rw [refCharB_bad s n _ hz, hb.2 hz]; rfl
        · have hb' : badB s pos (Utf8.decode s pos).1 = false := by
            cases hx : badB s pos (Utf8.decode s pos).1
            · rfl
            · exact absurd (hb.1 hx) hz
          rw [refCharB]
          simp only [if_neg hz, hb', Bool.false_or, kind_eq, in_eq]
          have : (n == 0) = (pos == 0) := by
            rw [Bool.eq_iff_iff, beq_iff_eq, beq_iff_eq]
            constructor
            · exact h5
            · intro h; omega
          rw [this]
      · rw [runesAt_end s pos hp]; rfl
  exact key s.size 0 0 (by omega) (by omega) (by omega) (by omega) (fun _ => rfl)
end Go.Proofs.YtacjjfoelhckcaaDoor
