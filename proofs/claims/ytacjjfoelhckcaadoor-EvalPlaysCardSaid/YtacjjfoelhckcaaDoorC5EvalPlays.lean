/- Plain laws, part 5: the operators on values: arith's Apply answers as the reference's. -/
import Derived.Test.YtacjjfoelhckcaaDoorK3EvalPlays
import Derived.Test.YtacjjfoelhckcaaDoorM3
namespace Go.Proofs.YtacjjfoelhckcaaDoor.PEvalPlays
open Go.RowKit Go.Proofs.YtacjjfoelhckcaaDoorW.PrintWords Go.Proofs.YtacjjfoelhckcaaDoorW.PrintMore
set_option linter.unusedVariables false

def twoZ (op a b : Int) : Int :=
  if op = 5 then wrap64 (a + b) else if op = 6 then wrap64 (a - b) else if op = 7 then wrap64 (a * b) else if op = 8 then wrap64 (Int.tdiv a b) else if op = 9 then Int.tmod a b
  else if op = 10 then bits .and .i64 a b else if op = 11 then bits .or .i64 a b else if op = 12 then bits .xor .i64 a b else if op = 13 then wrap64 (a * 2 ^ (b % 64).toNat) else if op = 14 then a / 2 ^ (b % 64).toNat
  else if op = 15 then (if a = b then 1 else 0) else (if a < b then 1 else 0)
theorem two_eq (op a b : Int) (h : (op = 8 ∨ op = 9) → b ≠ 0) : arith_two.f op a b = some (twoZ op a b) := by
  have h64 : (b % 64).toNat ≤ 64 := by omega
  have hshl : shl .i64 a (b % 64) = wrap64 (a * 2 ^ (b % 64).toNat) := by
    unfold shl
    rw [i64_wrap]
    congr 3
    exact Nat.min_eq_left h64
  have hshr : shr .i64 a (b % 64) = a / 2 ^ (b % 64).toNat := by
    unfold shr
    congr 2
    exact Nat.min_eq_left h64
  unfold arith_two.f twoZ arith_bit.f
  rw [uand63, hshl, hshr]
  by_cases e5 : op = 5
  · rw [if_pos e5, if_pos e5]
  rw [if_neg e5, if_neg e5]
  by_cases e6 : op = 6
  · rw [if_pos e6, if_pos e6]
  rw [if_neg e6, if_neg e6]
  by_cases e7 : op = 7
  · rw [if_pos e7, if_pos e7]
  rw [if_neg e7, if_neg e7]
  by_cases e8 : op = 8
  · rw [if_pos e8, if_pos e8, if_neg (h (.inl e8))]
  rw [if_neg e8, if_neg e8]
  by_cases e9 : op = 9
  · rw [if_pos e9, if_pos e9, if_neg (h (.inr e9))]
  rw [if_neg e9, if_neg e9]
  by_cases e10 : op = 10
  · rw [if_pos e10, if_pos e10]
  rw [if_neg e10, if_neg e10]
  by_cases e11 : op = 11
  · rw [if_pos e11, if_pos e11]
  rw [if_neg e11, if_neg e11]
  by_cases e12 : op = 12
  · rw [if_pos e12, if_pos e12]
  rw [if_neg e12, if_neg e12]
  by_cases e13 : op = 13
  · rw [if_pos e13, if_pos e13, if_pos (by omega)]
  rw [if_neg e13, if_neg e13]
  by_cases e14 : op = 14
  · rw [if_pos e14, if_pos e14, if_pos (by omega)]
  rw [if_neg e14, if_neg e14]
  by_cases e15 : op = 15
  · rw [if_pos e15, if_pos e15]
    by_cases c : a = b <;> simp [c]
  rw [if_neg e15, if_neg e15]
  by_cases c : a < b <;> simp [c]
theorem tmod_in (a b : Int) (ha : inI a) (hb : b ≠ 0) : inI (Int.tmod a b) := by
  unfold inI at *
  have e := Int.natAbs_tmod a b
  have h : a.natAbs % b.natAbs ≤ a.natAbs := Nat.mod_le _ _
  have h1 : 0 ≤ a → 0 ≤ Int.tmod a b := fun h => Int.tmod_nonneg b h
  have h3 : a ≤ 0 → Int.tmod a b ≤ 0 := fun h => tmod_le0 a b h
  generalize Int.tmod a b = d at *
  generalize a.natAbs % b.natAbs = m at *
  omega
theorem ediv_in (a : Int) (n : Nat) (ha : inI a) : inI (a / 2 ^ n) := by
  unfold inI at *
  have hp := pow_pos2 n
  generalize (2 : Int) ^ n = p at *
  have h1 : a / p ≤ 9223372036854775807 := by
    apply Int.ediv_le_of_le_mul hp
    have : (9223372036854775807 : Int) * 1 ≤ 9223372036854775807 * p := Int.mul_le_mul_of_nonneg_left (by omega) (by decide)
    omega
  have h2 : -9223372036854775808 ≤ a / p := by
    apply (Int.le_ediv_iff_mul_le hp).2
    have : (-9223372036854775808 : Int) * p ≤ -9223372036854775808 * 1 := Int.mul_le_mul_of_nonpos_left (by decide) (by omega)
    omega
  exact ⟨h2, h1⟩
theorem two_in (op a b : Int) (ha : inI a) (hb : inI b) (h : (op = 8 ∨ op = 9) → b ≠ 0) : inI (twoZ op a b) := by
  unfold twoZ
  by_cases e9 : op = 9
  · subst e9
    exact tmod_in a b ha (h (.inr rfl))
  by_cases e14 : op = 14
  · subst e14
    exact ediv_in a _ ha
  repeat' split
  all_goals first | exact w64_in _ | exact bits_in _ _ _ | (exact absurd ‹_› e9) | (exact absurd ‹_› e14) | (unfold inI; omega)

/-! ### the reference's -/
theorem divide_ev (x y : Int) (hx : 0 ≤ x ∧ x ≤ 9223372036854775808) (hy : 1 ≤ y ∧ y ≤ 9223372036854775808) : Ev (fun k => sorrelref06_divide.f k x y) (x / y, x % y) := by
  have loop : ∀ (m : Nat) (q r : Int), m ≤ 64 → x / 2 ^ m = y * q + r → 0 ≤ r → r < y → 0 ≤ q → Ev (fun k => sorrelref06_divide.l0 k x y q r ((m : Int) - 1)) (x / y, x % y) := by
    intro m
    induction m with
    | zero =>
      intro q r _ h h0 h1 h2
      refine Ev.last fun k => ?_
      rw [sorrelref06_divide.l0, if_neg (by omega)]
      have e : x / 2 ^ 0 = x := by rw [Int.pow_zero, Int.ediv_one]
      rw [e] at h
      obtain ⟨h3, h4⟩ := div_unique h h0 h1
      rw [← h3, ← h4]
    | succ m ih =>
      intro q r hm h h0 h1 h2
      have hb := bit_at x m
      have hsh : shr .u64 x (IntKind.u64.wrap (m : Int)) = x / 2 ^ m := by
        unfold shr
        congr 2
        rw [u64_wrap]
        have e : ((m : Int) % 18446744073709551616).toNat = m := by omega
        rw [e]
        exact Nat.min_eq_left (by show m ≤ 64; omega)
      have hpm : 0 ≤ x / 2 ^ m := Int.ediv_nonneg hx.1 (Int.le_of_lt (pow_pos2 m))
      have htm : Int.tmod (x / 2 ^ m) 2 = x / 2 ^ m % 2 := Int.tmod_eq_emod_of_nonneg hpm
      have hle : x / 2 ^ m ≤ x := Int.ediv_le_self _ hx.1
      have hq : q ≤ y * q := by
        have := Int.mul_le_mul_of_nonneg_right hy.1 h2
        omega
      generalize x / 2 ^ m = t at *
      generalize x / 2 ^ (m + 1) = u at *
      have em : ((m + 1 : Nat) : Int) - 1 = (m : Int) := by omega
      rw [em]
      have w1 : IntKind.u64.wrap (r * 2) = r * 2 := by rw [u64_wrap]; omega
      have w2 : IntKind.u64.wrap (r * 2 + t % 2) = r * 2 + t % 2 := by rw [u64_wrap]; omega
      have w3 : IntKind.u64.wrap (q * 2) = q * 2 := by rw [u64_wrap]; omega
      have w4 : IntKind.u64.wrap (q * 2 + 1) = q * 2 + 1 := by rw [u64_wrap]; omega
      have e2 : y * (q * 2) = 2 * (y * q) := by rw [← Int.mul_assoc, Int.mul_comm]
      by_cases hc : r * 2 + t % 2 ≥ y
      · have w5 : IntKind.u64.wrap (r * 2 + t % 2 - y) = r * 2 + t % 2 - y := by rw [u64_wrap]; omega
        refine Ev.step (f := fun k => sorrelref06_divide.l0 k x y (q * 2 + 1) (r * 2 + t % 2 - y) ((m : Int) - 1)) (fun k => ?_) (ih _ _ (by omega) ?_ (by omega) (by omega) (by omega))
        · rw [sorrelref06_divide.l0, if_pos (by omega), if_pos (by rw [u64_wrap]; omega), if_neg (by omega), hsh, htm, w1, w2, if_pos hc, w3, w4, w5, w64 _ (by omega)]
        · rw [Int.mul_add, Int.mul_one, e2]; omega
      · refine Ev.step (f := fun k => sorrelref06_divide.l0 k x y (q * 2) (r * 2 + t % 2) ((m : Int) - 1)) (fun k => ?_) (ih _ _ (by omega) ?_ (by omega) (by omega) (by omega))
        · rw [sorrelref06_divide.l0, if_pos (by omega), if_pos (by rw [u64_wrap]; omega), if_neg (by omega), hsh, htm, w1, w2, if_neg hc, w3, w64 _ (by omega)]
        · rw [e2]; omega
  have e : x / 2 ^ 64 = y * 0 + 0 := by
    rw [Int.mul_zero]
    exact Int.ediv_eq_zero_of_lt hx.1 (by show x < 18446744073709551616; omega)
  exact loop 64 0 0 (Nat.le_refl _) e (by omega) (by omega) (by omega)
theorem size_eq (a : Int) (ha : inI a) : sorrelref06_size.f a = some (if a < 0 then -a else a) := by
  unfold inI at ha
  unfold sorrelref06_size.f
  simp only [u64_wrap]
  split
  · congr 1; omega
  · congr 1; omega
theorem signed_eq (a : Int) (neg : Bool) : sorrelref06_signed.f a neg = some (if neg = true then wrap64 (-a) else wrap64 a) := by
  unfold sorrelref06_signed.f
  rw [u64_wrap]
  split
  · congr 1; unfold wrap64; omega
  · rfl
theorem abs_div (a b : Int) : Int.tdiv a b = if (decide (a < 0) != decide (b < 0)) = true then -((if a < 0 then -a else a) / (if b < 0 then -b else b)) else (if a < 0 then -a else a) / (if b < 0 then -b else b) := by
  by_cases ha : a < 0 <;> by_cases hb : b < 0 <;> simp only [ha, hb, decide_true, decide_false, if_true, if_false, bne_self_eq_false, Bool.false_eq_true, Bool.true_bne, Bool.not_false, Bool.false_bne]
  · rw [← Int.tdiv_eq_ediv_of_nonneg (by omega), Int.neg_tdiv, Int.tdiv_neg, Int.neg_neg]
  · rw [← Int.tdiv_eq_ediv_of_nonneg (by omega), Int.neg_tdiv, Int.neg_neg]
  · rw [← Int.tdiv_eq_ediv_of_nonneg (by omega), Int.tdiv_neg, Int.neg_neg]
  · rw [← Int.tdiv_eq_ediv_of_nonneg (by omega)]
theorem abs_mod (a b : Int) : Int.tmod a b = if a < 0 then -((if a < 0 then -a else a) % (if b < 0 then -b else b)) else (if a < 0 then -a else a) % (if b < 0 then -b else b) := by
  by_cases ha : a < 0 <;> by_cases hb : b < 0 <;> simp only [ha, hb, if_true, if_false]
  · rw [← Int.tmod_eq_emod_of_nonneg (by omega), Int.neg_tmod, Int.tmod_neg, Int.neg_neg]
  · rw [← Int.tmod_eq_emod_of_nonneg (by omega), Int.neg_tmod, Int.neg_neg]
  · rw [← Int.tmod_eq_emod_of_nonneg (by omega), Int.tmod_neg]
  · rw [← Int.tmod_eq_emod_of_nonneg (by omega)]
theorem shifted_ev : ∀ (n : Nat) (x c i : Int), c - i = n → 0 ≤ i → c ≤ 63 → inI x → Ev (fun k => sorrelref06_shifted.l0 k x c i) (wrap64 (x * 2 ^ n)) := by
  intro n
  induction n with
  | zero =>
    intro x c i h1 h2 h3 hx
    refine Ev.last fun k => ?_
    rw [sorrelref06_shifted.l0, if_neg (by omega), Int.pow_zero, Int.mul_one, w64 x hx]
  | succ n ih =>
    intro x c i h1 h2 h3 hx
    rw [← wrap_double]
    refine Ev.step (f := fun k => sorrelref06_shifted.l0 k (wrap64 (x + x)) c (i + 1)) (fun k => ?_) (ih _ c (i + 1) (by omega) (by omega) h3 (w64_in _))
    rw [sorrelref06_shifted.l0, if_pos (by omega), w64 (i + 1) (by omega)]
theorem lowered_ev : ∀ (n : Nat) (x c i : Int), c - i = n → 0 ≤ i → c ≤ 63 → inI x → Ev (fun k => sorrelref06_lowered.l0 k x c i) (x / 2 ^ n) := by
  intro n
  induction n with
  | zero =>
    intro x c i h1 h2 h3 hx
    refine Ev.last fun k => ?_
    rw [sorrelref06_lowered.l0, if_neg (by omega), Int.pow_zero, Int.ediv_one]
  | succ n ih =>
    intro x c i h1 h2 h3 hx
    rw [← halves]
    have hh := half x hx
    refine Ev.step (f := fun k => sorrelref06_lowered.l0 k (x / 2) c (i + 1)) (fun k => ?_) (ih _ c (i + 1) (by omega) (by omega) h3 (by unfold inI at *; omega))
    rw [sorrelref06_lowered.l0, if_pos (by omega), w64 (i + 1) (by omega), ← hh]
    split <;> rfl
theorem refTwo_ev (op a b : Int) (ha : inI a) (hb : inI b) (h : (op = 8 ∨ op = 9) → b ≠ 0) : Ev (fun k => sorrelref06_two.f k op a b) (twoZ op a b) := by
  unfold sorrelref06_two.f twoZ sorrelref06_yes.f
  rw [and63, size_eq a ha, size_eq b hb]
  by_cases e5 : op = 5
  · simp only [if_pos e5]; exact Ev.now _
  simp only [if_neg e5]
  by_cases e6 : op = 6
  · simp only [if_pos e6]; exact Ev.now _
  simp only [if_neg e6]
  by_cases e7 : op = 7
  · simp only [if_pos e7]; exact Ev.now _
  simp only [if_neg e7]
  have ha' := ha
  have hb' := hb
  unfold inI at ha' hb'
  by_cases e8 : op = 8
  · simp only [if_pos e8, Option.bind_some]
    have hne := h (.inl e8)
    refine Ev.bind (divide_ev _ _ (by split <;> omega) (by split <;> omega)) ?_
    refine Ev.pure fun k => ?_
    rw [signed_eq, abs_div a b]
    split <;> rfl
  simp only [if_neg e8]
  by_cases e9 : op = 9
  · simp only [if_pos e9, Option.bind_some]
    have hne := h (.inr e9)
    refine Ev.bind (divide_ev _ _ (by split <;> omega) (by split <;> omega)) ?_
    refine Ev.pure fun k => ?_
    have hin := tmod_in a b ha hne
    rw [signed_eq]
    rw [abs_mod a b] at hin ⊢
    by_cases hc : a < 0
    · simp only [hc, decide_true, if_true] at hin ⊢
      rw [w64 _ hin]; rfl
    · simp only [hc, decide_false, if_false] at hin ⊢
      simp only [Bool.false_eq_true, if_false]
      rw [w64 _ hin]; rfl
  simp only [if_neg e9]
  by_cases e10 : op = 10
  · simp only [if_pos e10]; exact Ev.now _
  simp only [if_neg e10]
  by_cases e11 : op = 11
  · simp only [if_pos e11]; exact Ev.now _
  simp only [if_neg e11]
  by_cases e12 : op = 12
  · simp only [if_pos e12]; exact Ev.now _
  simp only [if_neg e12]
  by_cases e13 : op = 13
  · simp only [if_pos e13]
    have := shifted_ev (b % 64).toNat a (b % 64) 0 (by omega) (by omega) (by omega) ha
    exact Ev.bind (a := wrap64 (a * 2 ^ (b % 64).toNat)) this (Ev.now _)
  simp only [if_neg e13]
  by_cases e14 : op = 14
  · simp only [if_pos e14]
    have := lowered_ev (b % 64).toNat a (b % 64) 0 (by omega) (by omega) (by omega) ha
    exact Ev.bind (a := a / 2 ^ (b % 64).toNat) this (Ev.now _)
  simp only [if_neg e14]
  by_cases e15 : op = 15
  · simp only [if_pos e15]
    by_cases c : a = b
    · simp [c]; exact Ev.now _
    · simp [c]; exact Ev.now _
  simp only [if_neg e15]
  by_cases c : a < b
  · simp [c]; exact Ev.now _
  · simp [c]; exact Ev.now _
end Go.Proofs.YtacjjfoelhckcaaDoor.PEvalPlays
