/- The plain law of EvalNames. -/
import Derived.Test.YtacjjfoelhckcaaDoorPEvalNamesx
import Derived.Test.YtacjjfoelhckcaaDoorM2
import Derived.Test.YtacjjfoelhckcaaDoorO2
import Derived.Test.YtacjjfoelhckcaaDoorM3
/- Plain laws, part 1: operators, sound nodes, rows of numbers, the check of a text of nodes (by the open ones; by walking). -/
namespace Go.Proofs.YtacjjfoelhckcaaDoor.PEvalNames
open Go.RowKit Go.Proofs.YtacjjfoelhckcaaDoorW.PrintWords
set_option linter.unusedVariables false

theorem arity_ev (a : Int) : Ev (fun k => expr_Arity.f k a) (arE a) := by
  refine Ev.step (f := fun k => expr_Arity.f (k + 1) a) (fun _ => rfl) (Ev.last fun k => ?_)
  simp only [expr_Arity.f, expr_Arity.j0, expr_Arity.j1, arE, arityZ]
  repeat' split
  all_goals simp_all
  all_goals omega
theorem sound_ev (op n : Int) (name : ByteArray) (kids : List Int) : Ev (fun k => expr_sound.f k op n name kids) (formB op n name kids.length) := by
  unfold expr_sound.f
  refine Ev.bind (arity_ev op) ?_
  refine Ev.last fun k => ?_
  have := arityZ_bounds op
  simp only [arE, formB, expr_sound.j0, runes_Name.f]
  repeat' split
  all_goals simp_all
  all_goals omega
theorem equal_loop (a b : List Int) (hl : a.length = b.length) (hb : a.length ≤ 9223372036854775806) : ∀ (n i : Nat), a.length - i ≤ n → i ≤ a.length →
    Ev (fun k => slices_Equal_int_int.l0 k a b (a.length : Int) (i : Int)) (decide (a.drop i = b.drop i)) := by
  intro n
  induction n with
  | zero =>
    intro i h1 h2
    refine Ev.last fun k => ?_
    rw [slices_Equal_int_int.l0, if_neg (by omega), List.drop_eq_nil_of_le (by omega), List.drop_eq_nil_of_le (by omega)]
    rfl
  | succ n ih =>
    intro i h1 h2
    by_cases hi : i < a.length
    · rw [List.drop_eq_getElem_cons hi, List.drop_eq_getElem_cons (by omega : i < b.length)]
      have ea : rd a (i : Int) = a[i] := getD_lt a i 0 hi
      have eb : rd b (i : Int) = b[i] := getD_lt b i 0 (by omega)
      by_cases he : a[i] = b[i]
      · refine Ev.step (f := fun k => slices_Equal_int_int.l0 k a b (a.length : Int) ((i + 1 : Nat) : Int)) (fun k => ?_) ?_
        · rw [slices_Equal_int_int.l0, if_pos (by omega), if_pos (by omega), if_pos (by omega), if_pos (by omega), ea, eb, if_pos he, w64 _ (by omega)]; rfl
        · have := ih (i + 1) (by omega) (by omega)
          simpa only [List.cons.injEq, he, true_and] using this
      · refine Ev.last fun k => ?_
        rw [slices_Equal_int_int.l0, if_pos (by omega), if_pos (by omega), if_pos (by omega), if_pos (by omega), ea, eb, if_neg he]
        simp only [List.cons.injEq, he, false_and, decide_false]
    · refine Ev.last fun k => ?_
      rw [slices_Equal_int_int.l0, if_neg (by omega), List.drop_eq_nil_of_le (by omega), List.drop_eq_nil_of_le (by omega)]
      rfl
theorem equal_ev (a b : List Int) (hb : a.length ≤ 9223372036854775806) : Ev (fun k => slices_Equal_int_int.f k a b) (decide (a = b)) := by
  unfold slices_Equal_int_int.f
  by_cases hl : a.length = b.length
  · refine Ev.congr (fun k => if_pos (by omega)) ?_
    have := equal_loop a b hl hb _ 0 (Nat.le_refl _) (by omega)
    simpa using this
  · refine Ev.congr (fun k => if_neg (by omega)) ?_
    have : a ≠ b := fun h => hl (by rw [h])
    simp only [this, decide_false]
    exact Ev.now _

/-! ### the check by the open ones -/
def formN (x : S45) : Bool := formB x.f0 x.f1 x.f2 x.f3.length
def fitsN (st : List Int) (x : S45) : Bool := formN x && decide (x.f3.length ≤ st.length) && decide (st.drop (st.length - x.f3.length) = x.f3)
def checkFrom (st : List Int) (i : Nat) : List S45 → Int
  | [] => if st.length = 1 then 0 else 1
  | x :: r => if fitsN st x = true then checkFrom (st.take (st.length - x.f3.length) ++ [(i : Int)]) (i + 1) r else 1
def checkE (l : List S45) : Int := if l.length < 1 ∨ 64 < l.length then 1 else checkFrom [] 0 l
theorem check_loop (l : List S45) (hl : l.length ≤ 64) (hk : ∀ x ∈ l, okN (x.f0, x.f1, x.f2, x.f3)) : ∀ (n i : Nat) (st : List Int), l.length - i ≤ n → i ≤ l.length → st.length ≤ i →
    Ev (fun k => expr_Check.l0 k st l (l.length : Int) (i : Int)) (checkFrom st i (l.drop i)) := by
  intro n
  induction n with
  | zero =>
    intro i st h1 h2 h3
    refine Ev.last fun k => ?_
    rw [expr_Check.l0, if_neg (by omega), List.drop_eq_nil_of_le (by omega), checkFrom]
    split <;> split <;> first | rfl | omega
  | succ n ih =>
    intro i st h1 h2 h3
    by_cases hi : i < l.length
    · rw [List.drop_eq_getElem_cons hi, checkFrom]
      have ea : rd_T45 l (i : Int) = l[i] := getD_lt l i _ hi
      have hx := hk _ (List.getElem_mem hi)
      have hkid : (l[i]).f3.length ≤ 17592186043904 := by have := hx.2.2.2.1; dsimp only at this; omega
      generalize hxx : l[i] = x at *
      refine Ev.step (f := fun k => (expr_sound.f k x.f0 x.f1 x.f2 x.f3).bind fun t109 => (if t109 = true then (expr_Check.j2 k st i l (l.length : Int) i (decide ((x.f3.length : Int) > (st.length : Int))) x.f0 x.f1 x.f2 x.f3) else (expr_Check.j2 k st i l (l.length : Int) i true x.f0 x.f1 x.f2 x.f3))) (fun k => ?_) ?_
      · rw [expr_Check.l0, if_pos (by omega), if_pos (by omega), if_pos (by omega), ea]
      refine Ev.bind (sound_ev x.f0 x.f1 x.f2 x.f3) ?_
      by_cases hf : formB x.f0 x.f1 x.f2 x.f3.length = true
      · refine Ev.congr (fun k => if_pos hf) ?_
        by_cases hc : x.f3.length ≤ st.length
        · have e1 : wrap64 ((st.length : Int) - (x.f3.length : Int)) = ((st.length - x.f3.length : Nat) : Int) := by rw [w64 _ (by omega)]; omega
          have e2 : (decide ((x.f3.length : Int) > (st.length : Int))) = false := by simp; omega
          by_cases hd : st.drop (st.length - x.f3.length) = x.f3
          · have e3 : fitsN st x = true := by simp [fitsN, formN, hf, hc, hd]
            rw [if_pos e3]
            refine Ev.step (f := fun k => (slices_Equal_int_int.f k (st.drop (st.length - x.f3.length)) x.f3).bind fun t114 => (if t114 = true then ((some (st.take (st.length - x.f3.length) : List Int)).bind fun y115 => (if y115.length < 17592186044416 then (expr_Check.l0 k (y115 ++ [(i : Int)]) l (l.length : Int) (wrap64 ((i : Int) + 1))) else (none))) else (some 1))) (fun k => ?_) ?_
            · rw [expr_Check.j2, e2, if_neg (by simp), e1, if_pos (by omega), if_pos (by omega)]
              rfl
            refine Ev.bind (equal_ev _ _ (by rw [List.length_drop]; omega)) ?_
            have e4 : decide (st.drop (st.length - x.f3.length) = x.f3) = true := by simpa using hd
            refine Ev.congr (fun k => if_pos e4) ?_
            refine Ev.congr (f := fun k => expr_Check.l0 k (st.take (st.length - x.f3.length) ++ [(i : Int)]) l (l.length : Int) ((i + 1 : Nat) : Int)) (fun k => ?_) ?_
            · rw [Option.bind_some, if_pos (by rw [List.length_take]; omega), w64 _ (by omega)]; rfl
            · exact ih (i + 1) _ (by omega) (by omega) (by rw [List.length_append, List.length_take]; simp; omega)
          · have e3 : ¬ fitsN st x = true := by simp [fitsN, hd]
            rw [if_neg e3]
            refine Ev.step (f := fun k => (slices_Equal_int_int.f k (st.drop (st.length - x.f3.length)) x.f3).bind fun t114 => (if t114 = true then ((some (st.take (st.length - x.f3.length) : List Int)).bind fun y115 => (if y115.length < 17592186044416 then (expr_Check.l0 k (y115 ++ [(i : Int)]) l (l.length : Int) (wrap64 ((i : Int) + 1))) else (none))) else (some 1))) (fun k => ?_) ?_
            · rw [expr_Check.j2, e2, if_neg (by simp), e1, if_pos (by omega), if_pos (by omega)]
              rfl
            refine Ev.bind (equal_ev _ _ (by rw [List.length_drop]; omega)) ?_
            have e4 : ¬ decide (st.drop (st.length - x.f3.length) = x.f3) = true := by simpa using hd
            exact Ev.congr (fun k => if_neg e4) (Ev.now _)
        · have e3 : ¬ fitsN st x = true := by simp [fitsN, hc]
          rw [if_neg e3]
          refine Ev.last fun k => ?_
          rw [expr_Check.j2, if_pos (by simp; omega)]
      · have e3 : ¬ fitsN st x = true := by simp [fitsN, formN, hf]
        rw [if_neg e3]
        refine Ev.congr (fun k => if_neg hf) ?_
        refine Ev.last fun k => ?_
        rw [expr_Check.j2, if_pos rfl]
    · refine Ev.last fun k => ?_
      rw [expr_Check.l0, if_neg (by omega), List.drop_eq_nil_of_le (by omega), checkFrom]
      split <;> split <;> first | rfl | omega
theorem check_ev (l : List S45) (hk : ∀ x ∈ l, okN (x.f0, x.f1, x.f2, x.f3)) : Ev (fun k => expr_Check.f k l) (checkE l) := by
  unfold expr_Check.f checkE
  by_cases h1 : l.length < 1
  · rw [if_pos (Or.inl h1)]
    refine Ev.congr (fun k => if_pos (by omega)) (Ev.last fun k => ?_)
    rw [expr_Check.j0, if_pos rfl]
  · refine Ev.congr (fun k => if_neg (by omega)) ?_
    by_cases h2 : 64 < l.length
    · rw [if_pos (Or.inr h2)]
      refine Ev.last fun k => ?_
      rw [expr_Check.j0, if_pos (by simp; omega)]
    · rw [if_neg (by omega)]
      refine Ev.step (f := fun k => expr_Check.l0 k [] l (l.length : Int) ((0 : Nat) : Int)) (fun k => ?_) ?_
      · rw [expr_Check.j0, if_neg (by simp; omega)]; rfl
      · exact check_loop l (by omega) hk _ 0 [] (Nat.le_refl _) (by omega) (by simp)
end Go.Proofs.YtacjjfoelhckcaaDoor.PEvalNames

/- Plain laws, part 2: the check of a text of nodes by walking; it answers as the check by the open ones. -/
namespace Go.Proofs.YtacjjfoelhckcaaDoor.PEvalNames
open Go.RowKit Go.Proofs.YtacjjfoelhckcaaDoorW.PrintWords
set_option linter.unusedVariables false

theorem check_bad : ∀ (r : List S45) (st : List Int) (i : Nat), (∃ x ∈ r, ¬ formN x = true) → checkFrom st i r = 1 := by
  intro r
  induction r with
  | nil => rintro st i ⟨x, hx, _⟩; cases hx
  | cons x r ih =>
    rintro st i ⟨y, hy, hn⟩
    rw [checkFrom]
    split
    · rename_i hfit
      refine ih _ _ ⟨y, ?_, hn⟩
      rcases List.mem_cons.1 hy with rfl | hy
      · exact absurd (by simp [fitsN] at hfit; exact hfit.1.1) hn
      · exact hy
    · rfl
end Go.Proofs.YtacjjfoelhckcaaDoor.PEvalNames

/- Plain laws, part 3: copies. -/
namespace Go.Proofs.YtacjjfoelhckcaaDoor.PEvalNames
open Go.RowKit Go.Proofs.YtacjjfoelhckcaaDoorW.PrintWords
set_option linter.unusedVariables false

abbrev okE (x : S45) : Prop := okN (x.f0, x.f1, x.f2, x.f3)
theorem okE.kids {x : S45} (h : okE x) : x.f3.length ≤ 17592186043904 := by
  have := h.2.2.2.1
  dsimp only at this
  omega
/-! ### copies -/
theorem copy_ev (l : List S45) (hb : l.length ≤ 2513169434843) (hk : ∀ x ∈ l, okE x) : Ev (fun k => sorrelref02_Copy.f k l) l := by
  have loop : ∀ (n i : Nat), l.length - i ≤ n → i ≤ l.length → Ev (fun k => sorrelref02_Copy.l0 k l (l.take i) (i : Int)) l := by
    have fin : ∀ i : Nat, i ≤ l.length → l.length ≤ i → Ev (fun k => sorrelref02_Copy.l0 k l (l.take i) (i : Int)) l := by
      intro i h1 h2
      refine Ev.last fun k => ?_
      rw [sorrelref02_Copy.l0, if_neg (by omega), List.take_of_length_le (by omega)]
    intro n
    induction n with
    | zero => intro i h1 h2; exact fin i h2 (by omega)
    | succ n ih =>
      intro i h1 h2
      by_cases hi : i < l.length
      · have ea : rd_T45 l (i : Int) = l[i] := getD_lt l i _ hi
        have hx := (hk _ (List.getElem_mem hi)).kids
        refine Ev.step (f := fun k => sorrelref02_Copy.l0 k l (l.take (i + 1)) ((i + 1 : Nat) : Int)) (fun k => ?_) (ih (i + 1) (by omega) (by omega))
        rw [sorrelref02_Copy.l0, if_pos (by omega), if_pos (by omega), Option.bind_some, ea, if_pos (by simp; omega), if_pos (by rw [List.length_take]; omega), w64 _ (by omega), List.take_succ_eq_append_getElem hi]; rfl
      · exact fin i h2 (by omega)
  unfold sorrelref02_Copy.f
  have := loop _ 0 (Nat.le_refl _) (by omega)
  rw [List.take_zero] at this
  exact this
end Go.Proofs.YtacjjfoelhckcaaDoor.PEvalNames

/- Plain laws, part 5: the operators on values: arith's Apply answers as the reference's. -/
namespace Go.Proofs.YtacjjfoelhckcaaDoor.PEvalNames
open Go.RowKit Go.Proofs.YtacjjfoelhckcaaDoorW.PrintWords Go.Proofs.YtacjjfoelhckcaaDoorW.PrintMore
set_option linter.unusedVariables false

def twoZ (op a b : Int) : Int :=
  if op = 5 then wrap64 (a + b) else if op = 6 then wrap64 (a - b) else if op = 7 then wrap64 (a * b) else if op = 8 then wrap64 (Int.tdiv a b) else if op = 9 then Int.tmod a b
  else if op = 10 then bits .and .i64 a b else if op = 11 then bits .or .i64 a b else if op = 12 then bits .xor .i64 a b else if op = 13 then wrap64 (a * 2 ^ (b % 64).toNat) else if op = 14 then a / 2 ^ (b % 64).toNat
  else if op = 15 then (if a = b then 1 else 0) else (if a < b then 1 else 0)
theorem two_eq (op a b : Int) (h : (op = 8 ∨ op = 9) → b ≠ 0) : arith_two.f op a b = some (twoZ op a b) := by
  have h64 : (b % 64).toNat ≤ 64 := by omega
  have hshl : shl .i64 a (b % 64) = wrap64 (a * 2 ^ (b % 64).toNat) := by
    unfold shl
    rw [i64_wrap]
    congr 3
    exact Nat.min_eq_left h64
  have hshr : shr .i64 a (b % 64) = a / 2 ^ (b % 64).toNat := by
    unfold shr
    congr 2
    exact Nat.min_eq_left h64
  unfold arith_two.f twoZ arith_bit.f
  rw [uand63, hshl, hshr]
  by_cases e5 : op = 5
  · rw [if_pos e5, if_pos e5]
  rw [if_neg e5, if_neg e5]
  by_cases e6 : op = 6
  · rw [if_pos e6, if_pos e6]
  rw [if_neg e6, if_neg e6]
  by_cases e7 : op = 7
  · rw [if_pos e7, if_pos e7]
  rw [if_neg e7, if_neg e7]
  by_cases e8 : op = 8
  · rw [if_pos e8, if_pos e8, if_neg (h (.inl e8))]
  rw [if_neg e8, if_neg e8]
  by_cases e9 : op = 9
  · rw [if_pos e9, if_pos e9, if_neg (h (.inr e9))]
  rw [if_neg e9, if_neg e9]
  by_cases e10 : op = 10
  · rw [if_pos e10, if_pos e10]
  rw [if_neg e10, if_neg e10]
  by_cases e11 : op = 11
  · rw [if_pos e11, if_pos e11]
  rw [if_neg e11, if_neg e11]
  by_cases e12 : op = 12
  · rw [if_pos e12, if_pos e12]
  rw [if_neg e12, if_neg e12]
  by_cases e13 : op = 13
  · rw [if_pos e13, if_pos e13, if_pos (by omega)]
  rw [if_neg e13, if_neg e13]
  by_cases e14 : op = 14
  · rw [if_pos e14, if_pos e14, if_pos (by omega)]
  rw [if_neg e14, if_neg e14]
  by_cases e15 : op = 15
  · rw [if_pos e15, if_pos e15]
    by_cases c : a = b <;> simp [c]
  rw [if_neg e15, if_neg e15]
  by_cases c : a < b <;> simp [c]
theorem tmod_in (a b : Int) (ha : inI a) (hb : b ≠ 0) : inI (Int.tmod a b) := by
  unfold inI at *
  have e := Int.natAbs_tmod a b
  have h : a.natAbs % b.natAbs ≤ a.natAbs := Nat.mod_le _ _
  have h1 : 0 ≤ a → 0 ≤ Int.tmod a b := fun h => Int.tmod_nonneg b h
  have h3 : a ≤ 0 → Int.tmod a b ≤ 0 := fun h => tmod_le0 a b h
  generalize Int.tmod a b = d at *
  generalize a.natAbs % b.natAbs = m at *
  omega
theorem ediv_in (a : Int) (n : Nat) (ha : inI a) : inI (a / 2 ^ n) := by
  unfold inI at *
  have hp := pow_pos2 n
  generalize (2 : Int) ^ n = p at *
  have h1 : a / p ≤ 9223372036854775807 := by
    apply Int.ediv_le_of_le_mul hp
    have : (9223372036854775807 : Int) * 1 ≤ 9223372036854775807 * p := Int.mul_le_mul_of_nonneg_left (by omega) (by decide)
    omega
  have h2 : -9223372036854775808 ≤ a / p := by
    apply (Int.le_ediv_iff_mul_le hp).2
    have : (-9223372036854775808 : Int) * p ≤ -9223372036854775808 * 1 := Int.mul_le_mul_of_nonpos_left (by decide) (by omega)
    omega
  exact ⟨h2, h1⟩
theorem two_in (op a b : Int) (ha : inI a) (hb : inI b) (h : (op = 8 ∨ op = 9) → b ≠ 0) : inI (twoZ op a b) := by
  unfold twoZ
  by_cases e9 : op = 9
  · subst e9
    exact tmod_in a b ha (h (.inr rfl))
  by_cases e14 : op = 14
  · subst e14
    exact ediv_in a _ ha
  repeat' split
  all_goals first | exact w64_in _ | exact bits_in _ _ _ | (exact absurd ‹_› e9) | (exact absurd ‹_› e14) | (unfold inI; omega)

/-! ### the reference's -/
theorem abs_div (a b : Int) : Int.tdiv a b = if (decide (a < 0) != decide (b < 0)) = true then -((if a < 0 then -a else a) / (if b < 0 then -b else b)) else (if a < 0 then -a else a) / (if b < 0 then -b else b) := by
  by_cases ha : a < 0 <;> by_cases hb : b < 0 <;> simp only [ha, hb, decide_true, decide_false, if_true, if_false, bne_self_eq_false, Bool.false_eq_true, Bool.true_bne, Bool.not_false, Bool.false_bne]
  · rw [← Int.tdiv_eq_ediv_of_nonneg (by omega), Int.neg_tdiv, Int.tdiv_neg, Int.neg_neg]
  · rw [← Int.tdiv_eq_ediv_of_nonneg (by omega), Int.neg_tdiv, Int.neg_neg]
  · rw [← Int.tdiv_eq_ediv_of_nonneg (by omega), Int.tdiv_neg, Int.neg_neg]
  · rw [← Int.tdiv_eq_ediv_of_nonneg (by omega)]
theorem abs_mod (a b : Int) : Int.tmod a b = if a < 0 then -((if a < 0 then -a else a) % (if b < 0 then -b else b)) else (if a < 0 then -a else a) % (if b < 0 then -b else b) := by
  by_cases ha : a < 0 <;> by_cases hb : b < 0 <;> simp only [ha, hb, if_true, if_false]
  · rw [← Int.tmod_eq_emod_of_nonneg (by omega), Int.neg_tmod, Int.tmod_neg, Int.neg_neg]
  · rw [← Int.tmod_eq_emod_of_nonneg (by omega), Int.neg_tmod, Int.neg_neg]
  · rw [← Int.tmod_eq_emod_of_nonneg (by omega), Int.tmod_neg]
  · rw [← Int.tmod_eq_emod_of_nonneg (by omega)]
end Go.Proofs.YtacjjfoelhckcaaDoor.PEvalNames

/- Plain laws, part 6: Apply; names looked up; what walking covers; kids lie before their node. -/
namespace Go.Proofs.YtacjjfoelhckcaaDoor.PEvalNames
open Go.RowKit Go.Proofs.YtacjjfoelhckcaaDoorW.PrintWords Go.Proofs.YtacjjfoelhckcaaDoorW.PrintMore
set_option linter.unusedVariables false

def applyZ (op : Int) (xs : List Int) : Int × Int :=
  if arityZ op ≤ 0 ∨ arityZ op ≠ xs.length then (0, 2) else if op = 3 then (wrap64 (-(rd xs 0)), 0) else if op = 4 then (wrap64 (-1 - rd xs 0), 0)
  else if op = 17 then (if rd xs 0 ≠ 0 then (rd xs 1, 0) else (rd xs 2, 0)) else if (op = 8 ∨ op = 9) ∧ rd xs 1 = 0 then (0, 12) else (twoZ op (rd xs 0) (rd xs 1), 0)
theorem group_ev (op : Int) : Ev (fun k => arith_group.f k op) (if op = 8 ∨ op = 9 then 1 else if 13 ≤ op ∧ op ≤ 16 then 2 else 0) := by
  refine Ev.last fun k => ?_
  simp only [arith_group.f, arith_group.j0]
  repeat' split
  all_goals simp_all
  all_goals omega
theorem arity_two {op : Int} (h : 0 < arityZ op) (h3 : op ≠ 3) (h4 : op ≠ 4) (h17 : op ≠ 17) : arityZ op = 2 := by
  unfold arityZ at *
  repeat' split at h
  all_goals simp_all
theorem apply_ev (op : Int) (xs : List Int) : Ev (fun k => arith_Apply.f k op xs) (applyZ op xs) := by
  have hb := arityZ_bounds op
  unfold arith_Apply.f applyZ
  refine Ev.bind (arity_ev op) ?_
  by_cases h : arityZ op ≤ 0 ∨ arityZ op ≠ xs.length
  · rw [if_pos h]
    refine Ev.congr (f := fun k => arith_Apply.j0 k op xs true) (fun k => ?_) (Ev.last fun k => by rw [arith_Apply.j0, if_pos rfl])
    unfold arE
    by_cases h0 : arityZ op < 0
    · simp [h0]
    · by_cases h1 : arityZ op = 0
      · simp [h1]
      · have h2 : (arityZ op != (xs.length : Int)) = true := by rw [bne_iff_ne]; omega
        simp [h0, h1, h2]
  · rw [if_neg h]
    have h2 : (arityZ op != (xs.length : Int)) = false := by rw [bne_eq_false_iff_eq]; omega
    refine Ev.congr (f := fun k => arith_Apply.j0 k op xs false) (fun k => ?_) ?_
    · unfold arE
      have h0 : ¬ arityZ op < 0 := by omega
      have h1 : ¬ arityZ op = 0 := by omega
      simp [h0, h1, h2]
    by_cases e3 : op = 3
    · have hl : arityZ op = 1 := by rw [e3]; decide
      rw [if_pos e3]
      exact Ev.last fun k => by rw [arith_Apply.j0, if_neg (by simp), if_pos e3, if_pos (by omega)]
    rw [if_neg e3]
    by_cases e4 : op = 4
    · have hl : arityZ op = 1 := by rw [e4]; decide
      rw [if_pos e4]
      exact Ev.last fun k => by rw [arith_Apply.j0, if_neg (by simp), if_neg e3, if_pos e4, if_pos (by omega), xorAll]
    rw [if_neg e4]
    by_cases e17 : op = 17
    · have hl : arityZ op = 3 := by rw [e17]; decide
      rw [if_pos e17]
      refine Ev.step (f := fun k => arith_Apply.j1 k op xs ((rd xs 0) != 0)) (fun k => ?_) ?_
      · rw [arith_Apply.j0, if_neg (by simp), if_neg e3, if_neg e4, if_pos e17, if_pos (by omega)]
      · refine Ev.last fun k => ?_
        by_cases c : rd xs 0 = 0
        · rw [arith_Apply.j1, if_neg (by simp [c]), if_pos e17, if_pos (by omega), if_neg (by simp [c])]
        · rw [arith_Apply.j1, if_pos (by simp [c]), if_pos (by omega), if_pos c]
    rw [if_neg e17]
    have hl := arity_two (by omega) e3 e4 e17
    refine Ev.step (f := fun k => arith_Apply.j1 k op xs false) (fun k => ?_) ?_
    · rw [arith_Apply.j0, if_neg (by simp), if_neg e3, if_neg e4, if_neg e17]
    refine Ev.step (f := fun k => (arith_group.f k op).bind fun t144 => (if t144 = 1 then (if 1 < (xs.length : Int) then (if (rd xs 1) = 0 then (some (0, 12)) else (if 0 < (xs.length : Int) then ((arith_two.f op (rd xs 0) (rd xs 1)).bind fun t148 => (some (t148, 0))) else (none))) else (none)) else (if 0 < (xs.length : Int) then (if 1 < (xs.length : Int) then ((arith_two.f op (rd xs 0) (rd xs 1)).bind fun t151 => (some (t151, 0))) else (none)) else (none)))) (fun k => ?_) (Ev.bind (group_ev op) ?_)
    · rw [arith_Apply.j1, if_neg (by simp), if_neg e17]
    refine Ev.pure fun k => ?_
    by_cases h89 : op = 8 ∨ op = 9
    · rw [if_pos h89, if_pos rfl, if_pos (by omega)]
      by_cases c : rd xs 1 = 0
      · rw [if_pos c, if_pos ⟨h89, c⟩]
      · rw [if_neg c, if_pos (by omega), two_eq op _ _ (fun _ => c), if_neg (fun hh => c hh.2)]; rfl
    · have : ¬ (if op = 8 ∨ op = 9 then (1 : Int) else if 13 ≤ op ∧ op ≤ 16 then 2 else 0) = 1 := by
        rw [if_neg h89]; split <;> omega
      rw [if_neg this, if_pos (by omega), if_pos (by omega), two_eq op _ _ (fun hh => absurd hh h89), if_neg (fun hh => h89 hh.1)]; rfl
theorem rd_in {xs : List Int} (h : ∀ v ∈ xs, inI v) (i : Nat) : inI (rd xs (i : Int)) := by
  show inI (xs.getD i 0)
  by_cases hi : i < xs.length
  · rw [getD_lt xs i 0 hi]; exact h _ (List.getElem_mem hi)
  · rw [List.getD_eq_getElem?_getD, List.getElem?_eq_none (by omega)]; unfold inI; simp
theorem apply_in (op : Int) (xs : List Int) (h : ∀ v ∈ xs, inI v) : inI (applyZ op xs).1 := by
  have z : inI 0 := by unfold inI; omega
  unfold applyZ
  by_cases c : (op = 8 ∨ op = 9) ∧ rd xs 1 = 0
  · repeat' split
    all_goals first | exact z | exact w64_in _ | exact rd_in h 1 | exact rd_in h 2 | exact absurd c ‹_›
  · repeat' split
    all_goals first | exact z | exact w64_in _ | exact rd_in h 1 | exact rd_in h 2 | exact two_in op _ _ (rd_in h 0) (rd_in h 1) (fun hh hz => c ⟨hh, hz⟩)
/-! ### names -/
def getF (s : ByteArray) (a : Int) (b : S70) : Int := if b.f0.toList = s.toList then b.f1 else a
def getL (env : List S70) (s : ByteArray) : Int := env.foldl (getF s) 0
theorem get_ev (env : List S70) (s : ByteArray) (hb : env.length ≤ 5864062014634) : Ev (fun k => env_Get.f k env s) (getL env s) := by
  have loop : ∀ m : Nat, m ≤ env.length → ∃ j, Ev (fun k => env_last.l0 k env s ((m : Int) - 1)) j ∧ ((j = -1 ∧ (env.take m).foldl (getF s) 0 = 0) ∨ ∃ i : Nat, ∃ h : i < env.length, j = i ∧ (env.take m).foldl (getF s) 0 = (env[i]).f1) := by
    intro m
    induction m with
    | zero =>
      intro _
      exact ⟨-1, Ev.last fun k => by rw [env_last.l0, if_neg (by omega)], .inl ⟨rfl, rfl⟩⟩
    | succ m ih =>
      intro hm
      obtain ⟨j, hj, hh⟩ := ih (by omega)
      have em : ((m + 1 : Nat) : Int) - 1 = (m : Int) := by omega
      have ea : rd_T70 env (m : Int) = env[m] := getD_lt env m _ (by omega)
      have et : (env.take (m + 1)).foldl (getF s) 0 = getF s ((env.take m).foldl (getF s) 0) env[m] := by rw [List.take_succ_eq_append_getElem (by omega), List.foldl_append]; rfl
      rw [em, et]
      by_cases hc : (env[m]).f0.toList = s.toList
      · refine ⟨m, Ev.last fun k => ?_, .inr ⟨m, by omega, rfl, if_pos hc⟩⟩
        rw [env_last.l0, if_pos (by omega), if_pos (by omega), if_pos (by omega), ea, if_pos hc]
      · have eg : ∀ z, getF s z env[m] = z := fun z => if_neg hc
        rw [eg]
        refine ⟨j, Ev.step (f := fun k => env_last.l0 k env s ((m : Int) - 1)) (fun k => ?_) hj, hh⟩
        rw [env_last.l0, if_pos (by omega), if_pos (by omega), if_pos (by omega), ea, if_neg hc, w64 _ (by omega)]
  obtain ⟨j, hj, hh⟩ := loop env.length (Nat.le_refl _)
  rw [List.take_length] at hh
  unfold env_Get.f env_last.f getL
  rw [w64 ((env.length : Int) - 1) (by omega)]
  refine Ev.bind hj ?_
  rcases hh with ⟨rfl, h⟩ | ⟨i, hi, rfl, h⟩
  · rw [h]
    exact Ev.pure fun k => by rw [if_neg (by omega)]
  · have ea : rd_T70 env (i : Int) = env[i] := getD_lt env i _ hi
    rw [h]
    exact Ev.pure fun k => by rw [if_pos (by omega), if_pos (by omega), if_pos (by omega), ea]
theorem get_in (env : List S70) (s : ByteArray) (h : ∀ b ∈ env, inI b.f1) : inI (getL env s) := by
  have key : ∀ (l : List S70) (a : Int), inI a → (∀ b ∈ l, inI b.f1) → inI (l.foldl (getF s) a) := by
    intro l
    induction l with
    | nil => intro a ha _; exact ha
    | cons b l ih =>
      intro a ha hl
      refine ih _ ?_ (fun c hc => hl c (List.mem_cons_of_mem _ hc))
      unfold getF
      split
      · exact hl b List.mem_cons_self
      · exact ha
  exact key env 0 (by unfold inI; omega) h

/-! ### what a sound text's walk covers -/
theorem checkE_cases (l : List S45) : checkE l = 0 ∨ checkE l = 1 := by
  have key : ∀ (r : List S45) (st : List Int) (i : Nat), checkFrom st i r = 0 ∨ checkFrom st i r = 1 := by
    intro r
    induction r with
    | nil => intro st i; rw [checkFrom]; split <;> simp
    | cons x r ih => intro st i; rw [checkFrom]; split; exact ih _ _; exact .inr rfl
  unfold checkE
  split
  · exact .inr rfl
  · exact key _ _ _
theorem checkE_from {l : List S45} (h : checkE l = 0) : 1 ≤ l.length ∧ l.length ≤ 64 ∧ checkFrom [] 0 l = 0 := by
  unfold checkE at h
  split at h
  · cases h
  · exact ⟨by omega, by omega, h⟩
/-- In a sound text all nodes are sound, the last one's tree is the whole, and each kid lies before its node. -/
theorem checkE_form {l : List S45} (h : checkE l = 0) : ∀ x ∈ l, formN x = true := by
  intro x hx
  by_cases hf : formN x = true
  · exact hf
  · have := check_bad l [] 0 ⟨x, hx, hf⟩
    rw [(checkE_from h).2.2] at this
    cases this
theorem checkE_kids {l : List S45} (h : checkE l = 0) : ∀ (i : Nat) (hi : i < l.length), ∀ kid ∈ (l[i]).f3, 0 ≤ kid ∧ kid < i := by
  have key : ∀ (r : List S45) (st : List Int) (i : Nat), (∀ t ∈ st, 0 ≤ t ∧ t < (i : Int)) → checkFrom st i r = 0 → ∀ (j : Nat) (hj : j < r.length), ∀ kid ∈ (r[j]).f3, 0 ≤ kid ∧ kid < ((i + j : Nat) : Int) := by
    intro r
    induction r with
    | nil => intro st i _ _ j hj; exact absurd hj (by simp)
    | cons x r ih =>
      intro st i hst hc j hj kid hkid
      rw [checkFrom] at hc
      split at hc
      · rename_i hfit
        cases j with
        | zero =>
          simp only [fitsN, Bool.and_eq_true, decide_eq_true_eq] at hfit
          have hm : kid ∈ st := by
            have : kid ∈ x.f3 := hkid
            rw [← hfit.2] at this
            exact List.mem_of_mem_drop this
          exact hst kid hm
        | succ j =>
          have := ih _ (i + 1) (fun t ht => by
            rcases List.mem_append.1 ht with ht | ht
            · have := hst t (List.mem_of_mem_take ht); omega
            · obtain rfl := List.mem_singleton.1 ht; omega) hc j (by simpa using hj) kid (by simpa using hkid)
          omega
      · cases hc
  intro i hi kid hkid
  have := key l [] 0 (by simp) (checkE_from h).2.2 i hi kid hkid
  rwa [Nat.zero_add] at this
end Go.Proofs.YtacjjfoelhckcaaDoor.PEvalNames

/- Plain laws, part 7: the values of a text's nodes; Eval and Trap answer as the reference's. -/
namespace Go.Proofs.YtacjjfoelhckcaaDoor.PEvalNames
open Go.RowKit Go.Proofs.YtacjjfoelhckcaaDoorW.PrintWords Go.Proofs.YtacjjfoelhckcaaDoorW.PrintMore
set_option linter.unusedVariables false

section
variable (env : List S70)
/-- What a node comes to, and its trouble, over the values before it. -/
def nodeV (vals : List Int) (x : S45) : Int × Int := if x.f0 = 1 then (x.f1, 0) else if x.f0 = 2 then (getL env x.f2, 0) else applyZ x.f0 (x.f3.map fun k => rd vals k)
def valsFrom (vals : List Int) : List S45 → List Int
  | [] => vals
  | x :: r => if (nodeV env vals x).2 = 0 then valsFrom (vals ++ [(nodeV env vals x).1]) r else vals
theorem values_loop (l : List S45) (hl : l.length ≤ 64) (he : env.length ≤ 5864062014634) (hk : ∀ x ∈ l, okN (x.f0, x.f1, x.f2, x.f3)) (hb : ∀ (i : Nat) (hi : i < l.length), ∀ kid ∈ (l[i]).f3, 0 ≤ kid ∧ kid < i) :
    ∀ (n i : Nat) (vals : List Int), l.length - i ≤ n → i ≤ l.length → vals.length = i → Ev (fun k => eval_values.l0 k env vals l (l.length : Int) (i : Int)) (valsFrom env vals (l.drop i)) := by
  have fin : ∀ (i : Nat) (vals : List Int), l.length ≤ i → Ev (fun k => eval_values.l0 k env vals l (l.length : Int) (i : Int)) (valsFrom env vals (l.drop i)) := by
    intro i vals h
    rw [List.drop_eq_nil_of_le h, valsFrom]
    exact Ev.last fun k => by rw [eval_values.l0, if_neg (by omega)]
  intro n
  induction n with
  | zero => intro i vals h1 h2 h3; exact fin i vals (by omega)
  | succ n ih =>
    intro i vals h1 h2 h3
    by_cases hi : i < l.length
    · have ea : rd_T45 l (i : Int) = l[i] := getD_lt l i _ hi
      have hkid : (l[i]).f3.length ≤ 17592186043904 := by have := (hk _ (List.getElem_mem hi)).2.2.2.1; dsimp only at this; omega
      have hbx := hb i hi
      rw [List.drop_eq_getElem_cons hi, valsFrom]
      generalize l[i] = x at *
      have go : ∀ v : Int, Ev (fun k => eval_values.l0 k env (vals ++ [v]) l (l.length : Int) (wrap64 ((i : Int) + 1))) (valsFrom env (vals ++ [v]) (l.drop (i + 1))) := fun v => by
        rw [w64 _ (by omega)]
        exact ih (i + 1) (vals ++ [v]) (by omega) (by omega) (by simp; omega)
      have hv64 : vals.length < 17592186044416 := by omega
      have inner : ∀ (m j : Nat), x.f3.length - j ≤ m → j ≤ x.f3.length →
          Ev (fun k => eval_values.l1 k env vals ((x.f3.take j).map fun k => rd vals k) l (l.length : Int) (i : Int) x.f3 (x.f3.length : Int) (j : Int) x.f0 x.f1 x.f2 x.f3) (if (nodeV env vals x).2 = 0 then valsFrom env (vals ++ [(nodeV env vals x).1]) (l.drop (i + 1)) else vals) := by
        have fin2 : ∀ j : Nat, j ≤ x.f3.length → x.f3.length ≤ j → Ev (fun k => eval_values.l1 k env vals ((x.f3.take j).map fun k => rd vals k) l (l.length : Int) (i : Int) x.f3 (x.f3.length : Int) (j : Int) x.f0 x.f1 x.f2 x.f3) (if (nodeV env vals x).2 = 0 then valsFrom env (vals ++ [(nodeV env vals x).1]) (l.drop (i + 1)) else vals) := by
          intro j h1 h2
          rw [List.take_of_length_le h2]
          unfold nodeV
          by_cases e1 : x.f0 = 1
          · rw [if_pos e1, if_pos rfl]
            exact Ev.step (fun k => by rw [eval_values.l1, if_neg (by omega), if_pos e1, if_pos hv64]) (go x.f1)
          rw [if_neg e1]
          by_cases e2 : x.f0 = 2
          · rw [if_pos e2, if_pos rfl]
            refine Ev.step (f := fun k => (env_Get.f k env x.f2).bind fun t162 => (if vals.length < 17592186044416 then (eval_values.l0 k env (vals ++ [t162]) l (l.length : Int) (wrap64 ((i : Int) + 1))) else (none))) (fun k => by rw [eval_values.l1, if_neg (by omega), if_neg e1, if_pos e2]) (Ev.bind (get_ev env x.f2 he) ?_)
            exact Ev.congr (fun k => if_pos hv64) (go _)
          rw [if_neg e2]
          refine Ev.step (f := fun k => (arith_Apply.f k x.f0 (x.f3.map fun k => rd vals k)).bind fun bt166 => (if bt166.2 = 0 then (if vals.length < 17592186044416 then (eval_values.l0 k env (vals ++ [bt166.1]) l (l.length : Int) (wrap64 ((i : Int) + 1))) else (none)) else (some vals))) (fun k => by rw [eval_values.l1, if_neg (by omega), if_neg e1, if_neg e2]) (Ev.bind (apply_ev _ _) ?_)
          by_cases ec : (applyZ x.f0 (x.f3.map fun k => rd vals k)).2 = 0
          · rw [if_pos ec]
            refine Ev.congr (fun k => if_pos ec) ?_
            exact Ev.congr (fun k => if_pos hv64) (go _)
          · rw [if_neg ec]
            exact Ev.congr (fun k => if_neg ec) (Ev.now _)
        intro m
        induction m with
        | zero => intro j h1 h2; exact fin2 j h2 (by omega)
        | succ m ihm =>
          intro j h1 h2
          by_cases hj : j < x.f3.length
          · have ek : rd x.f3 (j : Int) = x.f3[j] := getD_lt x.f3 j 0 hj
            have hkj := hbx _ (List.getElem_mem hj)
            have := ihm (j + 1) (by omega) (by omega)
            rw [List.take_succ_eq_append_getElem hj, List.map_append] at this
            refine Ev.step (fun k => ?_) this
            rw [eval_values.l1, if_pos (by omega), if_pos (by omega), if_pos (by omega), ek, if_pos hkj.1, if_pos (by omega), if_pos (by simp; omega), w64 _ (by omega)]; rfl
          · exact fin2 j h2 (by omega)
      refine Ev.step (fun k => ?_) (inner _ 0 (Nat.le_refl _) (by omega))
      rw [eval_values.l0, if_pos (by omega), if_pos (by omega), if_pos (by omega), ea]; rfl
    · exact fin i vals (by omega)
def valsOf (l : List S45) : List Int := valsFrom env [] l
theorem values_ev (l : List S45) (hl : l.length ≤ 64) (he : env.length ≤ 5864062014634) (hk : ∀ x ∈ l, okN (x.f0, x.f1, x.f2, x.f3)) (hb : ∀ (i : Nat) (hi : i < l.length), ∀ kid ∈ (l[i]).f3, 0 ≤ kid ∧ kid < i) : Ev (fun k => eval_values.f k l env) (valsOf env l) := by
  have := values_loop env l hl he hk hb _ 0 [] (Nat.le_refl _) (by omega) rfl
  rw [List.drop_zero] at this
  exact this

/-! ### what the values are -/
theorem nodeV_app (vals more : List Int) (x : S45) (h : ∀ kid ∈ x.f3, 0 ≤ kid ∧ kid < (vals.length : Int)) : nodeV env (vals ++ more) x = nodeV env vals x := by
  have e : x.f3.map (fun k => rd (vals ++ more) k) = x.f3.map (fun k => rd vals k) := by
    refine List.map_congr_left fun kid hkid => ?_
    have hh := h kid hkid
    obtain ⟨q, rfl⟩ : ∃ q : Nat, kid = q := ⟨kid.toNat, by omega⟩
    show (vals ++ more).getD q 0 = vals.getD q 0
    rw [getD_lt _ q 0 (by simp; omega), getD_lt _ q 0 (by omega), List.getElem_append_left (by omega)]
  unfold nodeV
  rw [e]
theorem valsFrom_spec : ∀ (r : List S45) (vals : List Int), ∃ more, valsFrom env vals r = vals ++ more ∧ more.length ≤ r.length ∧
    ((∀ (j : Nat) (hj : j < r.length), ∀ kid ∈ (r[j]).f3, 0 ≤ kid ∧ kid < ((vals.length + j : Nat) : Int)) → (∀ (j : Nat) (hj : j < more.length) (hr : j < r.length), nodeV env (vals ++ more) r[j] = (more[j], 0)) ∧ (∀ hr : more.length < r.length, (nodeV env (vals ++ more) r[more.length]).2 ≠ 0)) := by
  intro r
  induction r with
  | nil => intro vals; exact ⟨[], by simp [valsFrom], by simp, fun _ => ⟨fun j hj => absurd hj (by simp), fun hr => absurd hr (by simp)⟩⟩
  | cons x r ih =>
    intro vals
    rw [valsFrom]
    by_cases hc : (nodeV env vals x).2 = 0
    · rw [if_pos hc]
      obtain ⟨more, h1, h2, h3⟩ := ih (vals ++ [(nodeV env vals x).1])
      refine ⟨(nodeV env vals x).1 :: more, by rw [h1, List.append_assoc]; rfl, by simp; exact h2, fun hb => ?_⟩
      have hx0 : ∀ kid ∈ x.f3, 0 ≤ kid ∧ kid < (vals.length : Int) := fun kid hkid => by have := hb 0 (by simp) kid hkid; omega
      obtain ⟨g1, g2⟩ := h3 (fun j hj kid hkid => by have := hb (j + 1) (by simp; omega) kid hkid; simp; omega)
      have ea : vals ++ (nodeV env vals x).1 :: more = vals ++ [(nodeV env vals x).1] ++ more := by simp
      rw [ea]
      refine ⟨fun j hj hr => ?_, fun hr => ?_⟩
      · cases j with
        | zero =>
          rw [List.append_assoc, List.getElem_cons_zero, nodeV_app env vals _ x hx0, List.getElem_cons_zero]
          exact Prod.ext rfl hc
        | succ j => exact g1 j (by simpa using hj) (by simpa using hr)
      · exact g2 (by simpa using hr)
    · rw [if_neg hc]
      refine ⟨[], by simp, by simp, fun hb => ⟨fun j hj => absurd hj (by simp), fun hr => ?_⟩⟩
      simpa using hc
theorem valsOf_spec (l : List S45) (hb : ∀ (i : Nat) (hi : i < l.length), ∀ kid ∈ (l[i]).f3, 0 ≤ kid ∧ kid < i) :
    (valsOf env l).length ≤ l.length ∧ (∀ (j : Nat) (hj : j < (valsOf env l).length) (hr : j < l.length), nodeV env (valsOf env l) l[j] = ((valsOf env l)[j], 0)) ∧ (∀ hr : (valsOf env l).length < l.length, (nodeV env (valsOf env l) l[(valsOf env l).length]).2 ≠ 0) := by
  obtain ⟨more, h1, h2, h3⟩ := valsFrom_spec env l []
  rw [List.nil_append] at h1
  have e : valsOf env l = more := h1
  rw [e]
  obtain ⟨g1, g2⟩ := h3 (fun j hj kid hkid => by have := hb j hj kid hkid; simp; omega)
  exact ⟨h2, g1, g2⟩

/-! ### the reference, node by node -/
end
end Go.Proofs.YtacjjfoelhckcaaDoor.PEvalNames

/- Plain laws, part 8: Eval and Trap, whole. -/
namespace Go.Proofs.YtacjjfoelhckcaaDoor.PEvalNames
open Go.RowKit Go.Proofs.YtacjjfoelhckcaaDoorW.PrintWords Go.Proofs.YtacjjfoelhckcaaDoorW.PrintMore
set_option linter.unusedVariables false

section
variable (env : List S70)
def trapS (l : List S45) : Int × Int := if checkE l = 0 then (if (valsOf env l).length < l.length then (((valsOf env l).length : Int), 0) else (0, 11)) else (0, 1)
def evalS (l : List S45) : Int × Int := if checkE l = 0 then (if (valsOf env l).length < l.length then (0, 12) else (rd (valsOf env l) ((l.length : Int) - 1), 0)) else (0, 1)
theorem trap_ev (l : List S45) (he : env.length ≤ 5864062014634) (hk : ∀ x ∈ l, okN (x.f0, x.f1, x.f2, x.f3)) : Ev (fun k => eval_Trap.f k l env) (trapS env l) := by
  unfold eval_Trap.f trapS
  refine Ev.bind (check_ev l hk) ?_
  by_cases hc : checkE l = 0
  · rw [if_pos hc]
    refine Ev.congr (fun k => if_pos hc) ?_
    obtain ⟨h1, h2, _⟩ := checkE_from hc
    refine Ev.bind (values_ev env l h2 he hk (checkE_kids hc)) ?_
    clear hc
    refine Ev.pure fun k => ?_
    by_cases hv : (valsOf env l).length < l.length
    · rw [if_pos hv, if_pos (by omega)]
    · rw [if_neg hv, if_neg (by omega)]
  · rw [if_neg hc]
    refine Ev.congr (fun k => if_neg hc) ?_
    have e : checkE l = 1 := (checkE_cases l).resolve_left hc
    rw [e]
    exact Ev.now _
theorem eval_ev (l : List S45) (he : env.length ≤ 5864062014634) (hk : ∀ x ∈ l, okN (x.f0, x.f1, x.f2, x.f3)) : Ev (fun k => eval_Eval.f k l env) (evalS env l) := by
  unfold eval_Eval.f evalS
  refine Ev.bind (check_ev l hk) ?_
  by_cases hc : checkE l = 0
  · rw [if_pos hc]
    refine Ev.congr (fun k => if_pos hc) ?_
    obtain ⟨h1, h2, _⟩ := checkE_from hc
    have hval := values_ev env l h2 he hk (checkE_kids hc)
    have hspec := valsOf_spec env l (checkE_kids hc)
    refine Ev.bind (trap_ev env l he hk) ?_
    have ht : trapS env l = if (valsOf env l).length < l.length then (((valsOf env l).length : Int), 0) else (0, 11) := if_pos hc
    rw [ht]
    clear hc ht
    by_cases hv : (valsOf env l).length < l.length
    · rw [if_pos hv, if_pos hv]
      exact Ev.congr (fun k => if_neg (by simp)) (Ev.now _)
    · rw [if_neg hv, if_neg hv]
      refine Ev.congr (fun k => if_pos rfl) ?_
      refine Ev.bind hval ?_
      have e : wrap64 ((l.length : Int) - 1) = (l.length : Int) - 1 := w64 _ (by omega)
      rw [e]
      clear e
      refine Ev.pure fun k => ?_
      rw [if_pos (by omega), if_pos (by omega)]
  · rw [if_neg hc]
    refine Ev.congr (fun k => if_neg hc) ?_
    have e : checkE l = 1 := (checkE_cases l).resolve_left hc
    rw [e]
    exact Ev.now _
/-! ### the reference -/
end
end Go.Proofs.YtacjjfoelhckcaaDoor.PEvalNames

/- Plain laws: the names of an expression. -/
namespace Go.Proofs.YtacjjfoelhckcaaDoor.PEvalNames
open Go.RowKit Go.Sort Go.Lib Go.Proofs.YtacjjfoelhckcaaDoorW.PrintWords
set_option linter.unusedVariables false

/-- The names of the variables, as they stand. -/
def varsL (l : List S45) : List ByteArray := (l.filter fun x => x.f0 == 2).map (·.f2)
def namesL (l : List S45) : List ByteArray := compN (sortN (varsL l))
theorem compact_mem (d : Array ByteArray) : ∀ j, j < d.size → d[j]! ∈ compactUpTo d d.size := by
  intro j
  induction j with
  | zero =>
    intro h
    refine List.mem_map.2 ⟨0, List.mem_filter.2 ⟨List.mem_range.2 h, ?_⟩, rfl⟩
    simp [keeps]
  | succ j ih =>
    intro h
    by_cases hk : d[j + 1]! = d[j]!
    · rw [hk]; exact ih (by omega)
    · refine List.mem_map.2 ⟨j + 1, List.mem_filter.2 ⟨List.mem_range.2 h, ?_⟩, rfl⟩
      simp [keeps, hk]
theorem comp_mem {xs : List ByteArray} {x : ByteArray} (h : x ∈ xs) : x ∈ compN xs := by
  obtain ⟨j, hj, e⟩ := List.getElem_of_mem h
  have := compact_mem xs.toArray j (by simpa using hj)
  rw [getElem!_pos xs.toArray j (by simpa using hj)] at this
  simpa [compN, e] using this
theorem comp_len (xs : List ByteArray) : (compN xs).length ≤ xs.length := by
  rw [compN, compactUpTo, List.length_map]
  refine Nat.le_trans (List.length_filter_le _ _) ?_
  simp
theorem names_mem {l : List S45} {x : S45} (h : x ∈ l) (h2 : x.f0 = 2) : x.f2 ∈ namesL l := by
  refine comp_mem (List.mem_mergeSort.2 (List.mem_map.2 ⟨x, List.mem_filter.2 ⟨h, ?_⟩, rfl⟩))
  simpa using h2
theorem vars_len (l : List S45) : (varsL l).length ≤ l.length := by
  rw [varsL, List.length_map]; exact List.length_filter_le _ _
theorem names_len (l : List S45) : (namesL l).length ≤ l.length := by
  have h1 := comp_len (sortN (varsL l))
  rw [sortN_len] at h1
  exact Nat.le_trans h1 (vars_len l)
theorem vars_ok {l : List S45} (hf : ∀ x ∈ l, formN x = true) (hk : ∀ x ∈ l, okE x) : (varsL l).all okName = true := by
  refine List.all_eq_true.2 fun s hs => ?_
  obtain ⟨x, hx, rfl⟩ := List.mem_map.1 hs
  obtain ⟨hm, h2⟩ := List.mem_filter.1 hx
  have h2' : x.f0 = 2 := by simpa using h2
  have h := hf x hm
  have hn : nameB x.f2 = true := by
    unfold formN formB at h
    revert h
    cases nameB x.f2 <;> simp [h2']
  rw [okName, hn, Bool.true_and, decide_eq_true_eq]
  exact (hk x hm).2.2.1
theorem form_all : ∀ (r : List S45) (st : List Int) (i : Nat), checkFrom st i r = 0 → ∀ x ∈ r, formN x = true
  | [], _, _, _, x, hx => by cases hx
  | y :: r, st, i, h, x, hx => by
    rw [checkFrom] at h
    split at h
    · rename_i hf
      rcases List.mem_cons.1 hx with rfl | hx
      · rw [fitsN, Bool.and_eq_true, Bool.and_eq_true] at hf
        exact hf.1.1
      · exact form_all r _ _ h x hx
    · cases h
theorem vars_ev (l : List S45) (hk : ∀ x ∈ l, okE x) : Ev (fun k => expr_Vars.f k l) (if checkE l = 0 then (namesL l, 0) else ([], 1)) := by
  unfold expr_Vars.f
  refine Ev.bind (check_ev l hk) ?_
  by_cases hc : checkE l = 0
  · rw [if_pos hc]
    refine Ev.congr (fun k => if_pos hc) ?_
    have hl : l.length ≤ 64 ∧ checkFrom [] 0 l = 0 := by
      unfold checkE at hc
      split at hc
      · cases hc
      · rename_i h; exact ⟨by omega, hc⟩
    have hok := vars_ok (form_all l [] 0 hl.2) hk
    have hvl := vars_len l
    have loop : ∀ (n i : Nat), l.length - i ≤ n → i ≤ l.length → Ev (fun k => expr_Vars.l0 k (varsL (l.take i)) l (l.length : Int) (i : Int)) (namesL l, 0) := by
      have fin : ∀ i : Nat, i ≤ l.length → l.length ≤ i → Ev (fun k => expr_Vars.l0 k (varsL (l.take i)) l (l.length : Int) (i : Int)) (namesL l, 0) := by
        intro i h1 h2
        refine Ev.last fun k => ?_
        rw [expr_Vars.l0, if_neg (by omega), List.take_of_length_le (by omega), vars_tail.f, if_pos ⟨hok, by omega⟩]
        rfl
      intro n
      induction n with
      | zero => intro i h1 h2; exact fin i h2 (by omega)
      | succ n ih =>
        intro i h1 h2
        by_cases hi : i < l.length
        · have ea : rd_T45 l (i : Int) = l[i] := getD_lt l i _ hi
          have go := ih (i + 1) (by omega) (by omega)
          have hti := vars_len (l.take i)
          rw [List.length_take] at hti
          by_cases h3 : (l[i]).f0 = 2
          · have e : varsL (l.take (i + 1)) = varsL (l.take i) ++ [(l[i]).f2] := by
              rw [List.take_succ_eq_append_getElem hi, varsL, List.filter_append, List.map_append]
              congr 1
              simp [h3]
            rw [e] at go
            refine Ev.step (fun k => ?_) go
            rw [expr_Vars.l0, if_pos (by omega), if_pos (by omega), if_pos (by omega), ea, if_pos h3, if_pos (by omega), w64 _ (by omega)]
            rfl
          · have e : varsL (l.take (i + 1)) = varsL (l.take i) := by
              rw [List.take_succ_eq_append_getElem hi, varsL, List.filter_append, List.map_append]
              have : List.filter (fun x => x.f0 == 2) [l[i]] = [] := by simp [h3]
              rw [this, List.map_nil, List.append_nil]
              rfl
            rw [e] at go
            refine Ev.step (fun k => ?_) go
            rw [expr_Vars.l0, if_pos (by omega), if_pos (by omega), if_pos (by omega), ea, if_neg h3, w64 _ (by omega)]
            rfl
        · exact fin i h2 (by omega)
    exact loop _ 0 (Nat.le_refl _) (by omega)
  · rw [if_neg hc]
    exact Ev.congr (fun k => if_neg hc) (Ev.now _)
end Go.Proofs.YtacjjfoelhckcaaDoor.PEvalNames

namespace Go.Proofs.YtacjjfoelhckcaaDoor.evalNames
set_option linter.unusedVariables false
open Go.RowKit Go.Proofs.YtacjjfoelhckcaaDoorW.PrintWords Go.Proofs.YtacjjfoelhckcaaDoorW.PrintMore PEvalNames

theorem copied_ev (env : List S70) (he : env.length ≤ 5864062014634) : Ev (fun _ => sorrellaw08_copied.f env) env := by
  refine Ev.pure fun k => ?_
  unfold sorrellaw08_copied.f
  rw [Option.bind_some, if_pos (by simp; omega)]
  rfl
theorem awake_ev : Ev (fun k => sorrellaw08_awake.f k) true := by
  unfold sorrellaw08_awake.f
  have hk : ∀ x ∈ [(⟨1, 7, ⟨#[]⟩, []⟩ : S45)], okN (x.f0, x.f1, x.f2, x.f3) := by
    intro x hx
    obtain rfl := List.mem_singleton.1 hx
    exact ⟨(by decide : (Lit.int .i64 1).wf = true), (by decide : (Lit.int .i64 7).wf = true), (by decide : (⟨#[]⟩ : ByteArray).size ≤ 140737488351232), (by decide : ([] : List Int).length * 8 ≤ 140737488351232), by simp⟩
  refine Ev.bind (eval_ev [] _ (by simp) hk) ?_
  have hf : formB 1 7 ⟨#[]⟩ 0 = true := by decide +kernel
  have hc : checkE [(⟨1, 7, ⟨#[]⟩, []⟩ : S45)] = 0 := by
    have hfit : fitsN [] (⟨1, 7, ⟨#[]⟩, []⟩ : S45) = true := by simp [fitsN, formN, hf]
    rw [checkE, if_neg (by simp), checkFrom, if_pos hfit]
    rfl
  have e : evalS [] [(⟨1, 7, ⟨#[]⟩, []⟩ : S45)] = (7, 0) := by
    rw [evalS, if_pos hc]
    rfl
  rw [e]
  exact Ev.pure fun k => rfl
theorem byteArray_inj {a b : ByteArray} (h : a.toList = b.toList) : a = b := by
  rw [ByteArray.toList_eq, ByteArray.toList_eq] at h
  cases a; cases b
  congr 1
  exact Array.toList_inj.1 h
theorem vals_same (env own : List S70) : ∀ (r : List S45) (vals : List Int), (∀ x ∈ r, x.f0 = 2 → getL env x.f2 = getL own x.f2) → valsFrom env vals r = valsFrom own vals r
  | [], vals, h => rfl
  | x :: r, vals, h => by
    have e : nodeV env vals x = nodeV own vals x := by
      unfold nodeV
      by_cases h1 : x.f0 = 1
      · rw [if_pos h1, if_pos h1]
      · rw [if_neg h1, if_neg h1]
        by_cases h2 : x.f0 = 2
        · rw [if_pos h2, if_pos h2, h x (List.mem_cons_self ..) h2]
        · rw [if_neg h2, if_neg h2]
    rw [valsFrom, valsFrom, e]
    split
    · exact vals_same env own r _ fun y hy => h y (List.mem_cons_of_mem _ hy)
    · rfl
theorem eval_same (env own : List S70) (l : List S45) (h : ∀ x ∈ l, x.f0 = 2 → getL env x.f2 = getL own x.f2) : evalS env l = evalS own l := by
  have : valsOf env l = valsOf own l := vals_same env own l [] h
  unfold evalS
  rw [this]
/-- A name's own number, beside another name. -/
def two (env : List S70) (more : ByteArray) (n : Int) (nm : ByteArray) : List S70 := [⟨more, n⟩, ⟨nm, getL env nm⟩]
open Classical in
theorem get_own (env : List S70) (more : ByteArray) (n : Int) (s : ByteArray) (hs : more ≠ s) : ∀ (ns : List ByteArray) (a : Int), (ns.flatMap (two env more n)).foldl (getF s) a = if s ∈ ns then getL env s else a
  | [], a => by simp
  | m :: ns, a => by
    have e1 : getF s a ⟨more, n⟩ = a := if_neg fun h => hs (byteArray_inj h)
    rw [List.flatMap_cons, List.foldl_append, two, List.foldl_cons, List.foldl_cons, List.foldl_nil, e1]
    have ih := get_own env more n s hs ns
    by_cases hm : m = s
    · subst hm
      have e2 : getF m a ⟨m, getL env m⟩ = getL env m := if_pos rfl
      rw [e2, ih]
      simp
    · have e2 : getF s a ⟨m, getL env m⟩ = a := if_neg fun h => hm (byteArray_inj h)
      rw [e2, ih]
      have : (s ∈ m :: ns) ↔ (s ∈ ns) := by
        rw [List.mem_cons]
        exact ⟨fun h => h.resolve_left fun h => hm h.symm, Or.inr⟩
      simp only [this]
theorem last_ev (more : ByteArray) (ns : List ByteArray) (hn : ns.length ≤ 64) (v f w g : Int) (h : more ∉ ns → v = w ∧ f = g) : Ev (fun k => sorrellaw08_EvalNames.l1 k more ns v f w g 0) true := by
  have loop : ∀ (n i : Nat), ns.length - i ≤ n → i ≤ ns.length → (∀ x ∈ ns.take i, x ≠ more) → Ev (fun k => sorrellaw08_EvalNames.l1 k more ns v f w g (i : Int)) true := by
    have fin : ∀ i : Nat, ns.length ≤ i → (∀ x ∈ ns.take i, x ≠ more) → Ev (fun k => sorrellaw08_EvalNames.l1 k more ns v f w g (i : Int)) true := by
      intro i h2 h3
      rw [List.take_of_length_le h2] at h3
      obtain ⟨e1, e2⟩ := h fun hm => h3 more hm rfl
      refine Ev.last fun k => ?_
      rw [sorrellaw08_EvalNames.l1, if_neg (by omega), if_pos e1, e2, beq_self_eq_true]
    intro n
    induction n with
    | zero => intro i h1 h2 h3; exact fin i (by omega) h3
    | succ n ih =>
      intro i h1 h2 h3
      by_cases hi : i < ns.length
      · have ea : rdOf ByteArray.empty ns (i : Int) = ns[i] := getD_lt ns i _ hi
        by_cases he : ns[i] = more
        · refine Ev.last fun k => ?_
          rw [sorrellaw08_EvalNames.l1, if_pos (by omega), if_pos (by omega), ea, if_pos (by rw [he])]
        · refine Ev.step (fun k => ?_) (ih (i + 1) (by omega) (by omega) fun x hx => ?_)
          · rw [sorrellaw08_EvalNames.l1, if_pos (by omega), if_pos (by omega), ea, if_neg fun h => he (byteArray_inj h), w64 _ (by omega)]
            rfl
          · rw [List.take_succ_eq_append_getElem hi] at hx
            rcases List.mem_append.1 hx with hx | hx
            · exact h3 x hx
            · rw [List.mem_singleton.1 hx]; exact he
      · exact fin i (by omega) h3
  exact loop _ 0 (Nat.le_refl _) (by omega) (by simp)
theorem law_ev (l : List S45) (env : List S70) (more : ByteArray) (n : Int) (hlen : l.length ≤ 2513169434843) (he : env.length ≤ 5864062014634) (hk : ∀ x ∈ l, okE x) : Ev (fun k => sorrellaw08_EvalNames.f k l env more n) true := by
  unfold sorrellaw08_EvalNames.f
  have hcp := copy_ev l hlen hk
  refine Ev.bind awake_ev (Ev.congr (fun k => if_pos rfl) (Ev.bind hcp (Ev.bind (vars_ev l hk) ?_)))
  by_cases hc : checkE l = 0
  · rw [if_pos hc]
    refine Ev.congr (fun k => if_pos rfl) (Ev.bind hcp (Ev.bind (copied_ev env he) (Ev.bind (eval_ev env l he hk) ?_)))
    have hl64 : l.length ≤ 64 := (checkE_from hc).2.1
    have hnl := names_len l
    generalize hns : namesL l = ns at hnl
    have hmem : ∀ x ∈ l, x.f0 = 2 → x.f2 ∈ ns := fun x hx h2 => by rw [← hns]; exact names_mem hx h2
    have loop : ∀ j : Nat, j ≤ ns.length → Ev (fun k => sorrellaw08_EvalNames.l0 k l env more n ns (evalS env l).1 (evalS env l).2 ((ns.drop j).reverse.flatMap (two env more n)) ((j : Int) - 1)) true := by
      intro j
      induction j with
      | zero =>
        intro _
        rw [List.drop_zero]
        have hol : (ns.reverse.flatMap (two env more n)).length ≤ 128 := by
          have : ∀ ms : List ByteArray, (ms.flatMap (two env more n)).length = 2 * ms.length := by
            intro ms
            induction ms with
            | nil => rfl
            | cons m ms ih => rw [List.flatMap_cons, List.length_append, ih, List.length_cons, two]; simp; omega
          rw [this, List.length_reverse]; omega
        generalize hown : ns.reverse.flatMap (two env more n) = own at hol
        have hst : Ev (fun k => sorrellaw08_EvalNames.l0 (k + 1) l env more n ns (evalS env l).1 (evalS env l).2 own ((0 : Nat) - 1 : Int)) true := by
          simp only [sorrellaw08_EvalNames.l0]
          refine Ev.congr (fun k => if_neg (by omega)) (Ev.bind hcp (Ev.bind (eval_ev own l (by omega) hk) ?_))
          refine last_ev more ns (by omega) _ _ _ _ fun hm => ?_
          have es : evalS env l = evalS own l := by
            refine eval_same env own l fun x hx h2 => ?_
            have hx2 := hmem x hx h2
            have hne : more ≠ x.f2 := fun e => hm (by rw [e]; exact hx2)
            have := get_own env more n x.f2 hne ns.reverse 0
            rw [hown, if_pos (List.mem_reverse.2 hx2)] at this
            exact this.symm
          rw [es]
          exact ⟨rfl, rfl⟩
        exact Ev.step (fun _ => rfl) hst
      | succ j ih =>
        intro hj
        have hj' : j < ns.length := by omega
        have go := ih (by omega)
        have e1 : ((j + 1 : Nat) : Int) - 1 = (j : Int) := by omega
        rw [e1]
        have ea : rdOf ByteArray.empty ns (j : Int) = ns[j] := getD_lt ns j _ hj'
        have hst : Ev (fun k => sorrellaw08_EvalNames.l0 (k + 1) l env more n ns (evalS env l).1 (evalS env l).2 ((ns.drop (j + 1)).reverse.flatMap (two env more n)) (j : Int)) true := by
          simp only [sorrellaw08_EvalNames.l0]
          rw [ea]
          refine Ev.congr (fun k => if_pos (by omega)) (Ev.congr (fun k => if_pos (by omega)) (Ev.congr (fun k => if_pos (by omega)) (Ev.bind (copied_ev env he) (Ev.bind (get_ev env ns[j] he) (Ev.bind (Ev.now _) ?_)))))
          have hol : ((ns.drop (j + 1)).reverse.flatMap (two env more n)).length ≤ 128 := by
            have : ∀ ms : List ByteArray, (ms.flatMap (two env more n)).length = 2 * ms.length := by
              intro ms
              induction ms with
              | nil => rfl
              | cons m ms ih => rw [List.flatMap_cons, List.length_append, ih, List.length_cons, two]; simp; omega
            rw [this, List.length_reverse, List.length_drop]; omega
          refine Ev.congr (fun k => if_pos (show _ + 2 < 5864062014805 by omega)) ?_
          have e2 : (ns.drop j).reverse.flatMap (two env more n) = (ns.drop (j + 1)).reverse.flatMap (two env more n) ++ [⟨more, n⟩, ⟨ns[j], getL env ns[j]⟩] := by
            rw [List.drop_eq_getElem_cons hj', List.reverse_cons, List.flatMap_append]
            simp [two]
          rw [e2] at go
          rw [w64 _ (by omega)]
          exact go
        exact Ev.step (fun _ => rfl) hst
    have := loop ns.length (Nat.le_refl _)
    rw [List.drop_length, List.reverse_nil, List.flatMap_nil] at this
    show Ev (fun k => sorrellaw08_EvalNames.l0 k l env more n ns (evalS env l).1 (evalS env l).2 [] (wrap64 ((ns.length : Int) - 1))) true
    rw [w64 _ (by omega)]
    exact this
  · rw [if_neg hc]
    refine Ev.congr (fun k => if_neg (by decide)) (Ev.bind hcp (Ev.bind (check_ev l hk) ?_))
    refine Ev.pure fun k => ?_
    have : (checkE l != 0) = true := by simpa using hc
    rw [this]
theorem pure (l : List S45) (h : okR 56 (fun x : S45 => okN (x.f0, x.f1, x.f2, x.f3)) l) (env : List S70) (h2 : okR 24 (fun x : S70 => okS x.f0 ∧ okI x.f1) env) (more : ByteArray) (h3 : okS more) (n : Int) (h4 : okI n) : ∃ k, sorrellaw08_EvalNames.f k l env more n = some true :=
  (law_ev l env more n (by have := h.1; omega) (by have := h2.1; omega) h.2).rounds
end Go.Proofs.YtacjjfoelhckcaaDoor.evalNames
