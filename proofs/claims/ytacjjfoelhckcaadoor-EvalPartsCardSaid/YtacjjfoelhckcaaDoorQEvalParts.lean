/- The plain law of EvalParts. -/
import Derived.Test.YtacjjfoelhckcaaDoorPEvalPartsx
import Derived.Test.YtacjjfoelhckcaaDoorM2
import Derived.Test.YtacjjfoelhckcaaDoorO2
import Derived.Test.YtacjjfoelhckcaaDoorM3
/- Plain laws, part 1: operators, sound nodes, rows of numbers, the check of a text of nodes (by the open ones; by walking). -/
namespace Go.Proofs.YtacjjfoelhckcaaDoor.PEvalParts
open Go.RowKit Go.Proofs.YtacjjfoelhckcaaDoorW.PrintWords
set_option linter.unusedVariables false

theorem arity_ev (a : Int) : Ev (fun k => expr_Arity.f k a) (arE a) := by
  refine Ev.step (f := fun k => expr_Arity.f (k + 1) a) (fun _ => rfl) (Ev.last fun k => ?_)
  simp only [expr_Arity.f, expr_Arity.j0, expr_Arity.j1, arE, arityZ]
  repeat' split
  all_goals simp_all
  all_goals omega
theorem sound_ev (op n : Int) (name : ByteArray) (kids : List Int) : Ev (fun k => expr_sound.f k op n name kids) (formB op n name kids.length) := by
  unfold expr_sound.f
  refine Ev.bind (arity_ev op) ?_
  refine Ev.last fun k => ?_
  have := arityZ_bounds op
  simp only [arE, formB, expr_sound.j0, runes_Name.f]
  repeat' split
  all_goals simp_all
  all_goals omega
theorem equal_loop (a b : List Int) (hl : a.length = b.length) (hb : a.length ≤ 9223372036854775806) : ∀ (n i : Nat), a.length - i ≤ n → i ≤ a.length →
    Ev (fun k => slices_Equal_int_int.l0 k a b (a.length : Int) (i : Int)) (decide (a.drop i = b.drop i)) := by
  intro n
  induction n with
  | zero =>
    intro i h1 h2
    refine Ev.last fun k => ?_
    rw [slices_Equal_int_int.l0, if_neg (by omega), List.drop_eq_nil_of_le (by omega), List.drop_eq_nil_of_le (by omega)]
    rfl
  | succ n ih =>
    intro i h1 h2
    by_cases hi : i < a.length
    · rw [List.drop_eq_getElem_cons hi, List.drop_eq_getElem_cons (by omega : i < b.length)]
      have ea : rd a (i : Int) = a[i] := getD_lt a i 0 hi
      have eb : rd b (i : Int) = b[i] := getD_lt b i 0 (by omega)
      by_cases he : a[i] = b[i]
      · refine Ev.step (f := fun k => slices_Equal_int_int.l0 k a b (a.length : Int) ((i + 1 : Nat) : Int)) (fun k => ?_) ?_
        · rw [slices_Equal_int_int.l0, if_pos (by omega), if_pos (by omega), if_pos (by omega), if_pos (by omega), ea, eb, if_pos he, w64 _ (by omega)]; rfl
        · have := ih (i + 1) (by omega) (by omega)
          simpa only [List.cons.injEq, he, true_and] using this
      · refine Ev.last fun k => ?_
        rw [slices_Equal_int_int.l0, if_pos (by omega), if_pos (by omega), if_pos (by omega), if_pos (by omega), ea, eb, if_neg he]
        simp only [List.cons.injEq, he, false_and, decide_false]
    · refine Ev.last fun k => ?_
      rw [slices_Equal_int_int.l0, if_neg (by omega), List.drop_eq_nil_of_le (by omega), List.drop_eq_nil_of_le (by omega)]
      rfl
theorem equal_ev (a b : List Int) (hb : a.length ≤ 9223372036854775806) : Ev (fun k => slices_Equal_int_int.f k a b) (decide (a = b)) := by
  unfold slices_Equal_int_int.f
  by_cases hl : a.length = b.length
  · refine Ev.congr (fun k => if_pos (by omega)) ?_
    have := equal_loop a b hl hb _ 0 (Nat.le_refl _) (by omega)
    simpa using this
  · refine Ev.congr (fun k => if_neg (by omega)) ?_
    have : a ≠ b := fun h => hl (by rw [h])
    simp only [this, decide_false]
    exact Ev.now _

/-! ### the check by the open ones -/
def formN (x : S45) : Bool := formB x.f0 x.f1 x.f2 x.f3.length
def fitsN (st : List Int) (x : S45) : Bool := formN x && decide (x.f3.length ≤ st.length) && decide (st.drop (st.length - x.f3.length) = x.f3)
def checkFrom (st : List Int) (i : Nat) : List S45 → Int
  | [] => if st.length = 1 then 0 else 1
  | x :: r => if fitsN st x = true then checkFrom (st.take (st.length - x.f3.length) ++ [(i : Int)]) (i + 1) r else 1
def checkE (l : List S45) : Int := if l.length < 1 ∨ 64 < l.length then 1 else checkFrom [] 0 l
theorem check_loop (l : List S45) (hl : l.length ≤ 64) (hk : ∀ x ∈ l, okN (x.f0, x.f1, x.f2, x.f3)) : ∀ (n i : Nat) (st : List Int), l.length - i ≤ n → i ≤ l.length → st.length ≤ i →
    Ev (fun k => expr_Check.l0 k st l (l.length : Int) (i : Int)) (checkFrom st i (l.drop i)) := by
  intro n
  induction n with
  | zero =>
    intro i st h1 h2 h3
    refine Ev.last fun k => ?_
    rw [expr_Check.l0, if_neg (by omega), List.drop_eq_nil_of_le (by omega), checkFrom]
    split <;> split <;> first | rfl | omega
  | succ n ih =>
    intro i st h1 h2 h3
    by_cases hi : i < l.length
    · rw [List.drop_eq_getElem_cons hi, checkFrom]
      have ea : rd_T45 l (i : Int) = l[i] := getD_lt l i _ hi
      have hx := hk _ (List.getElem_mem hi)
      have hkid : (l[i]).f3.length ≤ 17592186043904 := by have := hx.2.2.2.1; dsimp only at this; omega
      generalize hxx : l[i] = x at *
      refine Ev.step (f := fun k => (expr_sound.f k x.f0 x.f1 x.f2 x.f3).bind fun t109 => (if t109 = true then (expr_Check.j2 k st i l (l.length : Int) i (decide ((x.f3.length : Int) > (st.length : Int))) x.f0 x.f1 x.f2 x.f3) else (expr_Check.j2 k st i l (l.length : Int) i true x.f0 x.f1 x.f2 x.f3))) (fun k => ?_) ?_
      · rw [expr_Check.l0, if_pos (by omega), if_pos (by omega), if_pos (by omega), ea]
      refine Ev.bind (sound_ev x.f0 x.f1 x.f2 x.f3) ?_
      by_cases hf : formB x.f0 x.f1 x.f2 x.f3.length = true
      · refine Ev.congr (fun k => if_pos hf) ?_
        by_cases hc : x.f3.length ≤ st.length
        · have e1 : wrap64 ((st.length : Int) - (x.f3.length : Int)) = ((st.length - x.f3.length : Nat) : Int) := by rw [w64 _ (by omega)]; omega
          have e2 : (decide ((x.f3.length : Int) > (st.length : Int))) = false := by simp; omega
          by_cases hd : st.drop (st.length - x.f3.length) = x.f3
          · have e3 : fitsN st x = true := by simp [fitsN, formN, hf, hc, hd]
            rw [if_pos e3]
            refine Ev.step (f := fun k => (slices_Equal_int_int.f k (st.drop (st.length - x.f3.length)) x.f3).bind fun t114 => (if t114 = true then ((some (st.take (st.length - x.f3.length) : List Int)).bind fun y115 => (if y115.length < 17592186044416 then (expr_Check.l0 k (y115 ++ [(i : Int)]) l (l.length : Int) (wrap64 ((i : Int) + 1))) else (none))) else (some 1))) (fun k => ?_) ?_
            · rw [expr_Check.j2, e2, if_neg (by simp), e1, if_pos (by omega), if_pos (by omega)]
              rfl
            refine Ev.bind (equal_ev _ _ (by rw [List.length_drop]; omega)) ?_
            have e4 : decide (st.drop (st.length - x.f3.length) = x.f3) = true := by simpa using hd
            refine Ev.congr (fun k => if_pos e4) ?_
            refine Ev.congr (f := fun k => expr_Check.l0 k (st.take (st.length - x.f3.length) ++ [(i : Int)]) l (l.length : Int) ((i + 1 : Nat) : Int)) (fun k => ?_) ?_
            · rw [Option.bind_some, if_pos (by rw [List.length_take]; omega), w64 _ (by omega)]; rfl
            · exact ih (i + 1) _ (by omega) (by omega) (by rw [List.length_append, List.length_take]; simp; omega)
          · have e3 : ¬ fitsN st x = true := by simp [fitsN, hd]
            rw [if_neg e3]
            refine Ev.step (f := fun k => (slices_Equal_int_int.f k (st.drop (st.length - x.f3.length)) x.f3).bind fun t114 => (if t114 = true then ((some (st.take (st.length - x.f3.length) : List Int)).bind fun y115 => (if y115.length < 17592186044416 then (expr_Check.l0 k (y115 ++ [(i : Int)]) l (l.length : Int) (wrap64 ((i : Int) + 1))) else (none))) else (some 1))) (fun k => ?_) ?_
            · rw [expr_Check.j2, e2, if_neg (by simp), e1, if_pos (by omega), if_pos (by omega)]
              rfl
            refine Ev.bind (equal_ev _ _ (by rw [List.length_drop]; omega)) ?_
            have e4 : ¬ decide (st.drop (st.length - x.f3.length) = x.f3) = true := by simpa using hd
            exact Ev.congr (fun k => if_neg e4) (Ev.now _)
        · have e3 : ¬ fitsN st x = true := by simp [fitsN, hc]
          rw [if_neg e3]
          refine Ev.last fun k => ?_
          rw [expr_Check.j2, if_pos (by simp; omega)]
      · have e3 : ¬ fitsN st x = true := by simp [fitsN, formN, hf]
        rw [if_neg e3]
        refine Ev.congr (fun k => if_neg hf) ?_
        refine Ev.last fun k => ?_
        rw [expr_Check.j2, if_pos rfl]
    · refine Ev.last fun k => ?_
      rw [expr_Check.l0, if_neg (by omega), List.drop_eq_nil_of_le (by omega), checkFrom]
      split <;> split <;> first | rfl | omega
theorem check_ev (l : List S45) (hk : ∀ x ∈ l, okN (x.f0, x.f1, x.f2, x.f3)) : Ev (fun k => expr_Check.f k l) (checkE l) := by
  unfold expr_Check.f checkE
  by_cases h1 : l.length < 1
  · rw [if_pos (Or.inl h1)]
    refine Ev.congr (fun k => if_pos (by omega)) (Ev.last fun k => ?_)
    rw [expr_Check.j0, if_pos rfl]
  · refine Ev.congr (fun k => if_neg (by omega)) ?_
    by_cases h2 : 64 < l.length
    · rw [if_pos (Or.inr h2)]
      refine Ev.last fun k => ?_
      rw [expr_Check.j0, if_pos (by simp; omega)]
    · rw [if_neg (by omega)]
      refine Ev.step (f := fun k => expr_Check.l0 k [] l (l.length : Int) ((0 : Nat) : Int)) (fun k => ?_) ?_
      · rw [expr_Check.j0, if_neg (by simp; omega)]; rfl
      · exact check_loop l (by omega) hk _ 0 [] (Nat.le_refl _) (by omega) (by simp)
end Go.Proofs.YtacjjfoelhckcaaDoor.PEvalParts

/- Plain laws, part 2: the check of a text of nodes by walking; it answers as the check by the open ones. -/
namespace Go.Proofs.YtacjjfoelhckcaaDoor.PEvalParts
open Go.RowKit Go.Proofs.YtacjjfoelhckcaaDoorW.PrintWords
set_option linter.unusedVariables false

theorem check_bad : ∀ (r : List S45) (st : List Int) (i : Nat), (∃ x ∈ r, ¬ formN x = true) → checkFrom st i r = 1 := by
  intro r
  induction r with
  | nil => rintro st i ⟨x, hx, _⟩; cases hx
  | cons x r ih =>
    rintro st i ⟨y, hy, hn⟩
    rw [checkFrom]
    split
    · rename_i hfit
      refine ih _ _ ⟨y, ?_, hn⟩
      rcases List.mem_cons.1 hy with rfl | hy
      · exact absurd (by simp [fitsN] at hfit; exact hfit.1.1) hn
      · exact hy
    · rfl
end Go.Proofs.YtacjjfoelhckcaaDoor.PEvalParts

/- Plain laws, part 3: copies. -/
namespace Go.Proofs.YtacjjfoelhckcaaDoor.PEvalParts
open Go.RowKit Go.Proofs.YtacjjfoelhckcaaDoorW.PrintWords
set_option linter.unusedVariables false

abbrev okE (x : S45) : Prop := okN (x.f0, x.f1, x.f2, x.f3)
theorem okE.kids {x : S45} (h : okE x) : x.f3.length ≤ 17592186043904 := by
  have := h.2.2.2.1
  dsimp only at this
  omega
/-! ### copies -/
theorem copy_ev (l : List S45) (hb : l.length ≤ 2513169434843) (hk : ∀ x ∈ l, okE x) : Ev (fun k => sorrelref02_Copy.f k l) l := by
  have loop : ∀ (n i : Nat), l.length - i ≤ n → i ≤ l.length → Ev (fun k => sorrelref02_Copy.l0 k l (l.take i) (i : Int)) l := by
    have fin : ∀ i : Nat, i ≤ l.length → l.length ≤ i → Ev (fun k => sorrelref02_Copy.l0 k l (l.take i) (i : Int)) l := by
      intro i h1 h2
      refine Ev.last fun k => ?_
      rw [sorrelref02_Copy.l0, if_neg (by omega), List.take_of_length_le (by omega)]
    intro n
    induction n with
    | zero => intro i h1 h2; exact fin i h2 (by omega)
    | succ n ih =>
      intro i h1 h2
      by_cases hi : i < l.length
      · have ea : rd_T45 l (i : Int) = l[i] := getD_lt l i _ hi
        have hx := (hk _ (List.getElem_mem hi)).kids
        refine Ev.step (f := fun k => sorrelref02_Copy.l0 k l (l.take (i + 1)) ((i + 1 : Nat) : Int)) (fun k => ?_) (ih (i + 1) (by omega) (by omega))
        rw [sorrelref02_Copy.l0, if_pos (by omega), if_pos (by omega), Option.bind_some, ea, if_pos (by simp; omega), if_pos (by rw [List.length_take]; omega), w64 _ (by omega), List.take_succ_eq_append_getElem hi]; rfl
      · exact fin i h2 (by omega)
  unfold sorrelref02_Copy.f
  have := loop _ 0 (Nat.le_refl _) (by omega)
  rw [List.take_zero] at this
  exact this
end Go.Proofs.YtacjjfoelhckcaaDoor.PEvalParts

/- Plain laws: texts behind one another, at any offset; copies of rows of numbers. -/
namespace Go.Proofs.YtacjjfoelhckcaaDoor.PEvalParts
open Go.RowKit Go.Proofs.YtacjjfoelhckcaaDoorW.PrintWords
set_option linter.unusedVariables false

/-! ### texts behind one another -/
def shiftZ (b : Int) (x : S45) : S45 := ⟨x.f0, x.f1, x.f2, x.f3.map fun k => wrap64 (k + b)⟩
theorem set_step (kids : List Int) (g : Int → Int) (i : Nat) (hi : i < kids.length) : ((kids.take i).map g ++ List.replicate (kids.length - i) 0).set i (g kids[i]) = (kids.take (i + 1)).map g ++ List.replicate (kids.length - (i + 1)) 0 := by
  have e : kids.length - i = (kids.length - (i + 1)) + 1 := by omega
  rw [List.set_append_right _ _ (by simp; omega), e, List.replicate_succ]
  have e2 : i - ((kids.take i).map g).length = 0 := by simp; omega
  rw [e2, List.set_cons_zero, List.take_succ_eq_append_getElem hi, List.map_append, List.append_assoc]
  rfl
theorem joinZ_ev (x0 l : List S45) (b : Int) (h0 : x0.length + l.length ≤ 2513169434843) (hk : ∀ x ∈ l, okE x) : Ev (fun k => expr_join.f k x0 l b) (x0 ++ l.map (shiftZ b)) := by
  have inner : ∀ (xs : List S45) (j : Nat) (x : S45) (hx : x.f3.length ≤ 17592186043904) (v : List S45) (hxs : xs.length < 2513169434916),
      Ev (fun k => expr_join.l0 k (xs ++ [shiftZ b x]) b l (l.length : Int) (wrap64 ((j : Int) + 1))) v → ∀ (n i : Nat), x.f3.length - i ≤ n → i ≤ x.f3.length →
      Ev (fun k => expr_join.l1 k xs b ((x.f3.take i).map (fun k => wrap64 (k + b)) ++ List.replicate (x.f3.length - i) 0) l (l.length : Int) j x.f3 (x.f3.length : Int) (i : Int) x.f0 x.f1 x.f2 x.f3) v := by
    intro xs j x hx v hxs hv
    have fin : ∀ i : Nat, i ≤ x.f3.length → x.f3.length ≤ i → Ev (fun k => expr_join.l1 k xs b ((x.f3.take i).map (fun k => wrap64 (k + b)) ++ List.replicate (x.f3.length - i) 0) l (l.length : Int) j x.f3 (x.f3.length : Int) (i : Int) x.f0 x.f1 x.f2 x.f3) v := by
      intro i h1 h2
      refine Ev.step (fun k => ?_) hv
      rw [expr_join.l1, if_neg (by omega), if_pos hxs, List.take_of_length_le (by omega), show x.f3.length - i = 0 by omega]
      simp [shiftZ]
    intro n
    induction n with
    | zero => intro i h1 h2; exact fin i h2 (by omega)
    | succ n ih =>
      intro i h1 h2
      by_cases hi : i < x.f3.length
      · have ea : rd x.f3 (i : Int) = x.f3[i] := getD_lt x.f3 i 0 hi
        refine Ev.step (fun k => ?_) (ih (i + 1) (by omega) (by omega))
        rw [expr_join.l1, if_pos (by omega), if_pos (by omega), if_pos (by omega), if_pos (by simp; omega), ea, w64 ((i : Int) + 1) (by omega), Int.toNat_natCast, set_step x.f3 (fun k => wrap64 (k + b)) i hi]; rfl
      · exact fin i h2 (by omega)
  have loop : ∀ (n i : Nat), l.length - i ≤ n → i ≤ l.length → Ev (fun k => expr_join.l0 k (x0 ++ (l.take i).map (shiftZ b)) b l (l.length : Int) (i : Int)) (x0 ++ l.map (shiftZ b)) := by
    have fin : ∀ i : Nat, i ≤ l.length → l.length ≤ i → Ev (fun k => expr_join.l0 k (x0 ++ (l.take i).map (shiftZ b)) b l (l.length : Int) (i : Int)) (x0 ++ l.map (shiftZ b)) := by
      intro i h1 h2
      refine Ev.last fun k => ?_
      rw [expr_join.l0, if_neg (by omega), List.take_of_length_le (by omega)]
    intro n
    induction n with
    | zero => intro i h1 h2; exact fin i h2 (by omega)
    | succ n ih =>
      intro i h1 h2
      by_cases hi : i < l.length
      · have ea : rd_T45 l (i : Int) = l[i] := getD_lt l i _ hi
        have hx := (hk _ (List.getElem_mem hi)).kids
        have go := ih (i + 1) (by omega) (by omega)
        rw [List.take_succ_eq_append_getElem hi, List.map_append, ← List.append_assoc] at go
        have := inner (x0 ++ (l.take i).map (shiftZ b)) i l[i] hx (x0 ++ l.map (shiftZ b)) (by simp; omega) (by rw [w64 _ (by omega)]; exact go) (l[i]).f3.length 0 (by omega) (by omega)
        refine Ev.step (fun k => ?_) this
        rw [expr_join.l0, if_pos (by omega), if_pos (by omega), if_pos (by omega), if_pos (by omega), ea, if_pos (by omega)]
        simp
      · exact fin i h2 (by omega)
  unfold expr_join.f
  have := loop _ 0 (Nat.le_refl _) (by omega)
  rw [List.take_zero, List.map_nil, List.append_nil] at this
  exact this
end Go.Proofs.YtacjjfoelhckcaaDoor.PEvalParts

/- Plain laws, part 5: the operators on values: arith's Apply answers as the reference's. -/
namespace Go.Proofs.YtacjjfoelhckcaaDoor.PEvalParts
open Go.RowKit Go.Proofs.YtacjjfoelhckcaaDoorW.PrintWords Go.Proofs.YtacjjfoelhckcaaDoorW.PrintMore
set_option linter.unusedVariables false

def twoZ (op a b : Int) : Int :=
  if op = 5 then wrap64 (a + b) else if op = 6 then wrap64 (a - b) else if op = 7 then wrap64 (a * b) else if op = 8 then wrap64 (Int.tdiv a b) else if op = 9 then Int.tmod a b
  else if op = 10 then bits .and .i64 a b else if op = 11 then bits .or .i64 a b else if op = 12 then bits .xor .i64 a b else if op = 13 then wrap64 (a * 2 ^ (b % 64).toNat) else if op = 14 then a / 2 ^ (b % 64).toNat
  else if op = 15 then (if a = b then 1 else 0) else (if a < b then 1 else 0)
theorem two_eq (op a b : Int) (h : (op = 8 ∨ op = 9) → b ≠ 0) : arith_two.f op a b = some (twoZ op a b) := by
  have h64 : (b % 64).toNat ≤ 64 := by omega
  have hshl : shl .i64 a (b % 64) = wrap64 (a * 2 ^ (b % 64).toNat) := by
    unfold shl
    rw [i64_wrap]
    congr 3
    exact Nat.min_eq_left h64
  have hshr : shr .i64 a (b % 64) = a / 2 ^ (b % 64).toNat := by
    unfold shr
    congr 2
    exact Nat.min_eq_left h64
  unfold arith_two.f twoZ arith_bit.f
  rw [uand63, hshl, hshr]
  by_cases e5 : op = 5
  · rw [if_pos e5, if_pos e5]
  rw [if_neg e5, if_neg e5]
  by_cases e6 : op = 6
  · rw [if_pos e6, if_pos e6]
  rw [if_neg e6, if_neg e6]
  by_cases e7 : op = 7
  · rw [if_pos e7, if_pos e7]
  rw [if_neg e7, if_neg e7]
  by_cases e8 : op = 8
  · rw [if_pos e8, if_pos e8, if_neg (h (.inl e8))]
  rw [if_neg e8, if_neg e8]
  by_cases e9 : op = 9
  · rw [if_pos e9, if_pos e9, if_neg (h (.inr e9))]
  rw [if_neg e9, if_neg e9]
  by_cases e10 : op = 10
  · rw [if_pos e10, if_pos e10]
  rw [if_neg e10, if_neg e10]
  by_cases e11 : op = 11
  · rw [if_pos e11, if_pos e11]
  rw [if_neg e11, if_neg e11]
  by_cases e12 : op = 12
  · rw [if_pos e12, if_pos e12]
  rw [if_neg e12, if_neg e12]
  by_cases e13 : op = 13
  · rw [if_pos e13, if_pos e13, if_pos (by omega)]
  rw [if_neg e13, if_neg e13]
  by_cases e14 : op = 14
  · rw [if_pos e14, if_pos e14, if_pos (by omega)]
  rw [if_neg e14, if_neg e14]
  by_cases e15 : op = 15
  · rw [if_pos e15, if_pos e15]
    by_cases c : a = b <;> simp [c]
  rw [if_neg e15, if_neg e15]
  by_cases c : a < b <;> simp [c]
theorem tmod_in (a b : Int) (ha : inI a) (hb : b ≠ 0) : inI (Int.tmod a b) := by
  unfold inI at *
  have e := Int.natAbs_tmod a b
  have h : a.natAbs % b.natAbs ≤ a.natAbs := Nat.mod_le _ _
  have h1 : 0 ≤ a → 0 ≤ Int.tmod a b := fun h => Int.tmod_nonneg b h
  have h3 : a ≤ 0 → Int.tmod a b ≤ 0 := fun h => tmod_le0 a b h
  generalize Int.tmod a b = d at *
  generalize a.natAbs % b.natAbs = m at *
  omega
theorem ediv_in (a : Int) (n : Nat) (ha : inI a) : inI (a / 2 ^ n) := by
  unfold inI at *
  have hp := pow_pos2 n
  generalize (2 : Int) ^ n = p at *
  have h1 : a / p ≤ 9223372036854775807 := by
    apply Int.ediv_le_of_le_mul hp
    have : (9223372036854775807 : Int) * 1 ≤ 9223372036854775807 * p := Int.mul_le_mul_of_nonneg_left (by omega) (by decide)
    omega
  have h2 : -9223372036854775808 ≤ a / p := by
    apply (Int.le_ediv_iff_mul_le hp).2
    have : (-9223372036854775808 : Int) * p ≤ -9223372036854775808 * 1 := Int.mul_le_mul_of_nonpos_left (by decide) (by omega)
    omega
  exact ⟨h2, h1⟩
theorem two_in (op a b : Int) (ha : inI a) (hb : inI b) (h : (op = 8 ∨ op = 9) → b ≠ 0) : inI (twoZ op a b) := by
  unfold twoZ
  by_cases e9 : op = 9
  · subst e9
    exact tmod_in a b ha (h (.inr rfl))
  by_cases e14 : op = 14
  · subst e14
    exact ediv_in a _ ha
  repeat' split
  all_goals first | exact w64_in _ | exact bits_in _ _ _ | (exact absurd ‹_› e9) | (exact absurd ‹_› e14) | (unfold inI; omega)

/-! ### the reference's -/
theorem abs_div (a b : Int) : Int.tdiv a b = if (decide (a < 0) != decide (b < 0)) = true then -((if a < 0 then -a else a) / (if b < 0 then -b else b)) else (if a < 0 then -a else a) / (if b < 0 then -b else b) := by
  by_cases ha : a < 0 <;> by_cases hb : b < 0 <;> simp only [ha, hb, decide_true, decide_false, if_true, if_false, bne_self_eq_false, Bool.false_eq_true, Bool.true_bne, Bool.not_false, Bool.false_bne]
  · rw [← Int.tdiv_eq_ediv_of_nonneg (by omega), Int.neg_tdiv, Int.tdiv_neg, Int.neg_neg]
  · rw [← Int.tdiv_eq_ediv_of_nonneg (by omega), Int.neg_tdiv, Int.neg_neg]
  · rw [← Int.tdiv_eq_ediv_of_nonneg (by omega), Int.tdiv_neg, Int.neg_neg]
  · rw [← Int.tdiv_eq_ediv_of_nonneg (by omega)]
theorem abs_mod (a b : Int) : Int.tmod a b = if a < 0 then -((if a < 0 then -a else a) % (if b < 0 then -b else b)) else (if a < 0 then -a else a) % (if b < 0 then -b else b) := by
  by_cases ha : a < 0 <;> by_cases hb : b < 0 <;> simp only [ha, hb, if_true, if_false]
  · rw [← Int.tmod_eq_emod_of_nonneg (by omega), Int.neg_tmod, Int.tmod_neg, Int.neg_neg]
  · rw [← Int.tmod_eq_emod_of_nonneg (by omega), Int.neg_tmod, Int.neg_neg]
  · rw [← Int.tmod_eq_emod_of_nonneg (by omega), Int.tmod_neg]
  · rw [← Int.tmod_eq_emod_of_nonneg (by omega)]
end Go.Proofs.YtacjjfoelhckcaaDoor.PEvalParts

/- Plain laws, part 6: Apply; names looked up; what walking covers; kids lie before their node. -/
namespace Go.Proofs.YtacjjfoelhckcaaDoor.PEvalParts
open Go.RowKit Go.Proofs.YtacjjfoelhckcaaDoorW.PrintWords Go.Proofs.YtacjjfoelhckcaaDoorW.PrintMore
set_option linter.unusedVariables false

def applyZ (op : Int) (xs : List Int) : Int × Int :=
  if arityZ op ≤ 0 ∨ arityZ op ≠ xs.length then (0, 2) else if op = 3 then (wrap64 (-(rd xs 0)), 0) else if op = 4 then (wrap64 (-1 - rd xs 0), 0)
  else if op = 17 then (if rd xs 0 ≠ 0 then (rd xs 1, 0) else (rd xs 2, 0)) else if (op = 8 ∨ op = 9) ∧ rd xs 1 = 0 then (0, 12) else (twoZ op (rd xs 0) (rd xs 1), 0)
theorem group_ev (op : Int) : Ev (fun k => arith_group.f k op) (if op = 8 ∨ op = 9 then 1 else if 13 ≤ op ∧ op ≤ 16 then 2 else 0) := by
  refine Ev.last fun k => ?_
  simp only [arith_group.f, arith_group.j0]
  repeat' split
  all_goals simp_all
  all_goals omega
theorem arity_two {op : Int} (h : 0 < arityZ op) (h3 : op ≠ 3) (h4 : op ≠ 4) (h17 : op ≠ 17) : arityZ op = 2 := by
  unfold arityZ at *
  repeat' split at h
  all_goals simp_all
theorem apply_ev (op : Int) (xs : List Int) : Ev (fun k => arith_Apply.f k op xs) (applyZ op xs) := by
  have hb := arityZ_bounds op
  unfold arith_Apply.f applyZ
  refine Ev.bind (arity_ev op) ?_
  by_cases h : arityZ op ≤ 0 ∨ arityZ op ≠ xs.length
  · rw [if_pos h]
    refine Ev.congr (f := fun k => arith_Apply.j0 k op xs true) (fun k => ?_) (Ev.last fun k => by rw [arith_Apply.j0, if_pos rfl])
    unfold arE
    by_cases h0 : arityZ op < 0
    · simp [h0]
    · by_cases h1 : arityZ op = 0
      · simp [h1]
      · have h2 : (arityZ op != (xs.length : Int)) = true := by rw [bne_iff_ne]; omega
        simp [h0, h1, h2]
  · rw [if_neg h]
    have h2 : (arityZ op != (xs.length : Int)) = false := by rw [bne_eq_false_iff_eq]; omega
    refine Ev.congr (f := fun k => arith_Apply.j0 k op xs false) (fun k => ?_) ?_
    · unfold arE
      have h0 : ¬ arityZ op < 0 := by omega
      have h1 : ¬ arityZ op = 0 := by omega
      simp [h0, h1, h2]
    by_cases e3 : op = 3
    · have hl : arityZ op = 1 := by rw [e3]; decide
      rw [if_pos e3]
      exact Ev.last fun k => by rw [arith_Apply.j0, if_neg (by simp), if_pos e3, if_pos (by omega)]
    rw [if_neg e3]
    by_cases e4 : op = 4
    · have hl : arityZ op = 1 := by rw [e4]; decide
      rw [if_pos e4]
      exact Ev.last fun k => by rw [arith_Apply.j0, if_neg (by simp), if_neg e3, if_pos e4, if_pos (by omega), xorAll]
    rw [if_neg e4]
    by_cases e17 : op = 17
    · have hl : arityZ op = 3 := by rw [e17]; decide
      rw [if_pos e17]
      refine Ev.step (f := fun k => arith_Apply.j1 k op xs ((rd xs 0) != 0)) (fun k => ?_) ?_
      · rw [arith_Apply.j0, if_neg (by simp), if_neg e3, if_neg e4, if_pos e17, if_pos (by omega)]
      · refine Ev.last fun k => ?_
        by_cases c : rd xs 0 = 0
        · rw [arith_Apply.j1, if_neg (by simp [c]), if_pos e17, if_pos (by omega), if_neg (by simp [c])]
        · rw [arith_Apply.j1, if_pos (by simp [c]), if_pos (by omega), if_pos c]
    rw [if_neg e17]
    have hl := arity_two (by omega) e3 e4 e17
    refine Ev.step (f := fun k => arith_Apply.j1 k op xs false) (fun k => ?_) ?_
    · rw [arith_Apply.j0, if_neg (by simp), if_neg e3, if_neg e4, if_neg e17]
    refine Ev.step (f := fun k => (arith_group.f k op).bind fun t144 => (if t144 = 1 then (if 1 < (xs.length : Int) then (if (rd xs 1) = 0 then (some (0, 12)) else (if 0 < (xs.length : Int) then ((arith_two.f op (rd xs 0) (rd xs 1)).bind fun t148 => (some (t148, 0))) else (none))) else (none)) else (if 0 < (xs.length : Int) then (if 1 < (xs.length : Int) then ((arith_two.f op (rd xs 0) (rd xs 1)).bind fun t151 => (some (t151, 0))) else (none)) else (none)))) (fun k => ?_) (Ev.bind (group_ev op) ?_)
    · rw [arith_Apply.j1, if_neg (by simp), if_neg e17]
    refine Ev.pure fun k => ?_
    by_cases h89 : op = 8 ∨ op = 9
    · rw [if_pos h89, if_pos rfl, if_pos (by omega)]
      by_cases c : rd xs 1 = 0
      · rw [if_pos c, if_pos ⟨h89, c⟩]
      · rw [if_neg c, if_pos (by omega), two_eq op _ _ (fun _ => c), if_neg (fun hh => c hh.2)]; rfl
    · have : ¬ (if op = 8 ∨ op = 9 then (1 : Int) else if 13 ≤ op ∧ op ≤ 16 then 2 else 0) = 1 := by
        rw [if_neg h89]; split <;> omega
      rw [if_neg this, if_pos (by omega), if_pos (by omega), two_eq op _ _ (fun hh => absurd hh h89), if_neg (fun hh => h89 hh.1)]; rfl
theorem rd_in {xs : List Int} (h : ∀ v ∈ xs, inI v) (i : Nat) : inI (rd xs (i : Int)) := by
  show inI (xs.getD i 0)
  by_cases hi : i < xs.length
  · rw [getD_lt xs i 0 hi]; exact h _ (List.getElem_mem hi)
  · rw [List.getD_eq_getElem?_getD, List.getElem?_eq_none (by omega)]; unfold inI; simp
theorem apply_in (op : Int) (xs : List Int) (h : ∀ v ∈ xs, inI v) : inI (applyZ op xs).1 := by
  have z : inI 0 := by unfold inI; omega
  unfold applyZ
  by_cases c : (op = 8 ∨ op = 9) ∧ rd xs 1 = 0
  · repeat' split
    all_goals first | exact z | exact w64_in _ | exact rd_in h 1 | exact rd_in h 2 | exact absurd c ‹_›
  · repeat' split
    all_goals first | exact z | exact w64_in _ | exact rd_in h 1 | exact rd_in h 2 | exact two_in op _ _ (rd_in h 0) (rd_in h 1) (fun hh hz => c ⟨hh, hz⟩)
/-! ### names -/
def getF (s : ByteArray) (a : Int) (b : S70) : Int := if b.f0.toList = s.toList then b.f1 else a
def getL (env : List S70) (s : ByteArray) : Int := env.foldl (getF s) 0
theorem get_ev (env : List S70) (s : ByteArray) (hb : env.length ≤ 5864062014634) : Ev (fun k => env_Get.f k env s) (getL env s) := by
  have loop : ∀ m : Nat, m ≤ env.length → ∃ j, Ev (fun k => env_last.l0 k env s ((m : Int) - 1)) j ∧ ((j = -1 ∧ (env.take m).foldl (getF s) 0 = 0) ∨ ∃ i : Nat, ∃ h : i < env.length, j = i ∧ (env.take m).foldl (getF s) 0 = (env[i]).f1) := by
    intro m
    induction m with
    | zero =>
      intro _
      exact ⟨-1, Ev.last fun k => by rw [env_last.l0, if_neg (by omega)], .inl ⟨rfl, rfl⟩⟩
    | succ m ih =>
      intro hm
      obtain ⟨j, hj, hh⟩ := ih (by omega)
      have em : ((m + 1 : Nat) : Int) - 1 = (m : Int) := by omega
      have ea : rd_T70 env (m : Int) = env[m] := getD_lt env m _ (by omega)
      have et : (env.take (m + 1)).foldl (getF s) 0 = getF s ((env.take m).foldl (getF s) 0) env[m] := by rw [List.take_succ_eq_append_getElem (by omega), List.foldl_append]; rfl
      rw [em, et]
      by_cases hc : (env[m]).f0.toList = s.toList
      · refine ⟨m, Ev.last fun k => ?_, .inr ⟨m, by omega, rfl, if_pos hc⟩⟩
        rw [env_last.l0, if_pos (by omega), if_pos (by omega), if_pos (by omega), ea, if_pos hc]
      · have eg : ∀ z, getF s z env[m] = z := fun z => if_neg hc
        rw [eg]
        refine ⟨j, Ev.step (f := fun k => env_last.l0 k env s ((m : Int) - 1)) (fun k => ?_) hj, hh⟩
        rw [env_last.l0, if_pos (by omega), if_pos (by omega), if_pos (by omega), ea, if_neg hc, w64 _ (by omega)]
  obtain ⟨j, hj, hh⟩ := loop env.length (Nat.le_refl _)
  rw [List.take_length] at hh
  unfold env_Get.f env_last.f getL
  rw [w64 ((env.length : Int) - 1) (by omega)]
  refine Ev.bind hj ?_
  rcases hh with ⟨rfl, h⟩ | ⟨i, hi, rfl, h⟩
  · rw [h]
    exact Ev.pure fun k => by rw [if_neg (by omega)]
  · have ea : rd_T70 env (i : Int) = env[i] := getD_lt env i _ hi
    rw [h]
    exact Ev.pure fun k => by rw [if_pos (by omega), if_pos (by omega), if_pos (by omega), ea]
theorem get_in (env : List S70) (s : ByteArray) (h : ∀ b ∈ env, inI b.f1) : inI (getL env s) := by
  have key : ∀ (l : List S70) (a : Int), inI a → (∀ b ∈ l, inI b.f1) → inI (l.foldl (getF s) a) := by
    intro l
    induction l with
    | nil => intro a ha _; exact ha
    | cons b l ih =>
      intro a ha hl
      refine ih _ ?_ (fun c hc => hl c (List.mem_cons_of_mem _ hc))
      unfold getF
      split
      · exact hl b List.mem_cons_self
      · exact ha
  exact key env 0 (by unfold inI; omega) h

/-! ### what a sound text's walk covers -/
theorem checkE_cases (l : List S45) : checkE l = 0 ∨ checkE l = 1 := by
  have key : ∀ (r : List S45) (st : List Int) (i : Nat), checkFrom st i r = 0 ∨ checkFrom st i r = 1 := by
    intro r
    induction r with
    | nil => intro st i; rw [checkFrom]; split <;> simp
    | cons x r ih => intro st i; rw [checkFrom]; split; exact ih _ _; exact .inr rfl
  unfold checkE
  split
  · exact .inr rfl
  · exact key _ _ _
theorem checkE_from {l : List S45} (h : checkE l = 0) : 1 ≤ l.length ∧ l.length ≤ 64 ∧ checkFrom [] 0 l = 0 := by
  unfold checkE at h
  split at h
  · cases h
  · exact ⟨by omega, by omega, h⟩
/-- In a sound text all nodes are sound, the last one's tree is the whole, and each kid lies before its node. -/
theorem checkE_form {l : List S45} (h : checkE l = 0) : ∀ x ∈ l, formN x = true := by
  intro x hx
  by_cases hf : formN x = true
  · exact hf
  · have := check_bad l [] 0 ⟨x, hx, hf⟩
    rw [(checkE_from h).2.2] at this
    cases this
theorem checkE_kids {l : List S45} (h : checkE l = 0) : ∀ (i : Nat) (hi : i < l.length), ∀ kid ∈ (l[i]).f3, 0 ≤ kid ∧ kid < i := by
  have key : ∀ (r : List S45) (st : List Int) (i : Nat), (∀ t ∈ st, 0 ≤ t ∧ t < (i : Int)) → checkFrom st i r = 0 → ∀ (j : Nat) (hj : j < r.length), ∀ kid ∈ (r[j]).f3, 0 ≤ kid ∧ kid < ((i + j : Nat) : Int) := by
    intro r
    induction r with
    | nil => intro st i _ _ j hj; exact absurd hj (by simp)
    | cons x r ih =>
      intro st i hst hc j hj kid hkid
      rw [checkFrom] at hc
      split at hc
      · rename_i hfit
        cases j with
        | zero =>
          simp only [fitsN, Bool.and_eq_true, decide_eq_true_eq] at hfit
          have hm : kid ∈ st := by
            have : kid ∈ x.f3 := hkid
            rw [← hfit.2] at this
            exact List.mem_of_mem_drop this
          exact hst kid hm
        | succ j =>
          have := ih _ (i + 1) (fun t ht => by
            rcases List.mem_append.1 ht with ht | ht
            · have := hst t (List.mem_of_mem_take ht); omega
            · obtain rfl := List.mem_singleton.1 ht; omega) hc j (by simpa using hj) kid (by simpa using hkid)
          omega
      · cases hc
  intro i hi kid hkid
  have := key l [] 0 (by simp) (checkE_from h).2.2 i hi kid hkid
  rwa [Nat.zero_add] at this
end Go.Proofs.YtacjjfoelhckcaaDoor.PEvalParts

/- Plain laws, part 7: the values of a text's nodes; Eval and Trap answer as the reference's. -/
namespace Go.Proofs.YtacjjfoelhckcaaDoor.PEvalParts
open Go.RowKit Go.Proofs.YtacjjfoelhckcaaDoorW.PrintWords Go.Proofs.YtacjjfoelhckcaaDoorW.PrintMore
set_option linter.unusedVariables false

section
variable (env : List S70)
/-- What a node comes to, and its trouble, over the values before it. -/
def nodeV (vals : List Int) (x : S45) : Int × Int := if x.f0 = 1 then (x.f1, 0) else if x.f0 = 2 then (getL env x.f2, 0) else applyZ x.f0 (x.f3.map fun k => rd vals k)
def valsFrom (vals : List Int) : List S45 → List Int
  | [] => vals
  | x :: r => if (nodeV env vals x).2 = 0 then valsFrom (vals ++ [(nodeV env vals x).1]) r else vals
theorem values_loop (l : List S45) (hl : l.length ≤ 64) (he : env.length ≤ 5864062014634) (hk : ∀ x ∈ l, okN (x.f0, x.f1, x.f2, x.f3)) (hb : ∀ (i : Nat) (hi : i < l.length), ∀ kid ∈ (l[i]).f3, 0 ≤ kid ∧ kid < i) :
    ∀ (n i : Nat) (vals : List Int), l.length - i ≤ n → i ≤ l.length → vals.length = i → Ev (fun k => eval_values.l0 k env vals l (l.length : Int) (i : Int)) (valsFrom env vals (l.drop i)) := by
  have fin : ∀ (i : Nat) (vals : List Int), l.length ≤ i → Ev (fun k => eval_values.l0 k env vals l (l.length : Int) (i : Int)) (valsFrom env vals (l.drop i)) := by
    intro i vals h
    rw [List.drop_eq_nil_of_le h, valsFrom]
    exact Ev.last fun k => by rw [eval_values.l0, if_neg (by omega)]
  intro n
  induction n with
  | zero => intro i vals h1 h2 h3; exact fin i vals (by omega)
  | succ n ih =>
    intro i vals h1 h2 h3
    by_cases hi : i < l.length
    · have ea : rd_T45 l (i : Int) = l[i] := getD_lt l i _ hi
      have hkid : (l[i]).f3.length ≤ 17592186043904 := by have := (hk _ (List.getElem_mem hi)).2.2.2.1; dsimp only at this; omega
      have hbx := hb i hi
      rw [List.drop_eq_getElem_cons hi, valsFrom]
      generalize l[i] = x at *
      have go : ∀ v : Int, Ev (fun k => eval_values.l0 k env (vals ++ [v]) l (l.length : Int) (wrap64 ((i : Int) + 1))) (valsFrom env (vals ++ [v]) (l.drop (i + 1))) := fun v => by
        rw [w64 _ (by omega)]
        exact ih (i + 1) (vals ++ [v]) (by omega) (by omega) (by simp; omega)
      have hv64 : vals.length < 17592186044416 := by omega
      have inner : ∀ (m j : Nat), x.f3.length - j ≤ m → j ≤ x.f3.length →
          Ev (fun k => eval_values.l1 k env vals ((x.f3.take j).map fun k => rd vals k) l (l.length : Int) (i : Int) x.f3 (x.f3.length : Int) (j : Int) x.f0 x.f1 x.f2 x.f3) (if (nodeV env vals x).2 = 0 then valsFrom env (vals ++ [(nodeV env vals x).1]) (l.drop (i + 1)) else vals) := by
        have fin2 : ∀ j : Nat, j ≤ x.f3.length → x.f3.length ≤ j → Ev (fun k => eval_values.l1 k env vals ((x.f3.take j).map fun k => rd vals k) l (l.length : Int) (i : Int) x.f3 (x.f3.length : Int) (j : Int) x.f0 x.f1 x.f2 x.f3) (if (nodeV env vals x).2 = 0 then valsFrom env (vals ++ [(nodeV env vals x).1]) (l.drop (i + 1)) else vals) := by
          intro j h1 h2
          rw [List.take_of_length_le h2]
          unfold nodeV
          by_cases e1 : x.f0 = 1
          · rw [if_pos e1, if_pos rfl]
            exact Ev.step (fun k => by rw [eval_values.l1, if_neg (by omega), if_pos e1, if_pos hv64]) (go x.f1)
          rw [if_neg e1]
          by_cases e2 : x.f0 = 2
          · rw [if_pos e2, if_pos rfl]
            refine Ev.step (f := fun k => (env_Get.f k env x.f2).bind fun t162 => (if vals.length < 17592186044416 then (eval_values.l0 k env (vals ++ [t162]) l (l.length : Int) (wrap64 ((i : Int) + 1))) else (none))) (fun k => by rw [eval_values.l1, if_neg (by omega), if_neg e1, if_pos e2]) (Ev.bind (get_ev env x.f2 he) ?_)
            exact Ev.congr (fun k => if_pos hv64) (go _)
          rw [if_neg e2]
          refine Ev.step (f := fun k => (arith_Apply.f k x.f0 (x.f3.map fun k => rd vals k)).bind fun bt166 => (if bt166.2 = 0 then (if vals.length < 17592186044416 then (eval_values.l0 k env (vals ++ [bt166.1]) l (l.length : Int) (wrap64 ((i : Int) + 1))) else (none)) else (some vals))) (fun k => by rw [eval_values.l1, if_neg (by omega), if_neg e1, if_neg e2]) (Ev.bind (apply_ev _ _) ?_)
          by_cases ec : (applyZ x.f0 (x.f3.map fun k => rd vals k)).2 = 0
          · rw [if_pos ec]
            refine Ev.congr (fun k => if_pos ec) ?_
            exact Ev.congr (fun k => if_pos hv64) (go _)
          · rw [if_neg ec]
            exact Ev.congr (fun k => if_neg ec) (Ev.now _)
        intro m
        induction m with
        | zero => intro j h1 h2; exact fin2 j h2 (by omega)
        | succ m ihm =>
          intro j h1 h2
          by_cases hj : j < x.f3.length
          · have ek : rd x.f3 (j : Int) = x.f3[j] := getD_lt x.f3 j 0 hj
            have hkj := hbx _ (List.getElem_mem hj)
            have := ihm (j + 1) (by omega) (by omega)
            rw [List.take_succ_eq_append_getElem hj, List.map_append] at this
            refine Ev.step (fun k => ?_) this
            rw [eval_values.l1, if_pos (by omega), if_pos (by omega), if_pos (by omega), ek, if_pos hkj.1, if_pos (by omega), if_pos (by simp; omega), w64 _ (by omega)]; rfl
          · exact fin2 j h2 (by omega)
      refine Ev.step (fun k => ?_) (inner _ 0 (Nat.le_refl _) (by omega))
      rw [eval_values.l0, if_pos (by omega), if_pos (by omega), if_pos (by omega), ea]; rfl
    · exact fin i vals (by omega)
def valsOf (l : List S45) : List Int := valsFrom env [] l
theorem values_ev (l : List S45) (hl : l.length ≤ 64) (he : env.length ≤ 5864062014634) (hk : ∀ x ∈ l, okN (x.f0, x.f1, x.f2, x.f3)) (hb : ∀ (i : Nat) (hi : i < l.length), ∀ kid ∈ (l[i]).f3, 0 ≤ kid ∧ kid < i) : Ev (fun k => eval_values.f k l env) (valsOf env l) := by
  have := values_loop env l hl he hk hb _ 0 [] (Nat.le_refl _) (by omega) rfl
  rw [List.drop_zero] at this
  exact this

/-! ### what the values are -/
theorem nodeV_app (vals more : List Int) (x : S45) (h : ∀ kid ∈ x.f3, 0 ≤ kid ∧ kid < (vals.length : Int)) : nodeV env (vals ++ more) x = nodeV env vals x := by
  have e : x.f3.map (fun k => rd (vals ++ more) k) = x.f3.map (fun k => rd vals k) := by
    refine List.map_congr_left fun kid hkid => ?_
    have hh := h kid hkid
    obtain ⟨q, rfl⟩ : ∃ q : Nat, kid = q := ⟨kid.toNat, by omega⟩
    show (vals ++ more).getD q 0 = vals.getD q 0
    rw [getD_lt _ q 0 (by simp; omega), getD_lt _ q 0 (by omega), List.getElem_append_left (by omega)]
  unfold nodeV
  rw [e]
theorem valsFrom_spec : ∀ (r : List S45) (vals : List Int), ∃ more, valsFrom env vals r = vals ++ more ∧ more.length ≤ r.length ∧
    ((∀ (j : Nat) (hj : j < r.length), ∀ kid ∈ (r[j]).f3, 0 ≤ kid ∧ kid < ((vals.length + j : Nat) : Int)) → (∀ (j : Nat) (hj : j < more.length) (hr : j < r.length), nodeV env (vals ++ more) r[j] = (more[j], 0)) ∧ (∀ hr : more.length < r.length, (nodeV env (vals ++ more) r[more.length]).2 ≠ 0)) := by
  intro r
  induction r with
  | nil => intro vals; exact ⟨[], by simp [valsFrom], by simp, fun _ => ⟨fun j hj => absurd hj (by simp), fun hr => absurd hr (by simp)⟩⟩
  | cons x r ih =>
    intro vals
    rw [valsFrom]
    by_cases hc : (nodeV env vals x).2 = 0
    · rw [if_pos hc]
      obtain ⟨more, h1, h2, h3⟩ := ih (vals ++ [(nodeV env vals x).1])
      refine ⟨(nodeV env vals x).1 :: more, by rw [h1, List.append_assoc]; rfl, by simp; exact h2, fun hb => ?_⟩
      have hx0 : ∀ kid ∈ x.f3, 0 ≤ kid ∧ kid < (vals.length : Int) := fun kid hkid => by have := hb 0 (by simp) kid hkid; omega
      obtain ⟨g1, g2⟩ := h3 (fun j hj kid hkid => by have := hb (j + 1) (by simp; omega) kid hkid; simp; omega)
      have ea : vals ++ (nodeV env vals x).1 :: more = vals ++ [(nodeV env vals x).1] ++ more := by simp
      rw [ea]
      refine ⟨fun j hj hr => ?_, fun hr => ?_⟩
      · cases j with
        | zero =>
          rw [List.append_assoc, List.getElem_cons_zero, nodeV_app env vals _ x hx0, List.getElem_cons_zero]
          exact Prod.ext rfl hc
        | succ j => exact g1 j (by simpa using hj) (by simpa using hr)
      · exact g2 (by simpa using hr)
    · rw [if_neg hc]
      refine ⟨[], by simp, by simp, fun hb => ⟨fun j hj => absurd hj (by simp), fun hr => ?_⟩⟩
      simpa using hc
theorem valsOf_spec (l : List S45) (hb : ∀ (i : Nat) (hi : i < l.length), ∀ kid ∈ (l[i]).f3, 0 ≤ kid ∧ kid < i) :
    (valsOf env l).length ≤ l.length ∧ (∀ (j : Nat) (hj : j < (valsOf env l).length) (hr : j < l.length), nodeV env (valsOf env l) l[j] = ((valsOf env l)[j], 0)) ∧ (∀ hr : (valsOf env l).length < l.length, (nodeV env (valsOf env l) l[(valsOf env l).length]).2 ≠ 0) := by
  obtain ⟨more, h1, h2, h3⟩ := valsFrom_spec env l []
  rw [List.nil_append] at h1
  have e : valsOf env l = more := h1
  rw [e]
  obtain ⟨g1, g2⟩ := h3 (fun j hj kid hkid => by have := hb j hj kid hkid; simp; omega)
  exact ⟨h2, g1, g2⟩

/-! ### the reference, node by node -/
end
end Go.Proofs.YtacjjfoelhckcaaDoor.PEvalParts

/- Plain laws, part 8: Eval and Trap, whole. -/
namespace Go.Proofs.YtacjjfoelhckcaaDoor.PEvalParts
open Go.RowKit Go.Proofs.YtacjjfoelhckcaaDoorW.PrintWords Go.Proofs.YtacjjfoelhckcaaDoorW.PrintMore
set_option linter.unusedVariables false

section
variable (env : List S70)
def trapS (l : List S45) : Int × Int := if checkE l = 0 then (if (valsOf env l).length < l.length then (((valsOf env l).length : Int), 0) else (0, 11)) else (0, 1)
def evalS (l : List S45) : Int × Int := if checkE l = 0 then (if (valsOf env l).length < l.length then (0, 12) else (rd (valsOf env l) ((l.length : Int) - 1), 0)) else (0, 1)
theorem trap_ev (l : List S45) (he : env.length ≤ 5864062014634) (hk : ∀ x ∈ l, okN (x.f0, x.f1, x.f2, x.f3)) : Ev (fun k => eval_Trap.f k l env) (trapS env l) := by
  unfold eval_Trap.f trapS
  refine Ev.bind (check_ev l hk) ?_
  by_cases hc : checkE l = 0
  · rw [if_pos hc]
    refine Ev.congr (fun k => if_pos hc) ?_
    obtain ⟨h1, h2, _⟩ := checkE_from hc
    refine Ev.bind (values_ev env l h2 he hk (checkE_kids hc)) ?_
    clear hc
    refine Ev.pure fun k => ?_
    by_cases hv : (valsOf env l).length < l.length
    · rw [if_pos hv, if_pos (by omega)]
    · rw [if_neg hv, if_neg (by omega)]
  · rw [if_neg hc]
    refine Ev.congr (fun k => if_neg hc) ?_
    have e : checkE l = 1 := (checkE_cases l).resolve_left hc
    rw [e]
    exact Ev.now _
theorem eval_ev (l : List S45) (he : env.length ≤ 5864062014634) (hk : ∀ x ∈ l, okN (x.f0, x.f1, x.f2, x.f3)) : Ev (fun k => eval_Eval.f k l env) (evalS env l) := by
  unfold eval_Eval.f evalS
  refine Ev.bind (check_ev l hk) ?_
  by_cases hc : checkE l = 0
  · rw [if_pos hc]
    refine Ev.congr (fun k => if_pos hc) ?_
    obtain ⟨h1, h2, _⟩ := checkE_from hc
    have hval := values_ev env l h2 he hk (checkE_kids hc)
    have hspec := valsOf_spec env l (checkE_kids hc)
    refine Ev.bind (trap_ev env l he hk) ?_
    have ht : trapS env l = if (valsOf env l).length < l.length then (((valsOf env l).length : Int), 0) else (0, 11) := if_pos hc
    rw [ht]
    clear hc ht
    by_cases hv : (valsOf env l).length < l.length
    · rw [if_pos hv, if_pos hv]
      exact Ev.congr (fun k => if_neg (by simp)) (Ev.now _)
    · rw [if_neg hv, if_neg hv]
      refine Ev.congr (fun k => if_pos rfl) ?_
      refine Ev.bind hval ?_
      have e : wrap64 ((l.length : Int) - 1) = (l.length : Int) - 1 := w64 _ (by omega)
      rw [e]
      clear e
      refine Ev.pure fun k => ?_
      rw [if_pos (by omega), if_pos (by omega)]
  · rw [if_neg hc]
    refine Ev.congr (fun k => if_neg hc) ?_
    have e : checkE l = 1 := (checkE_cases l).resolve_left hc
    rw [e]
    exact Ev.now _
/-! ### the reference -/
end
end Go.Proofs.YtacjjfoelhckcaaDoor.PEvalParts

/- Plain laws over trees, part 1: a sound text is the postfix of one tree. -/
namespace Go.Proofs.YtacjjfoelhckcaaDoor.PEvalParts
open Go.RowKit Go.Proofs.YtacjjfoelhckcaaDoorW.PrintWords
set_option linter.unusedVariables false

/-- An expression as a tree. -/
inductive T where
  | mk : Int → Int → ByteArray → List T → T
mutual
def T.size : T → Nat
  | .mk _ _ _ ts => sizeL ts + 1
def sizeL : List T → Nat
  | [] => 0
  | t :: ts => t.size + sizeL ts
end
/-- Where the roots of trees that stand one behind the other lie, from c on. -/
def roots (c : Nat) : List T → List Int
  | [] => []
  | t :: ts => ((c + t.size - 1 : Nat) : Int) :: roots (c + t.size) ts
mutual
/-- A tree's nodes in postfix, the first at c. -/
def T.flat (c : Nat) : T → List S45
  | .mk op n name ts => flatL c ts ++ [⟨op, n, name, roots c ts⟩]
def flatL (c : Nat) : List T → List S45
  | [] => []
  | t :: ts => t.flat c ++ flatL (c + t.size) ts
end
mutual
def T.ok : T → Bool
  | .mk op n name ts => formB op n name ts.length && okL ts
def okL : List T → Bool
  | [] => true
  | t :: ts => t.ok && okL ts
end
theorem size_pos (t : T) : 1 ≤ t.size := by
  cases t with | mk op n name ts => rw [T.size]; omega
theorem roots_len (ts : List T) : ∀ c, (roots c ts).length = ts.length := by
  induction ts with
  | nil => intro c; rfl
  | cons t ts ih => intro c; rw [roots, List.length_cons, ih, List.length_cons]
theorem sizeL_app (ts us : List T) : sizeL (ts ++ us) = sizeL ts + sizeL us := by
  induction ts with
  | nil => simp [sizeL]
  | cons t ts ih => rw [List.cons_append, sizeL, sizeL, ih]; omega
theorem roots_app (ts us : List T) : ∀ c, roots c (ts ++ us) = roots c ts ++ roots (c + sizeL ts) us := by
  induction ts with
  | nil => intro c; simp [sizeL, roots]
  | cons t ts ih => intro c; rw [List.cons_append, roots, roots, ih, sizeL, List.cons_append, Nat.add_assoc]
theorem flatL_app (ts us : List T) : ∀ c, flatL c (ts ++ us) = flatL c ts ++ flatL (c + sizeL ts) us := by
  induction ts with
  | nil => intro c; simp [sizeL, flatL]
  | cons t ts ih => intro c; rw [List.cons_append, flatL, flatL, ih, sizeL, List.append_assoc, Nat.add_assoc]
theorem okL_app (ts us : List T) : okL (ts ++ us) = (okL ts && okL us) := by
  induction ts with
  | nil => simp [okL]
  | cons t ts ih => rw [List.cons_append, okL, okL, ih, Bool.and_assoc]
mutual
theorem flat_len (c : Nat) : ∀ t : T, (t.flat c).length = t.size
  | .mk op n name ts => by rw [T.flat, List.length_append, flatL_len c ts, T.size]; rfl
theorem flatL_len (c : Nat) : ∀ ts : List T, (flatL c ts).length = sizeL ts
  | [] => rfl
  | t :: ts => by rw [flatL, List.length_append, flat_len c t, flatL_len (c + t.size) ts, sizeL]
end
theorem len_le_size (ts : List T) : ts.length ≤ sizeL ts := by
  induction ts with
  | nil => simp
  | cons t ts ih => have := size_pos t; rw [sizeL, List.length_cons]; omega
/- The check goes well over a tree's nodes from any open ones: it leaves the tree's root open beside them. -/
mutual
theorem check_flat (r : List S45) : ∀ (t : T), t.ok = true → ∀ (st : List Int) (c : Nat), checkFrom st c (t.flat c ++ r) = checkFrom (st ++ [((c + t.size - 1 : Nat) : Int)]) (c + t.size) r
  | .mk op n name ts, h, st, c => by
    rw [T.ok, Bool.and_eq_true] at h
    rw [T.flat, List.append_assoc, check_flatL _ ts h.2 st c, List.singleton_append, checkFrom]
    have hl := roots_len ts c
    have hfit : fitsN (st ++ roots c ts) (⟨op, n, name, roots c ts⟩ : S45) = true := by
      simp only [fitsN, formN, hl, h.1, Bool.true_and, Bool.and_eq_true, decide_eq_true_eq, List.length_append]
      refine ⟨by omega, ?_⟩
      rw [show st.length + ts.length - ts.length = st.length by omega, List.drop_left]
    rw [if_pos hfit, T.size]
    simp only [List.length_append, hl]
    rw [show st.length + ts.length - ts.length = st.length by omega, List.take_left]
    rfl
theorem check_flatL (r : List S45) : ∀ (ts : List T), okL ts = true → ∀ (st : List Int) (c : Nat), checkFrom st c (flatL c ts ++ r) = checkFrom (st ++ roots c ts) (c + sizeL ts) r
  | [], _, st, c => by simp [flatL, roots, sizeL]
  | t :: ts, h, st, c => by
    rw [okL, Bool.and_eq_true] at h
    rw [flatL, List.append_assoc, check_flat _ t h.1 st c, check_flatL _ ts h.2, roots, sizeL, List.append_assoc, Nat.add_assoc]
    rfl
end
theorem checkE_flat (t : T) (h : t.ok = true) (hs : t.size ≤ 64) : checkE (t.flat 0) = 0 := by
  have h1 := size_pos t
  have hl := flat_len 0 t
  have := check_flat [] t h [] 0
  rw [List.append_nil] at this
  rw [checkE, if_neg (by omega), this, checkFrom, if_pos (by simp)]
/-- .. and only over such. -/
theorem check_trees : ∀ (r : List S45) (ts : List T), okL ts = true → checkFrom (roots 0 ts) (sizeL ts) r = 0 → ∃ t : T, t.ok = true ∧ flatL 0 ts ++ r = t.flat 0 := by
  intro r
  induction r with
  | nil =>
    intro ts hok h
    rw [checkFrom] at h
    split at h
    · rename_i hl
      rw [roots_len] at hl
      obtain ⟨t, rfl⟩ := List.length_eq_one_iff.1 hl
      refine ⟨t, by simpa [okL] using hok, by simp [flatL]⟩
    · cases h
  | cons x r ih =>
    intro ts hok h
    rw [checkFrom] at h
    split at h
    · rename_i hfit
      simp only [fitsN, Bool.and_eq_true, decide_eq_true_eq, roots_len] at hfit
      obtain ⟨⟨hf, hle⟩, hd⟩ := hfit
      -- the last of the open trees are this node's kids
      have hsplit : ts = ts.take (ts.length - x.f3.length) ++ ts.drop (ts.length - x.f3.length) := (List.take_append_drop _ _).symm
      generalize hA : ts.take (ts.length - x.f3.length) = A at hsplit
      generalize hB : ts.drop (ts.length - x.f3.length) = B at hsplit
      have hAl : A.length = ts.length - x.f3.length := by rw [← hA, List.length_take]; omega
      have hr : roots 0 ts = roots 0 A ++ roots (sizeL A) B := by rw [hsplit, roots_app, Nat.zero_add]
      have hk : roots (sizeL A) B = x.f3 := by
        rw [hr, ← hAl, ← roots_len A 0, List.drop_left] at hd
        exact hd
      rw [roots_len, hr, ← hAl, ← roots_len A 0, List.take_left] at h
      have hok2 : okL A = true ∧ okL B = true := by rw [hsplit, okL_app, Bool.and_eq_true] at hok; exact hok
      have hBl : B.length = x.f3.length := by rw [← hk, roots_len]
      have hnew : okL (A ++ [.mk x.f0 x.f1 x.f2 B]) = true := by
        rw [okL_app, hok2.1]
        simp only [okL, T.ok, hok2.2, hBl, Bool.and_true, Bool.true_and]
        exact hf
      have hsz : sizeL ts = sizeL A + sizeL B := by rw [hsplit, sizeL_app]
      have hroots : roots 0 (A ++ [.mk x.f0 x.f1 x.f2 B]) = roots 0 A ++ [((sizeL ts : Nat) : Int)] := by
        rw [roots_app, Nat.zero_add, roots, roots, T.size, hsz]
        rfl
      have hsize : sizeL (A ++ [.mk x.f0 x.f1 x.f2 B]) = sizeL ts + 1 := by
        rw [sizeL_app, sizeL, sizeL, T.size, hsz]
        omega
      obtain ⟨t, ht, e⟩ := ih (A ++ [.mk x.f0 x.f1 x.f2 B]) hnew (by rw [hroots, hsize]; exact h)
      refine ⟨t, ht, ?_⟩
      rw [← e, flatL_app, Nat.zero_add, flatL, flatL, T.flat, hk, List.append_nil, hsplit, flatL_app, Nat.zero_add, List.append_assoc, List.append_assoc, List.append_assoc]
      rfl
    · cases h
theorem checkE_tree {l : List S45} (h : checkE l = 0) : ∃ t : T, t.ok = true ∧ t.size ≤ 64 ∧ l = t.flat 0 := by
  unfold checkE at h
  split at h
  · cases h
  · rename_i hl
    obtain ⟨t, ht, e⟩ := check_trees l [] rfl h
    have e' : l = t.flat 0 := e
    refine ⟨t, ht, ?_, e'⟩
    rw [← flat_len 0 t, ← e']
    omega
end Go.Proofs.YtacjjfoelhckcaaDoor.PEvalParts

/- Plain laws over trees, part 2: subtrees, their places, a subtree replaced. -/
namespace Go.Proofs.YtacjjfoelhckcaaDoor.PEvalParts
open Go.RowKit Go.Proofs.YtacjjfoelhckcaaDoorW.PrintWords
set_option linter.unusedVariables false

/-- A node whose kids lie d further on. -/
def moved (d : Int) (x : S45) : S45 := ⟨x.f0, x.f1, x.f2, x.f3.map (· + d)⟩
theorem roots_moved (d : Nat) : ∀ (ts : List T) (c : Nat), roots (c + d) ts = (roots c ts).map (· + (d : Int))
  | [], c => rfl
  | t :: ts, c => by
    have := size_pos t
    rw [roots, roots, List.map_cons, show c + d + t.size = c + t.size + d by omega, roots_moved d ts (c + t.size)]
    congr 1
    omega
mutual
theorem flat_moved (d : Nat) : ∀ (t : T) (c : Nat), t.flat (c + d) = (t.flat c).map (moved d)
  | .mk op n name ts, c => by
    rw [T.flat, T.flat, List.map_append, flatL_moved d ts c, List.map_cons, List.map_nil, roots_moved]
    rfl
theorem flatL_moved (d : Nat) : ∀ (ts : List T) (c : Nat), flatL (c + d) ts = (flatL c ts).map (moved d)
  | [], c => rfl
  | t :: ts, c => by
    rw [flatL, flatL, List.map_append, flat_moved d t c, show c + d + t.size = c + t.size + d by omega, flatL_moved d ts (c + t.size)]
end
/-- The roots lie within. -/
theorem roots_in : ∀ (ts : List T) (c : Nat), ∀ k ∈ roots c ts, (c : Int) ≤ k ∧ k < ((c + sizeL ts : Nat) : Int)
  | [], c, k, hk => by cases hk
  | t :: ts, c, k, hk => by
    have := size_pos t
    rw [roots] at hk
    rw [sizeL]
    rcases List.mem_cons.1 hk with rfl | hk
    · omega
    · have := roots_in ts (c + t.size) k hk
      omega
mutual
theorem flat_in : ∀ (t : T) (c : Nat), ∀ x ∈ t.flat c, ∀ k ∈ x.f3, (c : Int) ≤ k ∧ k < ((c + t.size : Nat) : Int)
  | .mk op n name ts, c, x, hx, k, hk => by
    rw [T.flat] at hx
    rw [T.size]
    rcases List.mem_append.1 hx with hx | hx
    · have := flatL_in ts c x hx k hk
      omega
    · obtain rfl := List.mem_singleton.1 hx
      have := roots_in ts c k hk
      omega
theorem flatL_in : ∀ (ts : List T) (c : Nat), ∀ x ∈ flatL c ts, ∀ k ∈ x.f3, (c : Int) ≤ k ∧ k < ((c + sizeL ts : Nat) : Int)
  | [], c, x, hx, k, hk => by cases hx
  | t :: ts, c, x, hx, k, hk => by
    rw [flatL] at hx
    rw [sizeL]
    rcases List.mem_append.1 hx with hx | hx
    · have := flat_in t c x hx k hk
      omega
    · have := flatL_in ts (c + t.size) x hx k hk
      omega
end
/-- s is the part of t (whose first node lies at c) that begins at b. -/
inductive At : T → Nat → T → Nat → Prop
  | here (t : T) (c : Nat) : At t c t c
  | kid (op n : Int) (name : ByteArray) (us : List T) (t : T) (ts : List T) (c : Nat) (s : T) (b : Nat) (h : At t (c + sizeL us) s b) : At (.mk op n name (us ++ t :: ts)) c s b
mutual
/-- At each place a part has its root. -/
theorem at_of : ∀ (t : T) (c i : Nat), c ≤ i → i < c + t.size → ∃ s b, At t c s b ∧ i + 1 = b + s.size
  | .mk op n name ts, c, i, h1, h2 => by
    by_cases he : i = c + sizeL ts
    · exact ⟨_, c, .here _ _, by rw [T.size]; omega⟩
    · rw [T.size] at h2
      obtain ⟨us, t, vs, e, s, b, h, hs⟩ := at_ofL ts c i h1 (by omega)
      subst e
      exact ⟨s, b, .kid op n name us t vs c s b h, hs⟩
theorem at_ofL : ∀ (ts : List T) (c i : Nat), c ≤ i → i < c + sizeL ts → ∃ us t vs, ts = us ++ t :: vs ∧ ∃ s b, At t (c + sizeL us) s b ∧ i + 1 = b + s.size
  | [], c, i, h1, h2 => by rw [sizeL] at h2; omega
  | t :: ts, c, i, h1, h2 => by
    rw [sizeL] at h2
    by_cases he : i < c + t.size
    · obtain ⟨s, b, h, hs⟩ := at_of t c i h1 he
      exact ⟨[], t, ts, rfl, s, b, by rw [sizeL, Nat.add_zero]; exact h, hs⟩
    · obtain ⟨us, u, vs, e, s, b, h, hs⟩ := at_ofL ts (c + t.size) i (by omega) (by omega)
      refine ⟨t :: us, u, vs, by rw [e]; rfl, s, b, ?_, hs⟩
      rw [sizeL, ← Nat.add_assoc]
      exact h
end
theorem At.split {t s : T} {c b : Nat} (h : At t c s b) : ∃ pre post, t.flat c = pre ++ s.flat b ++ post ∧ c + pre.length = b ∧ pre.length + s.size + post.length = t.size := by
  induction h with
  | here t c => exact ⟨[], [], by simp, by simp, by simp⟩
  | kid op n name us t ts c s b h ih =>
    obtain ⟨pre, post, e, h1, h2⟩ := ih
    refine ⟨flatL c us ++ pre, post ++ (flatL (c + sizeL us + t.size) ts ++ [⟨op, n, name, roots c (us ++ t :: ts)⟩]), ?_, ?_, ?_⟩
    · rw [T.flat, flatL_app, flatL, e]
      simp only [List.append_assoc]
    · rw [List.length_append, flatL_len]; omega
    · rw [T.size, sizeL_app, sizeL]
      simp only [List.length_append, flatL_len, List.length_singleton]
      omega
theorem At.ok {t s : T} {c b : Nat} (h : At t c s b) (hok : t.ok = true) : s.ok = true := by
  induction h with
  | here t c => exact hok
  | kid op n name us t ts c s b h ih =>
    rw [T.ok, Bool.and_eq_true, okL_app, Bool.and_eq_true, okL, Bool.and_eq_true] at hok
    exact ih hok.2.2.1
end Go.Proofs.YtacjjfoelhckcaaDoor.PEvalParts

/- Plain laws over trees, part 3: where a part begins; Part. -/
namespace Go.Proofs.YtacjjfoelhckcaaDoor.PEvalParts
open Go.RowKit Go.Proofs.YtacjjfoelhckcaaDoorW.PrintWords
set_option linter.unusedVariables false

def rootN (b : Nat) : T → S45
  | .mk op n name ts => ⟨op, n, name, roots b ts⟩
theorem flat_root (b : Nat) (s : T) : ∃ ini, s.flat b = ini ++ [rootN b s] ∧ ini.length + 1 = s.size := by
  cases s with
  | mk op n name ts => exact ⟨flatL b ts, rfl, by rw [flatL_len, T.size]⟩
theorem seg_root {l pre post : List S45} {b : Nat} {s : T} (e : l = pre ++ s.flat b ++ post) (hp : pre.length = b) : ∃ h : b + s.size - 1 < l.length, l[b + s.size - 1] = rootN b s := by
  obtain ⟨ini, e2, h2⟩ := flat_root b s
  have hl : l.length = pre.length + s.size + post.length := by rw [e]; simp [flat_len]; omega
  refine ⟨by omega, ?_⟩
  have e3 : l = (pre ++ ini) ++ rootN b s :: post := by rw [e, e2]; simp
  have h4 : b + s.size - 1 = (pre ++ ini).length := by rw [List.length_append]; omega
  subst e3
  simp only [h4]
  rw [List.getElem_append_right (by omega)]
  simp
theorem begin_ev (l : List S45) (hl : l.length ≤ 64) : ∀ (m : Nat) (s : T) (b : Nat) (pre post : List S45), s.size ≤ m → l = pre ++ s.flat b ++ post → pre.length = b → Ev (fun k => expr_begin.f k l ((b + s.size - 1 : Nat) : Int)) (b : Int) := by
  intro m
  induction m with
  | zero => intro s b pre post h _ _; have := size_pos s; omega
  | succ m ih =>
    intro s b pre post h e hp
    obtain ⟨hlt, hroot⟩ := seg_root e hp
    have ea : rd_T45 l ((b + s.size - 1 : Nat) : Int) = rootN b s := (getD_lt l _ _ hlt).trans hroot
    cases s with
    | mk op n name ts =>
      cases ts with
      | nil =>
        refine Ev.last fun k => ?_
        show expr_begin.l0 (k + 1) l _ = _
        have hf : (rootN b (.mk op n name [])).f3 = [] := rfl
        rw [expr_begin.l0, if_pos (by omega), if_pos (by omega), ea, hf, if_neg (by simp)]
        rw [T.size, sizeL]
        rfl
      | cons t ts =>
        have hf : (rootN b (.mk op n name (t :: ts))).f3 = ((b + t.size - 1 : Nat) : Int) :: roots (b + t.size) ts := rfl
        have hts : t.size ≤ m := by rw [T.size, sizeL] at h; omega
        have e2 : l = pre ++ t.flat b ++ (flatL (b + t.size) ts ++ [⟨op, n, name, roots b (t :: ts)⟩] ++ post) := by rw [e, T.flat, flatL]; simp
        refine Ev.step (f := fun k => expr_begin.f k l ((b + t.size - 1 : Nat) : Int)) (fun k => ?_) (ih t b pre _ hts e2 hp)
        show expr_begin.l0 (k + 1) l _ = expr_begin.l0 k l _
        rw [expr_begin.l0, if_pos (by omega), if_pos (by omega), ea, hf, if_pos (by simp), if_pos (by simp)]
        rfl
theorem moved_back (b : Nat) (s : T) (hs : b + s.size ≤ 64) : (s.flat b).map (shiftZ (-(b : Int))) = s.flat 0 := by
  have e := flat_moved b s 0
  rw [Nat.zero_add] at e
  rw [e, List.map_map]
  conv => rhs; rw [← List.map_id (s.flat 0)]
  refine List.map_congr_left fun x hx => ?_
  have hk := flat_in s 0 x hx
  show shiftZ (-(b : Int)) (moved b x) = x
  unfold shiftZ moved
  have e3 : (x.f3.map (· + (b : Int))).map (fun k => wrap64 (k + -(b : Int))) = x.f3 := by
    rw [List.map_map]
    conv => rhs; rw [← List.map_id x.f3]
    refine List.map_congr_left fun k hkk => ?_
    have := hk k hkk
    show wrap64 (k + b + -(b : Int)) = k
    rw [w64 _ (by omega)]
    omega
  rw [e3]
theorem part_ev (t : T) (hok : t.ok = true) (hs : t.size ≤ 64) (hk : ∀ x ∈ t.flat 0, okE x) (s : T) (b : Nat) (h : At t 0 s b) : Ev (fun k => expr_Part.f k (t.flat 0) ((b + s.size - 1 : Nat) : Int)) (s.flat 0, 0) := by
  obtain ⟨pre, post, e, h1, h2⟩ := h.split
  rw [Nat.zero_add] at h1
  have hlen := flat_len 0 t
  have hsp := size_pos s
  have hb := begin_ev (t.flat 0) (by omega) s.size s b pre post (Nat.le_refl _) e h1
  have hseg : ((t.flat 0).take (b + s.size)).drop b = s.flat b := by
    rw [e, ← h1, List.append_assoc, List.take_length_add_append, List.drop_left]
    have : (s.flat pre.length).length = s.size := flat_len _ s
    rw [← this, List.take_left]
  unfold expr_Part.f
  refine Ev.bind (check_ev _ hk) ?_
  refine Ev.congr (fun k => if_pos (checkE_flat t hok hs)) ?_
  refine Ev.congr (fun k => if_neg (by omega)) ?_
  refine Ev.step (f := fun k => (expr_begin.f k (t.flat 0) ((b + s.size - 1 : Nat) : Int)).bind fun t146 => (if 0 ≤ t146 then (if t146 ≤ (wrap64 (((b + s.size - 1 : Nat) : Int) + 1)) then (if (wrap64 (((b + s.size - 1 : Nat) : Int) + 1)) ≤ ((t.flat 0).length : Int) then ((expr_join.f k ([] : List (S45)) (((t.flat 0).take ((wrap64 (((b + s.size - 1 : Nat) : Int) + 1)) : Int).toNat).drop (t146 : Int).toNat) (wrap64 (-t146))).bind fun t151 => (some (t151, 0))) else (none)) else (none)) else (none))) (fun k => ?_) (Ev.bind hb ?_)
  · rw [expr_Part.j0, if_neg (by simp; omega)]
  have e1 : wrap64 (((b + s.size - 1 : Nat) : Int) + 1) = ((b + s.size : Nat) : Int) := by rw [w64 _ (by omega)]; omega
  have e2 : wrap64 (-(b : Int)) = -(b : Int) := w64 _ (by omega)
  rw [e1, e2]
  clear e1 e2
  refine Ev.congr (fun k => if_pos (by omega)) ?_
  refine Ev.congr (fun k => if_pos (by omega)) ?_
  refine Ev.congr (fun k => if_pos (by omega)) ?_
  rw [Int.toNat_natCast, Int.toNat_natCast, hseg]
  have hj := joinZ_ev [] (s.flat b) (-(b : Int)) (by rw [flat_len]; simp; omega) (fun x hx => hk x (by rw [e]; simp [hx]))
  rw [moved_back b s (by omega), List.nil_append] at hj
  exact Ev.bind hj (Ev.now _)
end Go.Proofs.YtacjjfoelhckcaaDoor.PEvalParts

/- Plain laws over trees, part 4: what a tree comes to; Eval. -/
namespace Go.Proofs.YtacjjfoelhckcaaDoor.PEvalParts
open Go.RowKit Go.Proofs.YtacjjfoelhckcaaDoorW.PrintWords Go.Proofs.YtacjjfoelhckcaaDoorW.PrintMore
set_option linter.unusedVariables false

section
variable (env : List S70)
def nodeR (op n : Int) (name : ByteArray) (rs : List Int) : Int × Int := if op = 1 then (n, 0) else if op = 2 then (getL env name, 0) else applyZ op rs
mutual
/-- All values of a tree's nodes in postfix, and the root's; none: trouble. -/
def T.ev : T → Option (List Int × Int)
  | .mk op n name ts => match evL ts with
    | none => none
    | some (l, rs) => if (nodeR env op n name rs).2 = 0 then some (l ++ [(nodeR env op n name rs).1], (nodeR env op n name rs).1) else none
def evL : List T → Option (List Int × List Int)
  | [] => some ([], [])
  | t :: ts => match T.ev t, evL ts with
    | some (l, v), some (l', rs) => some (l ++ l', v :: rs)
    | _, _ => none
end
mutual
theorem ev_len : ∀ (t : T) (l : List Int) (v : Int), T.ev env t = some (l, v) → l.length = t.size ∧ l.getLast? = some v
  | .mk op n name ts, l, v, h => by
    rw [T.ev] at h
    split at h
    · cases h
    · rename_i l0 rs e
      split at h
      · cases h
        have := evL_len ts l0 rs e
        exact ⟨by rw [List.length_append, this, T.size]; rfl, by simp⟩
      · cases h
theorem evL_len : ∀ (ts : List T) (l rs : List Int), evL env ts = some (l, rs) → l.length = sizeL ts
  | [], l, rs, h => by cases h; rfl
  | t :: ts, l, rs, h => by
    rw [evL] at h
    split at h
    · rename_i l1 v l2 rs2 e1 e2
      cases h
      rw [List.length_append, (ev_len t l1 v e1).1, evL_len ts l2 rs2 e2, sizeL]
    · cases h
end
/-- The roots' values, read out of all values. -/
theorem roots_vals : ∀ (ts : List T) (l rs vals more : List Int) (c : Nat), evL env ts = some (l, rs) → vals.length = c → (roots c ts).map (fun k => rd (vals ++ l ++ more) k) = rs
  | [], l, rs, vals, more, c, h, hc => by cases h; rfl
  | t :: ts, l, rs, vals, more, c, h, hc => by
    rw [evL] at h
    split at h
    · rename_i l1 v l2 rs2 e1 e2
      cases h
      obtain ⟨h1, h2⟩ := ev_len env t l1 v e1
      have hp := size_pos t
      have ih := roots_vals ts l2 rs2 (vals ++ l1) more (c + t.size) e2 (by rw [List.length_append, h1, hc])
      rw [roots, List.map_cons, ← List.append_assoc, ih]
      congr 1
      show (vals ++ l1 ++ l2 ++ more).getD (c + t.size - 1) 0 = v
      rw [getD_lt _ _ 0 (by simp; omega), List.getElem_append_left (by simp; omega), List.getElem_append_left (by simp; omega), List.getElem_append_right (by omega)]
      rw [List.getLast?_eq_getElem?, h1] at h2
      obtain ⟨hlt, h3⟩ := List.getElem?_eq_some_iff.1 h2
      rw [← h3]
      congr 1
      omega
    · cases h
mutual
theorem vals_ok : ∀ (t : T) (l : List Int) (v : Int) (vals : List Int) (r : List S45) (c : Nat), T.ev env t = some (l, v) → vals.length = c → valsFrom env vals (t.flat c ++ r) = valsFrom env (vals ++ l) r
  | .mk op n name ts, l, v, vals, r, c, h, hc => by
    rw [T.ev] at h
    split at h
    · cases h
    · rename_i l0 rs e
      split at h
      · rename_i hz
        cases h
        rw [T.flat, List.append_assoc, valsL_ok ts l0 rs vals _ c e hc, List.singleton_append, valsFrom]
        have hr := roots_vals env ts l0 rs vals [] c e hc
        rw [List.append_nil] at hr
        have hn : nodeV env (vals ++ l0) (⟨op, n, name, roots c ts⟩ : S45) = nodeR env op n name rs := by
          unfold nodeV nodeR
          dsimp only
          rw [hr]
        rw [hn, if_pos hz, List.append_assoc]
      · cases h
theorem valsL_ok : ∀ (ts : List T) (l rs : List Int) (vals : List Int) (r : List S45) (c : Nat), evL env ts = some (l, rs) → vals.length = c → valsFrom env vals (flatL c ts ++ r) = valsFrom env (vals ++ l) r
  | [], l, rs, vals, r, c, h, hc => by cases h; simp [flatL]
  | t :: ts, l, rs, vals, r, c, h, hc => by
    rw [evL] at h
    split at h
    · rename_i l1 v l2 rs2 e1 e2
      cases h
      rw [flatL, List.append_assoc, vals_ok t l1 v vals _ c e1 hc, valsL_ok ts l2 rs2 (vals ++ l1) r (c + t.size) e2 (by rw [List.length_append, (ev_len env t l1 v e1).1, hc]), List.append_assoc]
    · cases h
end
mutual
theorem vals_bad : ∀ (t : T) (vals : List Int) (r : List S45) (c : Nat), T.ev env t = none → vals.length = c → ∃ more, valsFrom env vals (t.flat c ++ r) = vals ++ more ∧ more.length < t.size
  | .mk op n name ts, vals, r, c, h, hc => by
    rw [T.ev] at h
    split at h
    · rename_i e
      obtain ⟨more, h1, h2⟩ := valsL_bad ts vals ([⟨op, n, name, roots c ts⟩] ++ r) c e hc
      refine ⟨more, ?_, by rw [T.size]; omega⟩
      rw [T.flat, List.append_assoc]
      exact h1
    · rename_i l0 rs e
      split at h
      · cases h
      · rename_i hz
        refine ⟨l0, ?_, by rw [evL_len env ts l0 rs e, T.size]; omega⟩
        rw [T.flat, List.append_assoc, valsL_ok env ts l0 rs vals _ c e hc, List.singleton_append, valsFrom]
        have hr := roots_vals env ts l0 rs vals [] c e hc
        rw [List.append_nil] at hr
        have hn : nodeV env (vals ++ l0) (⟨op, n, name, roots c ts⟩ : S45) = nodeR env op n name rs := by
          unfold nodeV nodeR
          dsimp only
          rw [hr]
        rw [hn, if_neg hz]
theorem valsL_bad : ∀ (ts : List T) (vals : List Int) (r : List S45) (c : Nat), evL env ts = none → vals.length = c → ∃ more, valsFrom env vals (flatL c ts ++ r) = vals ++ more ∧ more.length < sizeL ts
  | [], vals, r, c, h, hc => by cases h
  | t :: ts, vals, r, c, h, hc => by
    rw [flatL, List.append_assoc, sizeL]
    cases he : T.ev env t with
    | none =>
      obtain ⟨more, h1, h2⟩ := vals_bad t vals (flatL (c + t.size) ts ++ r) c he hc
      exact ⟨more, h1, by omega⟩
    | some p =>
      obtain ⟨l, v⟩ := p
      have hlen := (ev_len env t l v he).1
      have hL : evL env ts = none := by
        cases hL : evL env ts with
        | none => rfl
        | some q => rw [evL, he, hL] at h; cases h
      obtain ⟨more, h1, h2⟩ := valsL_bad ts (vals ++ l) r (c + t.size) hL (by rw [List.length_append, hlen, hc])
      refine ⟨l ++ more, ?_, by rw [List.length_append, hlen]; omega⟩
      rw [vals_ok env t l v vals _ c he hc, h1, List.append_assoc]
end
end
end Go.Proofs.YtacjjfoelhckcaaDoor.PEvalParts

/- Plain laws over trees, part 5: Eval and Trap of a tree. -/
namespace Go.Proofs.YtacjjfoelhckcaaDoor.PEvalParts
open Go.RowKit Go.Proofs.YtacjjfoelhckcaaDoorW.PrintWords Go.Proofs.YtacjjfoelhckcaaDoorW.PrintMore
set_option linter.unusedVariables false

section
variable (env : List S70)
theorem evalS_some (t : T) (hok : t.ok = true) (hs : t.size ≤ 64) (l : List Int) (v : Int) (h : T.ev env t = some (l, v)) : evalS env (t.flat 0) = (v, 0) ∧ trapS env (t.flat 0) = (0, 11) := by
  have hc := checkE_flat t hok hs
  have hv := vals_ok env t l v [] [] 0 h rfl
  rw [List.append_nil, List.nil_append, valsFrom] at hv
  obtain ⟨h1, h2⟩ := ev_len env t l v h
  have hl := flat_len 0 t
  have hp := size_pos t
  have e : valsOf env (t.flat 0) = l := hv
  rw [evalS, trapS, if_pos hc, if_pos hc, e, if_neg (by omega), if_neg (by omega)]
  refine ⟨?_, rfl⟩
  rw [show ((t.flat 0).length : Int) - 1 = ((t.size - 1 : Nat) : Int) by omega]
  rw [List.getLast?_eq_getElem?, h1] at h2
  obtain ⟨hlt, h3⟩ := List.getElem?_eq_some_iff.1 h2
  have : rd l ((t.size - 1 : Nat) : Int) = l[t.size - 1] := getD_lt _ _ 0 hlt
  rw [this, h3]
theorem evalS_none (t : T) (hok : t.ok = true) (hs : t.size ≤ 64) (h : T.ev env t = none) : evalS env (t.flat 0) = (0, 12) ∧ ∃ m : Nat, m < t.size ∧ trapS env (t.flat 0) = ((m : Int), 0) := by
  have hc := checkE_flat t hok hs
  obtain ⟨more, hv, hm⟩ := vals_bad env t [] [] 0 h rfl
  rw [List.append_nil, List.nil_append] at hv
  have hl := flat_len 0 t
  have e : valsOf env (t.flat 0) = more := hv
  rw [evalS, trapS, if_pos hc, if_pos hc, e, if_pos (by omega), if_pos (by omega)]
  exact ⟨rfl, more.length, hm, rfl⟩
end
end Go.Proofs.YtacjjfoelhckcaaDoor.PEvalParts

/- Plain laws over trees: where trouble lies. -/
namespace Go.Proofs.YtacjjfoelhckcaaDoor.PEvalParts
open Go.RowKit Go.Proofs.YtacjjfoelhckcaaDoorW.PrintWords Go.Proofs.YtacjjfoelhckcaaDoorW.PrintMore
set_option linter.unusedVariables false

section
variable (env : List S70)
theorem trapS_kids (op n : Int) (name : ByteArray) (ts : List T) (hok : (T.mk op n name ts).ok = true) (hs : (T.mk op n name ts).size ≤ 64) (h : evL env ts = none) : ∃ m : Nat, m < sizeL ts ∧ trapS env ((T.mk op n name ts).flat 0) = ((m : Int), 0) := by
  have hc := checkE_flat _ hok hs
  obtain ⟨more, hv, hm⟩ := valsL_bad env ts [] ([⟨op, n, name, roots 0 ts⟩] ++ []) 0 h rfl
  rw [List.append_nil, List.nil_append] at hv
  have hl := flat_len 0 (T.mk op n name ts)
  have e : valsOf env ((T.mk op n name ts).flat 0) = more := hv
  rw [T.size] at hl
  rw [trapS, if_pos hc, e, if_pos (by omega)]
  exact ⟨more.length, hm, rfl⟩
theorem trapS_node (op n : Int) (name : ByteArray) (ts : List T) (hok : (T.mk op n name ts).ok = true) (hs : (T.mk op n name ts).size ≤ 64) (l rs : List Int) (h : evL env ts = some (l, rs)) (hz : (nodeR env op n name rs).2 ≠ 0) : trapS env ((T.mk op n name ts).flat 0) = ((sizeL ts : Int), 0) := by
  have hc := checkE_flat _ hok hs
  have hl := flat_len 0 (T.mk op n name ts)
  have hv : valsOf env ((T.mk op n name ts).flat 0) = l := by
    show valsFrom env [] _ = _
    rw [T.flat, valsL_ok env ts l rs [] _ 0 h rfl, valsFrom]
    have hr := roots_vals env ts l rs [] [] 0 h rfl
    rw [List.append_nil, List.nil_append] at hr
    have hn : nodeV env ([] ++ l) (⟨op, n, name, roots 0 ts⟩ : S45) = nodeR env op n name rs := by
      unfold nodeV nodeR
      dsimp only
      rw [List.nil_append, hr]
    rw [hn, if_neg hz, List.nil_append]
  have hll := evL_len env ts l rs h
  rw [T.size] at hl
  rw [trapS, if_pos hc, hv, if_pos (by omega), hll]
theorem evL_cons_none (t : T) (ts us : List T) (h : T.ev env t = none) : evL env (us ++ t :: ts) = none := by
  induction us with
  | nil => rw [List.nil_append, evL, h]
  | cons a us ih =>
    rw [List.cons_append, evL, ih]
    cases T.ev env a <;> rfl
end
end Go.Proofs.YtacjjfoelhckcaaDoor.PEvalParts

namespace Go.Proofs.YtacjjfoelhckcaaDoor.evalParts
set_option linter.unusedVariables false
open Go.RowKit Go.Proofs.YtacjjfoelhckcaaDoorW.PrintWords PEvalParts

theorem copied_ev (env : List S70) (he : env.length ≤ 5864062014634) : Ev (fun _ => sorrellaw08_copied.f env) env := by
  refine Ev.pure fun k => ?_
  unfold sorrellaw08_copied.f
  rw [Option.bind_some, if_pos (by simp; omega)]
  rfl
theorem awake_ev : Ev (fun k => sorrellaw08_awake.f k) true := by
  unfold sorrellaw08_awake.f
  have hk : ∀ x ∈ [(⟨1, 7, ⟨#[]⟩, []⟩ : S45)], okN (x.f0, x.f1, x.f2, x.f3) := by
    intro x hx
    obtain rfl := List.mem_singleton.1 hx
    exact ⟨(by decide : (Lit.int .i64 1).wf = true), (by decide : (Lit.int .i64 7).wf = true), (by decide : (⟨#[]⟩ : ByteArray).size ≤ 140737488351232), (by decide : ([] : List Int).length * 8 ≤ 140737488351232), by simp⟩
  refine Ev.bind (eval_ev [] _ (by simp) hk) ?_
  have hf : formB 1 7 ⟨#[]⟩ 0 = true := by decide +kernel
  have hc : checkE [(⟨1, 7, ⟨#[]⟩, []⟩ : S45)] = 0 := by
    have hfit : fitsN [] (⟨1, 7, ⟨#[]⟩, []⟩ : S45) = true := by simp [fitsN, formN, hf]
    rw [checkE, if_neg (by simp), checkFrom, if_pos hfit]
    rfl
  have e : evalS [] [(⟨1, 7, ⟨#[]⟩, []⟩ : S45)] = (7, 0) := by
    rw [evalS, if_pos hc]
    rfl
  rw [e]
  exact Ev.pure fun k => rfl
theorem okE_back {t s : T} {b : Nat} (h : At t 0 s b) (hs : t.size ≤ 64) (hk : ∀ x ∈ t.flat 0, okE x) : ∀ x ∈ s.flat 0, okE x := by
  obtain ⟨pre, post, e, h1, h2⟩ := h.split
  intro x hx
  have e2 := flat_moved b s 0
  rw [Nat.zero_add] at e2
  have hm : moved b x ∈ t.flat 0 := by
    rw [e, e2]
    simp only [List.mem_append, List.mem_map]
    exact Or.inl (Or.inr ⟨x, hx, rfl⟩)
  obtain ⟨a, b', c, d, _⟩ := hk _ hm
  refine ⟨a, b', c, ?_, fun k hkk => ?_⟩
  · have : (x.f3.map (· + (b : Int))).length = x.f3.length := by simp
    show x.f3.length * 8 ≤ _
    rw [← this]; exact d
  · have := flat_in s 0 x hx k hkk
    show okI k
    simp [okI, Lit.wf]
    exact (show -9223372036854775808 ≤ k ∧ k ≤ 9223372036854775807 by omega)
/-- Where a kid stands. -/
theorem kid_at (op n : Int) (name : ByteArray) : ∀ (us ts : List T) (j : Nat) (hj : j < ts.length), ∃ b : Nat, At (.mk op n name (us ++ ts)) 0 ts[j] b ∧ (roots (sizeL us) ts)[j]? = some ((b + ts[j].size - 1 : Nat) : Int) := by
  intro us ts
  induction ts generalizing us with
  | nil => intro j hj; simp at hj
  | cons t ts ih =>
    intro j hj
    cases j with
    | zero =>
      refine ⟨sizeL us, ?_, ?_⟩
      · have := At.kid op n name us t ts 0 t (0 + sizeL us) (.here t _)
        rw [Nat.zero_add] at this
        exact this
      · rw [roots]; rfl
    | succ j =>
      obtain ⟨b, h1, h2⟩ := ih (us ++ [t]) j (by simpa using hj)
      refine ⟨b, ?_, ?_⟩
      · rw [List.append_assoc] at h1
        exact h1
      · rw [roots, List.getElem?_cons_succ]
        have : sizeL (us ++ [t]) = sizeL us + t.size := by rw [sizeL_app, sizeL, sizeL, Nat.add_zero]
        rw [this] at h2
        exact h2
section
variable (env : List S70)
theorem evL_pre (us ts : List T) (l rs : List Int) (h : evL env us = some (l, rs)) (t : T) (l' : List Int) (v : Int) (ht : T.ev env t = some (l', v)) : evL env (us ++ [t]) = some (l ++ l', rs ++ [v]) := by
  induction us generalizing l rs with
  | nil =>
    cases h
    rw [List.nil_append, evL, ht, evL]
    simp
  | cons a us ih =>
    rw [evL] at h
    split at h
    · rename_i l1 v1 l2 rs2 e1 e2
      cases h
      rw [List.cons_append, evL, e1, ih l2 rs2 e2]
      simp
    · cases h
theorem loop_ev (l : List S45) (op n : Int) (name : ByteArray) (ts : List T) (hl : l = (T.mk op n name ts).flat 0) (hok : (T.mk op n name ts).ok = true) (hs : (T.mk op n name ts).size ≤ 64) (he : env.length ≤ 5864062014634) (hk : ∀ x ∈ l, okE x) (hen : ∀ b ∈ env, inI b.f1) : ∀ (m j : Nat) (us : List Int) (rs : List Int), ts.length - j ≤ m → j ≤ ts.length → evL env (ts.take j) = some (us, rs) →
    Ev (fun k => sorrellaw08_EvalParts.l0 k l env (evalS env l).1 (evalS env l).2 (trapS env l).1 (trapS env l).2 rs (j : Int) op n name (roots 0 ts)) true := by
  have hlen : l.length ≤ 64 := by rw [hl, flat_len]; exact hs
  have hcp := copy_ev l (by omega) hk
  have hrl := roots_len ts 0
  have hts := len_le_size ts
  have hs' : sizeL ts + 1 ≤ 64 := by rw [T.size] at hs; exact hs
  have hll : l.length = sizeL ts + 1 := by rw [hl, flat_len, T.size]
  have rsl : ∀ (ts : List T) (us rs : List Int), evL env ts = some (us, rs) → rs.length = ts.length := by
    intro ts
    induction ts with
    | nil => intro us rs h; cases h; rfl
    | cons t ts ih =>
      intro us rs h
      rw [evL] at h
      split at h
      · rename_i l1 v1 l2 rs2 e1 e2
        cases h
        rw [List.length_cons, ih l2 rs2 e2, List.length_cons]
      · cases h
  have fin : ∀ (j : Nat) (us rs : List Int), j = ts.length → evL env (ts.take j) = some (us, rs) →
      Ev (fun k => sorrellaw08_EvalParts.l0 k l env (evalS env l).1 (evalS env l).2 (trapS env l).1 (trapS env l).2 rs (j : Int) op n name (roots 0 ts)) true := by
    intro j us rs hj h
    rw [hj, List.take_length] at h
    have hst : Ev (fun k => sorrellaw08_EvalParts.l0 (k + 1) l env (evalS env l).1 (evalS env l).2 (trapS env l).1 (trapS env l).2 rs (j : Int) op n name (roots 0 ts)) true := by
      simp only [sorrellaw08_EvalParts.l0]
      refine Ev.congr (fun k => if_neg (by omega)) ?_
      by_cases hz : (nodeR env op n name rs).2 = 0
      · have hev : T.ev env (.mk op n name ts) = some (us ++ [(nodeR env op n name rs).1], (nodeR env op n name rs).1) := by
          rw [T.ev, h]
          exact if_pos hz
        obtain ⟨h1, h2⟩ := evalS_some env _ hok hs _ _ hev
        rw [← hl] at h1 h2
        rw [h1, h2]
        by_cases o1 : op = 1
        · have e : (nodeR env op n name rs).1 = n := by rw [nodeR, if_pos o1]
          rw [e]
          exact Ev.congr (fun k => if_pos o1) (Ev.pure fun k => by rw [if_pos rfl, if_pos rfl]; rfl)
        · refine Ev.congr (fun k => if_neg o1) ?_
          by_cases o2 : op = 2
          · have e : (nodeR env op n name rs).1 = getL env name := by rw [nodeR, if_neg o1, if_pos o2]
            rw [e]
            refine Ev.congr (fun k => if_pos o2) (Ev.congr (fun k => if_pos rfl) (Ev.bind (copied_ev env he) (Ev.bind (get_ev env name he) ?_)))
            exact Ev.pure fun k => by rw [if_pos rfl]; rfl
          · have e : nodeR env op n name rs = applyZ op rs := by rw [nodeR, if_neg o1, if_neg o2]
            rw [e] at hz ⊢
            refine Ev.congr (fun k => if_neg o2) (Ev.bind (apply_ev op rs) ?_)
            exact Ev.pure fun k => by rw [if_pos hz, if_pos rfl, if_pos rfl]; rfl
      · have o1 : op ≠ 1 := fun o => hz (by rw [nodeR, if_pos o])
        have o2 : op ≠ 2 := fun o => hz (by rw [nodeR, if_neg o1, if_pos o])
        have e : nodeR env op n name rs = applyZ op rs := by rw [nodeR, if_neg o1, if_neg o2]
        have hev : T.ev env (.mk op n name ts) = none := by
          rw [T.ev, h]
          exact if_neg hz
        obtain ⟨h1, _⟩ := evalS_none env _ hok hs hev
        have h2 := trapS_node env op n name ts hok hs us rs h hz
        rw [← hl] at h1 h2
        rw [h1, h2]
        rw [e] at hz
        refine Ev.congr (fun k => if_neg o1) (Ev.congr (fun k => if_neg o2) (Ev.bind (apply_ev op rs) ?_))
        refine Ev.pure fun k => ?_
        rw [if_neg hz, if_pos rfl, if_pos rfl, w64 _ (by omega)]
        simp [hll]
    exact Ev.step (fun _ => rfl) hst
  intro m
  induction m with
  | zero => intro j us rs h1 h2 h; exact fin j us rs (by omega) h
  | succ m ih =>
    intro j us rs h1 h2 h
    by_cases hj : j < ts.length
    · obtain ⟨b, hat, hr⟩ := kid_at op n name [] ts j hj
      rw [List.nil_append] at hat
      have hkid : rd (roots 0 ts) (j : Int) = ((b + (ts[j]).size - 1 : Nat) : Int) := by
        show (roots 0 ts).getD j 0 = _
        rw [List.getD_eq_getElem?_getD]
        have : sizeL ([] : List T) = 0 := rfl
        rw [this] at hr
        rw [hr]; rfl
      have hsok := hat.ok hok
      have hss : (ts[j]).size ≤ 64 := by obtain ⟨_, _, _, _, h3⟩ := hat.split; omega
      have hk0 : ∀ x ∈ (T.mk op n name ts).flat 0, okE x := by rw [← hl]; exact hk
      have hsk := okE_back hat hs hk0
      have hpart := part_ev _ hok hs hk0 _ b hat
      rw [← hl, ← hkid] at hpart
      have hst : Ev (fun k => sorrellaw08_EvalParts.l0 (k + 1) l env (evalS env l).1 (evalS env l).2 (trapS env l).1 (trapS env l).2 rs (j : Int) op n name (roots 0 ts)) true := by
        simp only [sorrellaw08_EvalParts.l0]
        refine Ev.congr (fun k => if_pos (by omega)) ?_
        refine Ev.bind hcp (Ev.congr (fun k => if_pos (by omega)) ?_)
        refine Ev.bind hpart (Ev.bind (copied_ev env he) (Ev.bind (eval_ev env _ he hsk) ?_))
        cases hv : T.ev env ts[j] with
        | none =>
          have es := (evalS_none env _ hsok hss hv).1
          rw [es]
          have hn : evL env ts = none := by
            have e1 : ts = ts.take j ++ ts[j] :: ts.drop (j + 1) := by
              rw [← List.drop_eq_getElem_cons hj, List.take_append_drop]
            rw [e1]
            exact evL_cons_none env _ _ _ hv
          obtain ⟨p, hp, h3⟩ := trapS_kids env op n name ts hok hs hn
          have hev : T.ev env (.mk op n name ts) = none := by rw [T.ev, hn]
          obtain ⟨h4, _⟩ := evalS_none env _ hok hs hev
          rw [← hl] at h3 h4
          rw [h3, h4]
          refine Ev.pure fun k => ?_
          rw [if_neg (by decide), if_pos rfl, if_pos rfl, w64 _ (by omega)]
          simp [hll, hp]
        | some q =>
          obtain ⟨l', v⟩ := q
          have es := (evalS_some env _ hsok hss l' v hv).1
          rw [es]
          have h5 := evL_pre env (ts.take j) ts us rs h ts[j] l' v hv
          rw [List.take_append_getElem hj] at h5
          have h6 := rsl _ _ _ h
          have go := ih (j + 1) _ _ (by omega) (by omega) h5
          refine Ev.congr (fun k => if_pos rfl) (Ev.congr (fun k => if_pos (by rw [h6, List.length_take]; omega)) ?_)
          rw [w64 _ (by omega)]
          exact go
      exact Ev.step (fun _ => rfl) hst
    · exact fin j us rs (by omega) h
end
theorem law_ev (l : List S45) (env : List S70) (hlen : l.length ≤ 2513169434843) (he : env.length ≤ 5864062014634) (hk : ∀ x ∈ l, okE x) (hen : ∀ b ∈ env, inI b.f1) : Ev (fun k => sorrellaw08_EvalParts.f k l env) true := by
  unfold sorrellaw08_EvalParts.f
  have hcp := copy_ev l hlen hk
  refine Ev.bind awake_ev (Ev.congr (fun k => if_pos rfl) ?_)
  refine Ev.bind hcp (Ev.bind (copied_ev env he) (Ev.bind (eval_ev env l he hk) (Ev.bind hcp (Ev.bind (copied_ev env he) (Ev.bind (trap_ev env l he hk) (Ev.bind hcp (Ev.bind (check_ev l hk) ?_)))))))
  by_cases hc : checkE l = 0
  · obtain ⟨t, hok, hs, hl⟩ := checkE_tree hc
    cases t with
    | mk op n name ts =>
      have hll : l.length = sizeL ts + 1 := by rw [hl, flat_len, T.size]
      have hs' : sizeL ts + 1 ≤ 64 := by rw [T.size] at hs; exact hs
      have e1 : wrap64 ((l.length : Int) - 1) = (sizeL ts : Int) := by rw [w64 _ (by omega)]; omega
      have e2 : rd_T45 l (sizeL ts : Int) = ⟨op, n, name, roots 0 ts⟩ := by
        have h3 : sizeL ts < l.length := by omega
        refine (getD_lt l _ _ h3).trans ?_
        subst hl
        simp only [T.flat]
        rw [List.getElem_append_right (by rw [flatL_len]; exact Nat.le_refl _)]
        simp
      rw [e1, e2]
      refine Ev.congr (fun k => if_pos hc) (Ev.congr (fun k => if_pos (by omega)) (Ev.congr (fun k => if_pos (by omega)) ?_))
      exact loop_ev env l op n name ts hl hok hs he hk hen _ 0 [] [] (Nat.le_refl _) (by omega) rfl
  · have e1 : evalS env l = (0, 1) := by rw [evalS, if_neg hc]
    have e2 : trapS env l = (0, 1) := by rw [trapS, if_neg hc]
    rw [e1, e2]
    exact Ev.congr (fun k => if_neg hc) (Ev.pure fun k => rfl)
theorem pure (l : List S45) (h : okR 56 (fun x : S45 => okN (x.f0, x.f1, x.f2, x.f3)) l) (env : List S70) (h2 : okR 24 (fun x : S70 => okS x.f0 ∧ okI x.f1) env) : ∃ k, sorrellaw08_EvalParts.f k l env = some true :=
  (law_ev l env (by have := h.1; omega) (by have := h2.1; omega) h.2 (fun b hb => okI.bounds (h2.2 b hb).2)).rounds
end Go.Proofs.YtacjjfoelhckcaaDoor.evalParts
