/- The plain law of ExprPuts. -/
import Derived.Test.YtacjjfoelhckcaaDoorPExprPutsx
import Derived.Test.YtacjjfoelhckcaaDoorM2
import Derived.Test.YtacjjfoelhckcaaDoorO2
/- Plain laws, part 1: operators, sound nodes, rows of numbers, the check of a text of nodes (by the open ones; by walking). -/
namespace Go.Proofs.YtacjjfoelhckcaaDoor.PExprPuts
open Go.RowKit Go.Proofs.YtacjjfoelhckcaaDoorW.PrintWords
set_option linter.unusedVariables false

theorem arity_ev (a : Int) : Ev (fun k => expr_Arity.f k a) (arE a) := by
  refine Ev.step (f := fun k => expr_Arity.f (k + 1) a) (fun _ => rfl) (Ev.last fun k => ?_)
  simp only [expr_Arity.f, expr_Arity.j0, expr_Arity.j1, arE, arityZ]
  repeat' split
  all_goals simp_all
  all_goals omega
theorem sound_ev (op n : Int) (name : ByteArray) (kids : List Int) : Ev (fun k => expr_sound.f k op n name kids) (formB op n name kids.length) := by
  unfold expr_sound.f
  refine Ev.bind (arity_ev op) ?_
  refine Ev.last fun k => ?_
  have := arityZ_bounds op
  simp only [arE, formB, expr_sound.j0, runes_Name.f]
  repeat' split
  all_goals simp_all
  all_goals omega
theorem equal_loop (a b : List Int) (hl : a.length = b.length) (hb : a.length ≤ 9223372036854775806) : ∀ (n i : Nat), a.length - i ≤ n → i ≤ a.length →
    Ev (fun k => slices_Equal_int_int.l0 k a b (a.length : Int) (i : Int)) (decide (a.drop i = b.drop i)) := by
  intro n
  induction n with
  | zero =>
    intro i h1 h2
    refine Ev.last fun k => ?_
    rw [slices_Equal_int_int.l0, if_neg (by omega), List.drop_eq_nil_of_le (by omega), List.drop_eq_nil_of_le (by omega)]
    rfl
  | succ n ih =>
    intro i h1 h2
    by_cases hi : i < a.length
    · rw [List.drop_eq_getElem_cons hi, List.drop_eq_getElem_cons (by omega : i < b.length)]
      have ea : rd a (i : Int) = a[i] := getD_lt a i 0 hi
      have eb : rd b (i : Int) = b[i] := getD_lt b i 0 (by omega)
      by_cases he : a[i] = b[i]
      · refine Ev.step (f := fun k => slices_Equal_int_int.l0 k a b (a.length : Int) ((i + 1 : Nat) : Int)) (fun k => ?_) ?_
        · rw [slices_Equal_int_int.l0, if_pos (by omega), if_pos (by omega), if_pos (by omega), if_pos (by omega), ea, eb, if_pos he, w64 _ (by omega)]; rfl
        · have := ih (i + 1) (by omega) (by omega)
          simpa only [List.cons.injEq, he, true_and] using this
      · refine Ev.last fun k => ?_
        rw [slices_Equal_int_int.l0, if_pos (by omega), if_pos (by omega), if_pos (by omega), if_pos (by omega), ea, eb, if_neg he]
        simp only [List.cons.injEq, he, false_and, decide_false]
    · refine Ev.last fun k => ?_
      rw [slices_Equal_int_int.l0, if_neg (by omega), List.drop_eq_nil_of_le (by omega), List.drop_eq_nil_of_le (by omega)]
      rfl
theorem equal_ev (a b : List Int) (hb : a.length ≤ 9223372036854775806) : Ev (fun k => slices_Equal_int_int.f k a b) (decide (a = b)) := by
  unfold slices_Equal_int_int.f
  by_cases hl : a.length = b.length
  · refine Ev.congr (fun k => if_pos (by omega)) ?_
    have := equal_loop a b hl hb _ 0 (Nat.le_refl _) (by omega)
    simpa using this
  · refine Ev.congr (fun k => if_neg (by omega)) ?_
    have : a ≠ b := fun h => hl (by rw [h])
    simp only [this, decide_false]
    exact Ev.now _

/-! ### the check by the open ones -/
def formN (x : S45) : Bool := formB x.f0 x.f1 x.f2 x.f3.length
def fitsN (st : List Int) (x : S45) : Bool := formN x && decide (x.f3.length ≤ st.length) && decide (st.drop (st.length - x.f3.length) = x.f3)
def checkFrom (st : List Int) (i : Nat) : List S45 → Int
  | [] => if st.length = 1 then 0 else 1
  | x :: r => if fitsN st x = true then checkFrom (st.take (st.length - x.f3.length) ++ [(i : Int)]) (i + 1) r else 1
def checkE (l : List S45) : Int := if l.length < 1 ∨ 64 < l.length then 1 else checkFrom [] 0 l
theorem check_loop (l : List S45) (hl : l.length ≤ 64) (hk : ∀ x ∈ l, okN (x.f0, x.f1, x.f2, x.f3)) : ∀ (n i : Nat) (st : List Int), l.length - i ≤ n → i ≤ l.length → st.length ≤ i →
    Ev (fun k => expr_Check.l0 k st l (l.length : Int) (i : Int)) (checkFrom st i (l.drop i)) := by
  intro n
  induction n with
  | zero =>
    intro i st h1 h2 h3
    refine Ev.last fun k => ?_
    rw [expr_Check.l0, if_neg (by omega), List.drop_eq_nil_of_le (by omega), checkFrom]
    split <;> split <;> first | rfl | omega
  | succ n ih =>
    intro i st h1 h2 h3
    by_cases hi : i < l.length
    · rw [List.drop_eq_getElem_cons hi, checkFrom]
      have ea : rd_T45 l (i : Int) = l[i] := getD_lt l i _ hi
      have hx := hk _ (List.getElem_mem hi)
      have hkid : (l[i]).f3.length ≤ 17592186043904 := by have := hx.2.2.2.1; dsimp only at this; omega
      generalize hxx : l[i] = x at *
      refine Ev.step (f := fun k => (expr_sound.f k x.f0 x.f1 x.f2 x.f3).bind fun t109 => (if t109 = true then (expr_Check.j2 k st i l (l.length : Int) i (decide ((x.f3.length : Int) > (st.length : Int))) x.f0 x.f1 x.f2 x.f3) else (expr_Check.j2 k st i l (l.length : Int) i true x.f0 x.f1 x.f2 x.f3))) (fun k => ?_) ?_
      · rw [expr_Check.l0, if_pos (by omega), if_pos (by omega), if_pos (by omega), ea]
      refine Ev.bind (sound_ev x.f0 x.f1 x.f2 x.f3) ?_
      by_cases hf : formB x.f0 x.f1 x.f2 x.f3.length = true
      · refine Ev.congr (fun k => if_pos hf) ?_
        by_cases hc : x.f3.length ≤ st.length
        · have e1 : wrap64 ((st.length : Int) - (x.f3.length : Int)) = ((st.length - x.f3.length : Nat) : Int) := by rw [w64 _ (by omega)]; omega
          have e2 : (decide ((x.f3.length : Int) > (st.length : Int))) = false := by simp; omega
          by_cases hd : st.drop (st.length - x.f3.length) = x.f3
          · have e3 : fitsN st x = true := by simp [fitsN, formN, hf, hc, hd]
            rw [if_pos e3]
            refine Ev.step (f := fun k => (slices_Equal_int_int.f k (st.drop (st.length - x.f3.length)) x.f3).bind fun t114 => (if t114 = true then ((some (st.take (st.length - x.f3.length) : List Int)).bind fun y115 => (if y115.length < 17592186044416 then (expr_Check.l0 k (y115 ++ [(i : Int)]) l (l.length : Int) (wrap64 ((i : Int) + 1))) else (none))) else (some 1))) (fun k => ?_) ?_
            · rw [expr_Check.j2, e2, if_neg (by simp), e1, if_pos (by omega), if_pos (by omega)]
              rfl
            refine Ev.bind (equal_ev _ _ (by rw [List.length_drop]; omega)) ?_
            have e4 : decide (st.drop (st.length - x.f3.length) = x.f3) = true := by simpa using hd
            refine Ev.congr (fun k => if_pos e4) ?_
            refine Ev.congr (f := fun k => expr_Check.l0 k (st.take (st.length - x.f3.length) ++ [(i : Int)]) l (l.length : Int) ((i + 1 : Nat) : Int)) (fun k => ?_) ?_
            · rw [Option.bind_some, if_pos (by rw [List.length_take]; omega), w64 _ (by omega)]; rfl
            · exact ih (i + 1) _ (by omega) (by omega) (by rw [List.length_append, List.length_take]; simp; omega)
          · have e3 : ¬ fitsN st x = true := by simp [fitsN, hd]
            rw [if_neg e3]
            refine Ev.step (f := fun k => (slices_Equal_int_int.f k (st.drop (st.length - x.f3.length)) x.f3).bind fun t114 => (if t114 = true then ((some (st.take (st.length - x.f3.length) : List Int)).bind fun y115 => (if y115.length < 17592186044416 then (expr_Check.l0 k (y115 ++ [(i : Int)]) l (l.length : Int) (wrap64 ((i : Int) + 1))) else (none))) else (some 1))) (fun k => ?_) ?_
            · rw [expr_Check.j2, e2, if_neg (by simp), e1, if_pos (by omega), if_pos (by omega)]
              rfl
            refine Ev.bind (equal_ev _ _ (by rw [List.length_drop]; omega)) ?_
            have e4 : ¬ decide (st.drop (st.length - x.f3.length) = x.f3) = true := by simpa using hd
            exact Ev.congr (fun k => if_neg e4) (Ev.now _)
        · have e3 : ¬ fitsN st x = true := by simp [fitsN, hc]
          rw [if_neg e3]
          refine Ev.last fun k => ?_
          rw [expr_Check.j2, if_pos (by simp; omega)]
      · have e3 : ¬ fitsN st x = true := by simp [fitsN, formN, hf]
        rw [if_neg e3]
        refine Ev.congr (fun k => if_neg hf) ?_
        refine Ev.last fun k => ?_
        rw [expr_Check.j2, if_pos rfl]
    · refine Ev.last fun k => ?_
      rw [expr_Check.l0, if_neg (by omega), List.drop_eq_nil_of_le (by omega), checkFrom]
      split <;> split <;> first | rfl | omega
theorem check_ev (l : List S45) (hk : ∀ x ∈ l, okN (x.f0, x.f1, x.f2, x.f3)) : Ev (fun k => expr_Check.f k l) (checkE l) := by
  unfold expr_Check.f checkE
  by_cases h1 : l.length < 1
  · rw [if_pos (Or.inl h1)]
    refine Ev.congr (fun k => if_pos (by omega)) (Ev.last fun k => ?_)
    rw [expr_Check.j0, if_pos rfl]
  · refine Ev.congr (fun k => if_neg (by omega)) ?_
    by_cases h2 : 64 < l.length
    · rw [if_pos (Or.inr h2)]
      refine Ev.last fun k => ?_
      rw [expr_Check.j0, if_pos (by simp; omega)]
    · rw [if_neg (by omega)]
      refine Ev.step (f := fun k => expr_Check.l0 k [] l (l.length : Int) ((0 : Nat) : Int)) (fun k => ?_) ?_
      · rw [expr_Check.j0, if_neg (by simp; omega)]; rfl
      · exact check_loop l (by omega) hk _ 0 [] (Nat.le_refl _) (by omega) (by simp)
end Go.Proofs.YtacjjfoelhckcaaDoor.PExprPuts

/- Plain laws, part 2: the check of a text of nodes by walking; it answers as the check by the open ones. -/
namespace Go.Proofs.YtacjjfoelhckcaaDoor.PExprPuts
open Go.RowKit Go.Proofs.YtacjjfoelhckcaaDoorW.PrintWords
set_option linter.unusedVariables false

/-- Walking from r comes to v. -/
def Wk (l : List S45) (r v : Int) : Prop := Ev (fun k => sorrelref02_walk.f k l r) v
def Good (l : List S45) (i : Int) : Prop := ∃ u, Wk l i u ∧ u ≠ -2
theorem wk_neg (l : List S45) (r : Int) (h : r < 0) : Wk l r (-2) := by
  refine Ev.last fun k => ?_
  rw [sorrelref02_walk.f, if_pos h]
/-- One kid of those that are left. -/
theorem kid_ne (l : List S45) (kids : List Int) (hk : kids.length ≤ 17592186043904) (m : Nat) (hm : m < kids.length) (at' : Int) (hne : kids[m] ≠ at') : Ev (fun k => sorrelref02_walk.l0 k l at' kids (m : Int)) (-2) := by
  have ea : rd kids (m : Int) = kids[m] := getD_lt kids m 0 hm
  refine Ev.last fun k => ?_
  rw [sorrelref02_walk.l0, if_pos (by omega), if_pos (by omega), if_pos (by omega), ea, if_neg hne]
theorem kid_bad (l : List S45) (kids : List Int) (hk : kids.length ≤ 17592186043904) (m : Nat) (hm : m < kids.length) (hw : Wk l kids[m] (-2)) : Ev (fun k => sorrelref02_walk.l0 k l kids[m] kids (m : Int)) (-2) := by
  have ea : rd kids (m : Int) = kids[m] := getD_lt kids m 0 hm
  refine Ev.step (f := fun k => (sorrelref02_walk.f k l kids[m]).bind fun t172 => (if t172 = (-2) then (some (-2)) else (sorrelref02_walk.l0 k l t172 kids (wrap64 ((m : Int) - 1))))) (fun k => ?_) (Ev.bind hw ?_)
  · rw [sorrelref02_walk.l0, if_pos (by omega), if_pos (by omega), if_pos (by omega), ea, if_pos rfl]
  · exact Ev.congr (fun k => if_pos rfl) (Ev.now _)
theorem kid_on (l : List S45) (kids : List Int) (hk : kids.length ≤ 17592186043904) (m : Nat) (hm : m < kids.length) {u v : Int} (hw : Wk l kids[m] u) (hu : u ≠ -2) (hv : Ev (fun k => sorrelref02_walk.l0 k l u kids ((m : Int) - 1)) v) :
    Ev (fun k => sorrelref02_walk.l0 k l kids[m] kids (m : Int)) v := by
  have ea : rd kids (m : Int) = kids[m] := getD_lt kids m 0 hm
  refine Ev.step (f := fun k => (sorrelref02_walk.f k l kids[m]).bind fun t172 => (if t172 = (-2) then (some (-2)) else (sorrelref02_walk.l0 k l t172 kids (wrap64 ((m : Int) - 1))))) (fun k => ?_) (Ev.bind hw ?_)
  · rw [sorrelref02_walk.l0, if_pos (by omega), if_pos (by omega), if_pos (by omega), ea, if_pos rfl]
  · refine Ev.congr (fun k => if_neg hu) ?_
    rw [w64 _ (by omega)]
    exact hv
theorem kid_end (l : List S45) (kids : List Int) (at' j : Int) (h : j < 0) : Ev (fun k => sorrelref02_walk.l0 k l at' kids j) at' := by
  refine Ev.last fun k => ?_
  rw [sorrelref02_walk.l0, if_neg (by omega)]
/-- A node: its kids, from the last. -/
theorem wk_node (l : List S45) (hl : l.length ≤ 64) (r : Nat) (hr : r < l.length) (hk : (l[r]).f3.length ≤ 17592186043904) {v : Int} (h : Ev (fun k => sorrelref02_walk.l0 k l ((r : Int) - 1) (l[r]).f3 (((l[r]).f3.length : Int) - 1)) v) : Wk l r v := by
  have ea : rd_T45 l (r : Int) = l[r] := getD_lt l r _ hr
  refine Ev.step (f := fun k => sorrelref02_walk.l0 k l ((r : Int) - 1) (l[r]).f3 (((l[r]).f3.length : Int) - 1)) (fun k => ?_) h
  rw [sorrelref02_walk.f, if_neg (by omega), if_pos (by omega), if_pos (by omega), ea, w64 ((r : Int) - 1) (by omega), w64 (((l[r]).f3.length : Int) - 1) (by omega)]

/-- A walk ends; what it has passed are nodes from which walking goes well. -/
theorem walk_ends (l : List S45) (hl : l.length ≤ 64) (hk : ∀ x ∈ l, okN (x.f0, x.f1, x.f2, x.f3)) : ∀ (n : Nat) (r : Int), r < n → r < l.length → ∃ v, Wk l r v ∧ (v = -2 ∨ (-1 ≤ v ∧ v < r ∧ ∀ i, v < i → i ≤ r → Good l i)) := by
  intro n
  induction n with
  | zero => intro r h _; exact ⟨-2, wk_neg l r (by omega), .inl rfl⟩
  | succ n ih =>
    intro r h hrl
    by_cases h0 : r < 0
    · exact ⟨-2, wk_neg l r h0, .inl rfl⟩
    obtain ⟨r, rfl⟩ : ∃ q : Nat, r = q := ⟨r.toNat, by omega⟩
    have hlt : r < l.length := by omega
    have hkid : (l[r]).f3.length ≤ 17592186043904 := by have := (hk _ (List.getElem_mem hlt)).2.2.2.1; dsimp only at this; omega
    have inner : ∀ (m : Nat) (at' : Int), m ≤ (l[r]).f3.length → -1 ≤ at' → at' ≤ r - 1 → (∀ i, at' < i → i ≤ r - 1 → Good l i) →
        ∃ v, Ev (fun k => sorrelref02_walk.l0 k l at' (l[r]).f3 ((m : Int) - 1)) v ∧ (v = -2 ∨ (-1 ≤ v ∧ v ≤ at' ∧ ∀ i, v < i → i ≤ r - 1 → Good l i)) := by
      intro m
      induction m with
      | zero => intro at' _ h1 h2 h3; exact ⟨at', kid_end l _ at' _ (by omega), .inr ⟨h1, Int.le_refl _, h3⟩⟩
      | succ m ihm =>
        intro at' hm h1 h2 h3
        have em : ((m + 1 : Nat) : Int) - 1 = (m : Int) := by omega
        rw [em]
        by_cases he : (l[r]).f3[m] = at'
        · obtain ⟨u, hu, hu2⟩ := ih at' (by omega) (by omega)
          subst he
          rcases hu2 with rfl | ⟨g1, g2, g3⟩
          · exact ⟨-2, kid_bad l _ hkid m (by omega) hu, .inl rfl⟩
          · have hne : u ≠ -2 := by omega
            obtain ⟨v, hv, hv2⟩ := ihm u (by omega) g1 (by omega) (fun i hi1 hi2 => by
              by_cases hc : i ≤ (l[r]).f3[m]
              · exact g3 i hi1 hc
              · exact h3 i (by omega) hi2)
            refine ⟨v, kid_on l _ hkid m (by omega) hu hne hv, ?_⟩
            rcases hv2 with rfl | ⟨k1, k2, k3⟩
            · exact .inl rfl
            · exact .inr ⟨k1, by omega, k3⟩
        · exact ⟨-2, kid_ne l _ hkid m (by omega) at' he, .inl rfl⟩
    obtain ⟨v, hv, hv2⟩ := inner _ ((r : Int) - 1) (Nat.le_refl _) (by omega) (Int.le_refl _) (fun i h1 h2 => by omega)
    have hw := wk_node l hl r hlt hkid hv
    refine ⟨v, hw, ?_⟩
    rcases hv2 with rfl | ⟨g1, g2, g3⟩
    · exact .inl rfl
    · refine .inr ⟨g1, by omega, fun i h1 h2 => ?_⟩
      by_cases hc : i = r
      · subst hc; exact ⟨v, hw, by omega⟩
      · exact g3 i h1 (by omega)

/-- The open ones, the last first: each is where walking from the one before it comes to. -/
def Ch (l : List S45) : List Int → Int → Prop
  | [], a => a = -1
  | t :: ts, a => t = a ∧ 0 ≤ t ∧ ∃ u, Wk l t u ∧ u ≠ -2 ∧ Ch l ts u
theorem ch_ne {l : List S45} {rs : List Int} {a : Int} (h : Ch l rs a) : a ≠ -2 := by
  cases rs with
  | nil => have : a = -1 := h; omega
  | cons t ts => have := h.1; have := h.2.1; omega
theorem kids_walk (l : List S45) (kids : List Int) (hk : kids.length ≤ 17592186043904) : ∀ (m : Nat) (rs : List Int) (a : Int), m ≤ kids.length → Ch l rs a →
    (rs.take m = (kids.take m).reverse ∧ ∃ u, Ev (fun k => sorrelref02_walk.l0 k l a kids ((m : Int) - 1)) u ∧ Ch l (rs.drop m) u) ∨
    (rs.take m ≠ (kids.take m).reverse ∧ Ev (fun k => sorrelref02_walk.l0 k l a kids ((m : Int) - 1)) (-2)) := by
  intro m
  induction m with
  | zero => intro rs a _ h; exact .inl ⟨rfl, a, kid_end l _ a _ (by omega), h⟩
  | succ m ih =>
    intro rs a hm h
    have em : ((m + 1 : Nat) : Int) - 1 = (m : Int) := by omega
    have et : (kids.take (m + 1)).reverse = kids[m] :: (kids.take m).reverse := by rw [List.take_succ_eq_append_getElem (by omega), List.reverse_append]; rfl
    rw [em, et]
    by_cases he : kids[m] = a
    · cases rs with
      | nil =>
        have ha : a = -1 := h
        refine .inr ⟨by simp, ?_⟩
        subst he
        exact kid_bad l kids hk m (by omega) (wk_neg l _ (by omega))
      | cons t ts =>
        obtain ⟨h1, h2, u, hu, hne, hc⟩ := h
        subst h1
        rcases ih ts u (by omega) hc with ⟨e, v, hv, hcv⟩ | ⟨e, hv⟩
        · refine .inl ⟨by simp [e, he], v, ?_, hcv⟩
          rw [← he] at hu ⊢
          exact kid_on l kids hk m (by omega) hu hne hv
        · refine .inr ⟨by simp [e], ?_⟩
          rw [← he] at hu ⊢
          exact kid_on l kids hk m (by omega) hu hne hv
    · refine .inr ⟨?_, kid_ne l kids hk m (by omega) a he⟩
      cases rs with
      | nil => simp
      | cons t ts =>
        have : t = a := h.1
        simp
        intro h'
        omega
/-- The check by the open ones, where all nodes are sound: by walking from the last. -/
theorem check_walk (l : List S45) (h1l : 1 ≤ l.length) (hl : l.length ≤ 64) (hk : ∀ x ∈ l, okN (x.f0, x.f1, x.f2, x.f3)) (hf : ∀ x ∈ l, formN x = true) (v : Int) (hv : Wk l ((l.length : Int) - 1) v)
    (hg : v = -1 → ∀ i : Int, -1 < i → i ≤ (l.length : Int) - 1 → Good l i) : ∀ (n i : Nat) (st : List Int), l.length - i ≤ n → i ≤ l.length → Ch l st.reverse ((i : Int) - 1) → checkFrom st i (l.drop i) = if v = -1 then 0 else 1 := by
  have done : ∀ (st : List Int), Ch l st.reverse ((l.length : Int) - 1) → (if st.length = 1 then (0 : Int) else 1) = if v = -1 then 0 else 1 := by
    intro st hc
    have e : st.length = st.reverse.length := by simp
    rw [e]
    clear e
    generalize st.reverse = rs at hc
    cases rs with
    | nil => have : (l.length : Int) - 1 = -1 := hc; omega
    | cons t ts =>
      obtain ⟨e1, e2, u, hu, hne, hc⟩ := hc
      subst e1
      have := Ev.one hu hv
      subst this
      cases ts with
      | nil => have : u = -1 := hc; simp [this]
      | cons t2 ts => have e3 := hc.1; have e4 := hc.2.1; rw [if_neg (by simp), if_neg (by omega)]
  intro n
  induction n with
  | zero =>
    intro i st h1 h2 hc
    have e : i = l.length := by omega
    subst e
    rw [List.drop_eq_nil_of_le (by omega), checkFrom]
    exact done st hc
  | succ n ih =>
    intro i st h1 h2 hc
    by_cases hi : i < l.length
    · rw [List.drop_eq_getElem_cons hi, checkFrom]
      have hkid : (l[i]).f3.length ≤ 17592186043904 := by have := (hk _ (List.getElem_mem hi)).2.2.2.1; dsimp only at this; omega
      have hform := hf _ (List.getElem_mem hi)
      have key := kids_walk l (l[i]).f3 hkid (l[i]).f3.length st.reverse ((i : Int) - 1) (Nat.le_refl _) hc
      rw [List.take_length] at key
      have hfit : fitsN st l[i] = true ↔ st.reverse.take (l[i]).f3.length = (l[i]).f3.reverse := by
        rw [fitsN, hform]
        simp only [Bool.true_and, Bool.and_eq_true, decide_eq_true_eq]
        rw [List.take_reverse]
        constructor
        · rintro ⟨_, e⟩; rw [e]
        · intro e
          have e' := List.reverse_inj.1 e
          refine ⟨?_, e'⟩
          have := congrArg List.length e'
          rw [List.length_drop] at this
          omega
      rcases key with ⟨e, u, hu, hcu⟩ | ⟨e, hu⟩
      · rw [if_pos (hfit.2 e)]
        refine ih (i + 1) _ (by omega) (by omega) ?_
        rw [List.reverse_append]
        refine ⟨by simp, by simp, u, wk_node l hl i hi hkid hu, ch_ne hcu, ?_⟩
        rw [List.drop_reverse] at hcu
        exact hcu
      · rw [if_neg (fun h => e (hfit.1 h))]
        have hw := wk_node l hl i hi hkid hu
        rw [if_neg]
        intro hv1
        obtain ⟨u, hu1, hu2⟩ := hg hv1 i (by omega) (by omega)
        exact hu2 (Ev.one hu1 hw)
    · have e : i = l.length := by omega
      subst e
      rw [List.drop_eq_nil_of_le (by omega), checkFrom]
      exact done st hc
theorem check_bad : ∀ (r : List S45) (st : List Int) (i : Nat), (∃ x ∈ r, ¬ formN x = true) → checkFrom st i r = 1 := by
  intro r
  induction r with
  | nil => rintro st i ⟨x, hx, _⟩; cases hx
  | cons x r ih =>
    rintro st i ⟨y, hy, hn⟩
    rw [checkFrom]
    split
    · rename_i hfit
      refine ih _ _ ⟨y, ?_, hn⟩
      rcases List.mem_cons.1 hy with rfl | hy
      · exact absurd (by simp [fitsN] at hfit; exact hfit.1.1) hn
      · exact hy
    · rfl
theorem refCheck_loop (l : List S45) (h1l : 1 ≤ l.length) (hl : l.length ≤ 64) (hk : ∀ x ∈ l, okN (x.f0, x.f1, x.f2, x.f3)) : ∀ (n i : Nat), l.length - i ≤ n → i ≤ l.length → (∀ x ∈ l.take i, formN x = true) →
    Ev (fun k => sorrelref02_Check.l0 k l (i : Int)) (checkFrom [] 0 l) := by
  have fin : ∀ i, i ≤ l.length → l.length ≤ i → (∀ x ∈ l.take i, formN x = true) → Ev (fun k => sorrelref02_Check.l0 k l (i : Int)) (checkFrom [] 0 l) := by
    intro i h2 h3 hf
    have e : i = l.length := by omega
    subst e
    rw [List.take_length] at hf
    obtain ⟨v, hv, hv2⟩ := walk_ends l hl hk l.length ((l.length : Int) - 1) (by omega) (by omega)
    have h := check_walk l h1l hl hk hf v hv (fun e i a b => by
      rcases hv2 with rfl | ⟨_, _, g⟩
      · omega
      · exact g i (by omega) b) l.length 0 [] (by omega) (by omega) (by show ((0 : Nat) : Int) - 1 = -1; omega)
    rw [List.drop_zero] at h
    rw [h]
    refine Ev.step (f := fun k => (sorrelref02_walk.f k l ((l.length : Int) - 1)).bind fun t175 => (if t175 = (-1) then (some 0) else (some 1))) (fun k => ?_) (Ev.bind hv ?_)
    · rw [sorrelref02_Check.l0, if_neg (by omega), w64 _ (by omega)]
    · refine Ev.pure fun k => ?_
      split <;> rfl
  intro n
  induction n with
  | zero => intro i h1 h2 hf; exact fin i h2 (by omega) hf
  | succ n ih =>
    intro i h1 h2 hf
    by_cases hi : i < l.length
    · have ea : rd_T45 l (i : Int) = l[i] := getD_lt l i _ hi
      have hx := hk _ (List.getElem_mem hi)
      have ef := form_eq (l[i]).f0 (l[i]).f1 (l[i]).f2 (l[i]).f3 hx.2.2.1
      by_cases hform : formN l[i] = true
      · refine Ev.step (f := fun k => sorrelref02_Check.l0 k l ((i + 1 : Nat) : Int)) (fun k => ?_) (ih (i + 1) (by omega) (by omega) ?_)
        · have hform' : formB (l[i]).f0 (l[i]).f1 (l[i]).f2 (l[i]).f3.length = true := hform
          rw [sorrelref02_Check.l0, if_pos (by omega), if_pos (by omega), ea, ef, Option.bind_some, if_pos hform', w64 _ (by omega)]; rfl
        · intro x hx
          rw [List.take_succ_eq_append_getElem hi, List.mem_append] at hx
          rcases hx with hx | hx
          · exact hf x hx
          · obtain rfl : x = l[i] := by simpa using hx
            exact hform
      · rw [check_bad l [] 0 ⟨_, List.getElem_mem hi, hform⟩]
        have hform' : ¬ formB (l[i]).f0 (l[i]).f1 (l[i]).f2 (l[i]).f3.length = true := hform
        refine Ev.last fun k => ?_
        rw [sorrelref02_Check.l0, if_pos (by omega), if_pos (by omega), ea, ef, Option.bind_some, if_neg hform']
    · exact fin i h2 (by omega) hf
theorem refCheck_ev (l : List S45) (hk : ∀ x ∈ l, okN (x.f0, x.f1, x.f2, x.f3)) (hb : l.length ≤ 2513169434843) : Ev (fun k => sorrelref02_Check.f k l) (checkE l) := by
  unfold sorrelref02_Check.f checkE
  by_cases h1 : l.length < 1
  · rw [if_pos (Or.inl h1)]
    refine Ev.congr (fun k => if_pos (by omega)) (Ev.last fun k => ?_)
    rw [sorrelref02_Check.j0, if_pos rfl]
  · refine Ev.congr (fun k => if_neg (by omega)) ?_
    by_cases h2 : 64 < l.length
    · rw [if_pos (Or.inr h2)]
      refine Ev.last fun k => ?_
      rw [sorrelref02_Check.j0, if_pos (by simp; omega)]
    · rw [if_neg (by omega)]
      refine Ev.step (f := fun k => sorrelref02_Check.l0 k l ((0 : Nat) : Int)) (fun k => ?_) ?_
      · rw [sorrelref02_Check.j0, if_neg (by simp; omega)]; rfl
      · exact refCheck_loop l (by omega) (by omega) hk _ 0 (Nat.le_refl _) (by omega) (by simp)
end Go.Proofs.YtacjjfoelhckcaaDoor.PExprPuts

/- Plain laws, part 3: copies. -/
namespace Go.Proofs.YtacjjfoelhckcaaDoor.PExprPuts
open Go.RowKit Go.Proofs.YtacjjfoelhckcaaDoorW.PrintWords
set_option linter.unusedVariables false

abbrev okE (x : S45) : Prop := okN (x.f0, x.f1, x.f2, x.f3)
theorem okE.kids {x : S45} (h : okE x) : x.f3.length ≤ 17592186043904 := by
  have := h.2.2.2.1
  dsimp only at this
  omega
/-! ### copies -/
theorem copy_ev (l : List S45) (hb : l.length ≤ 2513169434843) (hk : ∀ x ∈ l, okE x) : Ev (fun k => sorrelref02_Copy.f k l) l := by
  have loop : ∀ (n i : Nat), l.length - i ≤ n → i ≤ l.length → Ev (fun k => sorrelref02_Copy.l0 k l (l.take i) (i : Int)) l := by
    have fin : ∀ i : Nat, i ≤ l.length → l.length ≤ i → Ev (fun k => sorrelref02_Copy.l0 k l (l.take i) (i : Int)) l := by
      intro i h1 h2
      refine Ev.last fun k => ?_
      rw [sorrelref02_Copy.l0, if_neg (by omega), List.take_of_length_le (by omega)]
    intro n
    induction n with
    | zero => intro i h1 h2; exact fin i h2 (by omega)
    | succ n ih =>
      intro i h1 h2
      by_cases hi : i < l.length
      · have ea : rd_T45 l (i : Int) = l[i] := getD_lt l i _ hi
        have hx := (hk _ (List.getElem_mem hi)).kids
        refine Ev.step (f := fun k => sorrelref02_Copy.l0 k l (l.take (i + 1)) ((i + 1 : Nat) : Int)) (fun k => ?_) (ih (i + 1) (by omega) (by omega))
        rw [sorrelref02_Copy.l0, if_pos (by omega), if_pos (by omega), Option.bind_some, ea, if_pos (by simp; omega), if_pos (by rw [List.length_take]; omega), w64 _ (by omega), List.take_succ_eq_append_getElem hi]; rfl
      · exact fin i h2 (by omega)
  unfold sorrelref02_Copy.f
  have := loop _ 0 (Nat.le_refl _) (by omega)
  rw [List.take_zero] at this
  exact this
end Go.Proofs.YtacjjfoelhckcaaDoor.PExprPuts

/- Plain laws: texts behind one another, at any offset; copies of rows of numbers. -/
namespace Go.Proofs.YtacjjfoelhckcaaDoor.PExprPuts
open Go.RowKit Go.Proofs.YtacjjfoelhckcaaDoorW.PrintWords
set_option linter.unusedVariables false

/-! ### texts behind one another -/
def shiftZ (b : Int) (x : S45) : S45 := ⟨x.f0, x.f1, x.f2, x.f3.map fun k => wrap64 (k + b)⟩
theorem set_step (kids : List Int) (g : Int → Int) (i : Nat) (hi : i < kids.length) : ((kids.take i).map g ++ List.replicate (kids.length - i) 0).set i (g kids[i]) = (kids.take (i + 1)).map g ++ List.replicate (kids.length - (i + 1)) 0 := by
  have e : kids.length - i = (kids.length - (i + 1)) + 1 := by omega
  rw [List.set_append_right _ _ (by simp; omega), e, List.replicate_succ]
  have e2 : i - ((kids.take i).map g).length = 0 := by simp; omega
  rw [e2, List.set_cons_zero, List.take_succ_eq_append_getElem hi, List.map_append, List.append_assoc]
  rfl
theorem joinZ_ev (x0 l : List S45) (b : Int) (h0 : x0.length + l.length ≤ 2513169434843) (hk : ∀ x ∈ l, okE x) : Ev (fun k => expr_join.f k x0 l b) (x0 ++ l.map (shiftZ b)) := by
  have inner : ∀ (xs : List S45) (j : Nat) (x : S45) (hx : x.f3.length ≤ 17592186043904) (v : List S45) (hxs : xs.length < 2513169434916),
      Ev (fun k => expr_join.l0 k (xs ++ [shiftZ b x]) b l (l.length : Int) (wrap64 ((j : Int) + 1))) v → ∀ (n i : Nat), x.f3.length - i ≤ n → i ≤ x.f3.length →
      Ev (fun k => expr_join.l1 k xs b ((x.f3.take i).map (fun k => wrap64 (k + b)) ++ List.replicate (x.f3.length - i) 0) l (l.length : Int) j x.f3 (x.f3.length : Int) (i : Int) x.f0 x.f1 x.f2 x.f3) v := by
    intro xs j x hx v hxs hv
    have fin : ∀ i : Nat, i ≤ x.f3.length → x.f3.length ≤ i → Ev (fun k => expr_join.l1 k xs b ((x.f3.take i).map (fun k => wrap64 (k + b)) ++ List.replicate (x.f3.length - i) 0) l (l.length : Int) j x.f3 (x.f3.length : Int) (i : Int) x.f0 x.f1 x.f2 x.f3) v := by
      intro i h1 h2
      refine Ev.step (fun k => ?_) hv
      rw [expr_join.l1, if_neg (by omega), if_pos hxs, List.take_of_length_le (by omega), show x.f3.length - i = 0 by omega]
      simp [shiftZ]
    intro n
    induction n with
    | zero => intro i h1 h2; exact fin i h2 (by omega)
    | succ n ih =>
      intro i h1 h2
      by_cases hi : i < x.f3.length
      · have ea : rd x.f3 (i : Int) = x.f3[i] := getD_lt x.f3 i 0 hi
        refine Ev.step (fun k => ?_) (ih (i + 1) (by omega) (by omega))
        rw [expr_join.l1, if_pos (by omega), if_pos (by omega), if_pos (by omega), if_pos (by simp; omega), ea, w64 ((i : Int) + 1) (by omega), Int.toNat_natCast, set_step x.f3 (fun k => wrap64 (k + b)) i hi]; rfl
      · exact fin i h2 (by omega)
  have loop : ∀ (n i : Nat), l.length - i ≤ n → i ≤ l.length → Ev (fun k => expr_join.l0 k (x0 ++ (l.take i).map (shiftZ b)) b l (l.length : Int) (i : Int)) (x0 ++ l.map (shiftZ b)) := by
    have fin : ∀ i : Nat, i ≤ l.length → l.length ≤ i → Ev (fun k => expr_join.l0 k (x0 ++ (l.take i).map (shiftZ b)) b l (l.length : Int) (i : Int)) (x0 ++ l.map (shiftZ b)) := by
      intro i h1 h2
      refine Ev.last fun k => ?_
      rw [expr_join.l0, if_neg (by omega), List.take_of_length_le (by omega)]
    intro n
    induction n with
    | zero => intro i h1 h2; exact fin i h2 (by omega)
    | succ n ih =>
      intro i h1 h2
      by_cases hi : i < l.length
      · have ea : rd_T45 l (i : Int) = l[i] := getD_lt l i _ hi
        have hx := (hk _ (List.getElem_mem hi)).kids
        have go := ih (i + 1) (by omega) (by omega)
        rw [List.take_succ_eq_append_getElem hi, List.map_append, ← List.append_assoc] at go
        have := inner (x0 ++ (l.take i).map (shiftZ b)) i l[i] hx (x0 ++ l.map (shiftZ b)) (by simp; omega) (by rw [w64 _ (by omega)]; exact go) (l[i]).f3.length 0 (by omega) (by omega)
        refine Ev.step (fun k => ?_) this
        rw [expr_join.l0, if_pos (by omega), if_pos (by omega), if_pos (by omega), if_pos (by omega), ea, if_pos (by omega)]
        simp
      · exact fin i h2 (by omega)
  unfold expr_join.f
  have := loop _ 0 (Nat.le_refl _) (by omega)
  rw [List.take_zero, List.map_nil, List.append_nil] at this
  exact this
end Go.Proofs.YtacjjfoelhckcaaDoor.PExprPuts

/- Plain laws: which texts of nodes are the same. -/
namespace Go.Proofs.YtacjjfoelhckcaaDoor.PExprPuts
open Go.RowKit Go.Proofs.YtacjjfoelhckcaaDoorW.PrintWords
set_option linter.unusedVariables false

theorem sameInts_dec (a b : List Int) (hb : a.length ≤ 9223372036854775806) : Ev (fun k => sorrelref02_SameInts.f k a b) (decide (a = b)) := by
  have loop (hl : a.length = b.length) : ∀ (n i : Nat), a.length - i ≤ n → i ≤ a.length → Ev (fun k => sorrelref02_SameInts.l0 k a b (i : Int)) (decide (a.drop i = b.drop i)) := by
    have fin : ∀ i : Nat, a.length ≤ i → Ev (fun k => sorrelref02_SameInts.l0 k a b (i : Int)) (decide (a.drop i = b.drop i)) := by
      intro i h
      refine Ev.last fun k => ?_
      rw [sorrelref02_SameInts.l0, if_neg (by omega), List.drop_eq_nil_of_le (by omega), List.drop_eq_nil_of_le (by omega)]
      rfl
    intro n
    induction n with
    | zero => intro i h1 h2; exact fin i (by omega)
    | succ n ih =>
      intro i h1 h2
      by_cases hi : i < a.length
      · rw [List.drop_eq_getElem_cons hi, List.drop_eq_getElem_cons (by omega : i < b.length)]
        have ea : rd a (i : Int) = a[i] := getD_lt a i 0 hi
        have eb : rd b (i : Int) = b[i] := getD_lt b i 0 (by omega)
        by_cases he : a[i] = b[i]
        · refine Ev.step (f := fun k => sorrelref02_SameInts.l0 k a b ((i + 1 : Nat) : Int)) (fun k => ?_) ?_
          · rw [sorrelref02_SameInts.l0, if_pos (by omega), if_pos (by omega), if_pos (by omega), ea, eb, if_pos he, w64 _ (by omega)]; rfl
          · have := ih (i + 1) (by omega) (by omega)
            simpa only [List.cons.injEq, he, true_and] using this
        · refine Ev.last fun k => ?_
          rw [sorrelref02_SameInts.l0, if_pos (by omega), if_pos (by omega), if_pos (by omega), ea, eb, if_neg he]
          simp only [List.cons.injEq, he, false_and, decide_false]
      · exact fin i (by omega)
  unfold sorrelref02_SameInts.f
  by_cases hl : a.length = b.length
  · refine Ev.congr (fun k => if_pos (by omega)) ?_
    have := loop hl _ 0 (Nat.le_refl _) (by omega)
    simpa using this
  · refine Ev.congr (fun k => if_neg (by omega)) ?_
    have : a ≠ b := fun h => hl (by rw [h])
    simp only [this, decide_false]
    exact Ev.now _
theorem toList_inj {a b : ByteArray} (h : a.toList = b.toList) : a = b := by
  rw [ByteArray.toList_eq, ByteArray.toList_eq] at h
  cases a; cases b
  congr 1
  exact Array.toList_inj.1 h
open Classical in
theorem sameNode_dec (x y : S45) (hb : x.f3.length ≤ 9223372036854775806) : Ev (fun k => sorrelref02_SameNode.f k x.f0 x.f1 x.f2 x.f3 y.f0 y.f1 y.f2 y.f3) (decide (x = y)) := by
  unfold sorrelref02_SameNode.f
  by_cases h0 : x.f0 = y.f0
  · refine Ev.congr (fun k => if_pos h0) ?_
    by_cases h1 : x.f1 = y.f1
    · refine Ev.congr (fun k => if_pos h1) ?_
      by_cases h2 : x.f2.toList = y.f2.toList
      · refine Ev.congr (fun k => if_pos h2) ?_
        refine Ev.bind (sameInts_dec x.f3 y.f3 hb) ?_
        have e : (decide (x = y)) = decide (x.f3 = y.f3) := by
          have h2' := toList_inj h2
          cases x; cases y
          simp_all
        rw [e]
        exact Ev.now _
      · refine Ev.congr (fun k => if_neg h2) ?_
        have : ¬ x = y := fun h => h2 (by rw [h])
        rw [decide_eq_false this]
        exact Ev.now _
    · refine Ev.congr (fun k => if_neg h1) ?_
      have : ¬ x = y := fun h => h1 (by rw [h])
      rw [decide_eq_false this]
      exact Ev.now _
  · refine Ev.congr (fun k => if_neg h0) ?_
    have : ¬ x = y := fun h => h0 (by rw [h])
    rw [decide_eq_false this]
    exact Ev.now _
open Classical in
theorem same_dec (l m : List S45) (hb : l.length ≤ 9223372036854775806) (hk : ∀ x ∈ l, x.f3.length ≤ 9223372036854775806) : Ev (fun k => sorrelref02_Same.f k l m) (decide (l = m)) := by
  have loop (hl : l.length = m.length) : ∀ (n i : Nat), l.length - i ≤ n → i ≤ l.length → Ev (fun k => sorrelref02_Same.l0 k l m (i : Int)) (decide (l.drop i = m.drop i)) := by
    have fin : ∀ i : Nat, l.length ≤ i → Ev (fun k => sorrelref02_Same.l0 k l m (i : Int)) (decide (l.drop i = m.drop i)) := by
      intro i h
      refine Ev.last fun k => ?_
      rw [sorrelref02_Same.l0, if_neg (by omega), List.drop_eq_nil_of_le (by omega), List.drop_eq_nil_of_le (by omega)]
      simp
    intro n
    induction n with
    | zero => intro i h1 h2; exact fin i (by omega)
    | succ n ih =>
      intro i h1 h2
      by_cases hi : i < l.length
      · have ea : rd_T45 l (i : Int) = l[i] := getD_lt l i _ hi
        have eb : rd_T45 m (i : Int) = m[i] := getD_lt m i _ (by omega)
        refine Ev.step (f := fun k => (sorrelref02_SameNode.f k (l[i]).f0 (l[i]).f1 (l[i]).f2 (l[i]).f3 (m[i]).f0 (m[i]).f1 (m[i]).f2 (m[i]).f3).bind fun t215 => (if t215 = true then (sorrelref02_Same.l0 k l m (wrap64 ((i : Int) + 1))) else (some false))) (fun k => ?_) (Ev.bind (sameNode_dec _ _ (hk _ (List.getElem_mem hi))) ?_)
        · rw [sorrelref02_Same.l0, if_pos (by omega), if_pos (by omega), if_pos (by omega), ea, eb]
        · by_cases he : l[i] = m[i]
          · refine Ev.congr (fun k => if_pos (decide_eq_true he)) ?_
            rw [w64 _ (by omega)]
            have e : (l.drop i = m.drop i) ↔ (l.drop (i + 1) = m.drop (i + 1)) := by
              rw [List.drop_eq_getElem_cons hi, List.drop_eq_getElem_cons (by omega : i < m.length), List.cons.injEq]
              exact ⟨fun h => h.2, fun h => ⟨he, h⟩⟩
            rw [decide_eq_decide.2 e]
            exact ih (i + 1) (by omega) (by omega)
          · refine Ev.congr (fun k => if_neg (by simpa using he)) ?_
            have : ¬ l.drop i = m.drop i := by
              rw [List.drop_eq_getElem_cons hi, List.drop_eq_getElem_cons (by omega : i < m.length), List.cons.injEq]
              exact fun h => he h.1
            rw [decide_eq_false this]
            exact Ev.now _
      · exact fin i (by omega)
  unfold sorrelref02_Same.f
  by_cases hl : l.length = m.length
  · refine Ev.congr (fun k => if_pos (by omega)) ?_
    have := loop hl _ 0 (Nat.le_refl _) (by omega)
    simpa using this
  · refine Ev.congr (fun k => if_neg (by omega)) ?_
    have : ¬ l = m := fun h => hl (by rw [h])
    rw [decide_eq_false this]
    exact Ev.now _
end Go.Proofs.YtacjjfoelhckcaaDoor.PExprPuts

/- Plain laws over trees, part 1: a sound text is the postfix of one tree. -/
namespace Go.Proofs.YtacjjfoelhckcaaDoor.PExprPuts
open Go.RowKit Go.Proofs.YtacjjfoelhckcaaDoorW.PrintWords
set_option linter.unusedVariables false

/-- An expression as a tree. -/
inductive T where
  | mk : Int → Int → ByteArray → List T → T
mutual
def T.size : T → Nat
  | .mk _ _ _ ts => sizeL ts + 1
def sizeL : List T → Nat
  | [] => 0
  | t :: ts => t.size + sizeL ts
end
/-- Where the roots of trees that stand one behind the other lie, from c on. -/
def roots (c : Nat) : List T → List Int
  | [] => []
  | t :: ts => ((c + t.size - 1 : Nat) : Int) :: roots (c + t.size) ts
mutual
/-- A tree's nodes in postfix, the first at c. -/
def T.flat (c : Nat) : T → List S45
  | .mk op n name ts => flatL c ts ++ [⟨op, n, name, roots c ts⟩]
def flatL (c : Nat) : List T → List S45
  | [] => []
  | t :: ts => t.flat c ++ flatL (c + t.size) ts
end
mutual
def T.ok : T → Bool
  | .mk op n name ts => formB op n name ts.length && okL ts
def okL : List T → Bool
  | [] => true
  | t :: ts => t.ok && okL ts
end
theorem size_pos (t : T) : 1 ≤ t.size := by
  cases t with | mk op n name ts => rw [T.size]; omega
theorem roots_len (ts : List T) : ∀ c, (roots c ts).length = ts.length := by
  induction ts with
  | nil => intro c; rfl
  | cons t ts ih => intro c; rw [roots, List.length_cons, ih, List.length_cons]
theorem sizeL_app (ts us : List T) : sizeL (ts ++ us) = sizeL ts + sizeL us := by
  induction ts with
  | nil => simp [sizeL]
  | cons t ts ih => rw [List.cons_append, sizeL, sizeL, ih]; omega
theorem roots_app (ts us : List T) : ∀ c, roots c (ts ++ us) = roots c ts ++ roots (c + sizeL ts) us := by
  induction ts with
  | nil => intro c; simp [sizeL, roots]
  | cons t ts ih => intro c; rw [List.cons_append, roots, roots, ih, sizeL, List.cons_append, Nat.add_assoc]
theorem flatL_app (ts us : List T) : ∀ c, flatL c (ts ++ us) = flatL c ts ++ flatL (c + sizeL ts) us := by
  induction ts with
  | nil => intro c; simp [sizeL, flatL]
  | cons t ts ih => intro c; rw [List.cons_append, flatL, flatL, ih, sizeL, List.append_assoc, Nat.add_assoc]
theorem okL_app (ts us : List T) : okL (ts ++ us) = (okL ts && okL us) := by
  induction ts with
  | nil => simp [okL]
  | cons t ts ih => rw [List.cons_append, okL, okL, ih, Bool.and_assoc]
mutual
theorem flat_len (c : Nat) : ∀ t : T, (t.flat c).length = t.size
  | .mk op n name ts => by rw [T.flat, List.length_append, flatL_len c ts, T.size]; rfl
theorem flatL_len (c : Nat) : ∀ ts : List T, (flatL c ts).length = sizeL ts
  | [] => rfl
  | t :: ts => by rw [flatL, List.length_append, flat_len c t, flatL_len (c + t.size) ts, sizeL]
end
theorem len_le_size (ts : List T) : ts.length ≤ sizeL ts := by
  induction ts with
  | nil => simp
  | cons t ts ih => have := size_pos t; rw [sizeL, List.length_cons]; omega
/- The check goes well over a tree's nodes from any open ones: it leaves the tree's root open beside them. -/
mutual
theorem check_flat (r : List S45) : ∀ (t : T), t.ok = true → ∀ (st : List Int) (c : Nat), checkFrom st c (t.flat c ++ r) = checkFrom (st ++ [((c + t.size - 1 : Nat) : Int)]) (c + t.size) r
  | .mk op n name ts, h, st, c => by
    rw [T.ok, Bool.and_eq_true] at h
    rw [T.flat, List.append_assoc, check_flatL _ ts h.2 st c, List.singleton_append, checkFrom]
    have hl := roots_len ts c
    have hfit : fitsN (st ++ roots c ts) (⟨op, n, name, roots c ts⟩ : S45) = true := by
      simp only [fitsN, formN, hl, h.1, Bool.true_and, Bool.and_eq_true, decide_eq_true_eq, List.length_append]
      refine ⟨by omega, ?_⟩
      rw [show st.length + ts.length - ts.length = st.length by omega, List.drop_left]
    rw [if_pos hfit, T.size]
    simp only [List.length_append, hl]
    rw [show st.length + ts.length - ts.length = st.length by omega, List.take_left]
    rfl
theorem check_flatL (r : List S45) : ∀ (ts : List T), okL ts = true → ∀ (st : List Int) (c : Nat), checkFrom st c (flatL c ts ++ r) = checkFrom (st ++ roots c ts) (c + sizeL ts) r
  | [], _, st, c => by simp [flatL, roots, sizeL]
  | t :: ts, h, st, c => by
    rw [okL, Bool.and_eq_true] at h
    rw [flatL, List.append_assoc, check_flat _ t h.1 st c, check_flatL _ ts h.2, roots, sizeL, List.append_assoc, Nat.add_assoc]
    rfl
end
theorem checkE_flat (t : T) (h : t.ok = true) (hs : t.size ≤ 64) : checkE (t.flat 0) = 0 := by
  have h1 := size_pos t
  have hl := flat_len 0 t
  have := check_flat [] t h [] 0
  rw [List.append_nil] at this
  rw [checkE, if_neg (by omega), this, checkFrom, if_pos (by simp)]
/-- .. and only over such. -/
theorem check_trees : ∀ (r : List S45) (ts : List T), okL ts = true → checkFrom (roots 0 ts) (sizeL ts) r = 0 → ∃ t : T, t.ok = true ∧ flatL 0 ts ++ r = t.flat 0 := by
  intro r
  induction r with
  | nil =>
    intro ts hok h
    rw [checkFrom] at h
    split at h
    · rename_i hl
      rw [roots_len] at hl
      obtain ⟨t, rfl⟩ := List.length_eq_one_iff.1 hl
      refine ⟨t, by simpa [okL] using hok, by simp [flatL]⟩
    · cases h
  | cons x r ih =>
    intro ts hok h
    rw [checkFrom] at h
    split at h
    · rename_i hfit
      simp only [fitsN, Bool.and_eq_true, decide_eq_true_eq, roots_len] at hfit
      obtain ⟨⟨hf, hle⟩, hd⟩ := hfit
      -- the last of the open trees are this node's kids
      have hsplit : ts = ts.take (ts.length - x.f3.length) ++ ts.drop (ts.length - x.f3.length) := (List.take_append_drop _ _).symm
      generalize hA : ts.take (ts.length - x.f3.length) = A at hsplit
      generalize hB : ts.drop (ts.length - x.f3.length) = B at hsplit
      have hAl : A.length = ts.length - x.f3.length := by rw [← hA, List.length_take]; omega
      have hr : roots 0 ts = roots 0 A ++ roots (sizeL A) B := by rw [hsplit, roots_app, Nat.zero_add]
      have hk : roots (sizeL A) B = x.f3 := by
        rw [hr, ← hAl, ← roots_len A 0, List.drop_left] at hd
        exact hd
      rw [roots_len, hr, ← hAl, ← roots_len A 0, List.take_left] at h
      have hok2 : okL A = true ∧ okL B = true := by rw [hsplit, okL_app, Bool.and_eq_true] at hok; exact hok
      have hBl : B.length = x.f3.length := by rw [← hk, roots_len]
      have hnew : okL (A ++ [.mk x.f0 x.f1 x.f2 B]) = true := by
        rw [okL_app, hok2.1]
        simp only [okL, T.ok, hok2.2, hBl, Bool.and_true, Bool.true_and]
        exact hf
      have hsz : sizeL ts = sizeL A + sizeL B := by rw [hsplit, sizeL_app]
      have hroots : roots 0 (A ++ [.mk x.f0 x.f1 x.f2 B]) = roots 0 A ++ [((sizeL ts : Nat) : Int)] := by
        rw [roots_app, Nat.zero_add, roots, roots, T.size, hsz]
        rfl
      have hsize : sizeL (A ++ [.mk x.f0 x.f1 x.f2 B]) = sizeL ts + 1 := by
        rw [sizeL_app, sizeL, sizeL, T.size, hsz]
        omega
      obtain ⟨t, ht, e⟩ := ih (A ++ [.mk x.f0 x.f1 x.f2 B]) hnew (by rw [hroots, hsize]; exact h)
      refine ⟨t, ht, ?_⟩
      rw [← e, flatL_app, Nat.zero_add, flatL, flatL, T.flat, hk, List.append_nil, hsplit, flatL_app, Nat.zero_add, List.append_assoc, List.append_assoc, List.append_assoc]
      rfl
    · cases h
theorem checkE_tree {l : List S45} (h : checkE l = 0) : ∃ t : T, t.ok = true ∧ t.size ≤ 64 ∧ l = t.flat 0 := by
  unfold checkE at h
  split at h
  · cases h
  · rename_i hl
    obtain ⟨t, ht, e⟩ := check_trees l [] rfl h
    have e' : l = t.flat 0 := e
    refine ⟨t, ht, ?_, e'⟩
    rw [← flat_len 0 t, ← e']
    omega
end Go.Proofs.YtacjjfoelhckcaaDoor.PExprPuts

/- Plain laws over trees, part 2: subtrees, their places, a subtree replaced. -/
namespace Go.Proofs.YtacjjfoelhckcaaDoor.PExprPuts
open Go.RowKit Go.Proofs.YtacjjfoelhckcaaDoorW.PrintWords
set_option linter.unusedVariables false

/-- A node whose kids lie d further on. -/
def moved (d : Int) (x : S45) : S45 := ⟨x.f0, x.f1, x.f2, x.f3.map (· + d)⟩
theorem roots_moved (d : Nat) : ∀ (ts : List T) (c : Nat), roots (c + d) ts = (roots c ts).map (· + (d : Int))
  | [], c => rfl
  | t :: ts, c => by
    have := size_pos t
    rw [roots, roots, List.map_cons, show c + d + t.size = c + t.size + d by omega, roots_moved d ts (c + t.size)]
    congr 1
    omega
mutual
theorem flat_moved (d : Nat) : ∀ (t : T) (c : Nat), t.flat (c + d) = (t.flat c).map (moved d)
  | .mk op n name ts, c => by
    rw [T.flat, T.flat, List.map_append, flatL_moved d ts c, List.map_cons, List.map_nil, roots_moved]
    rfl
theorem flatL_moved (d : Nat) : ∀ (ts : List T) (c : Nat), flatL (c + d) ts = (flatL c ts).map (moved d)
  | [], c => rfl
  | t :: ts, c => by
    rw [flatL, flatL, List.map_append, flat_moved d t c, show c + d + t.size = c + t.size + d by omega, flatL_moved d ts (c + t.size)]
end
/-- The roots lie within. -/
theorem roots_in : ∀ (ts : List T) (c : Nat), ∀ k ∈ roots c ts, (c : Int) ≤ k ∧ k < ((c + sizeL ts : Nat) : Int)
  | [], c, k, hk => by cases hk
  | t :: ts, c, k, hk => by
    have := size_pos t
    rw [roots] at hk
    rw [sizeL]
    rcases List.mem_cons.1 hk with rfl | hk
    · omega
    · have := roots_in ts (c + t.size) k hk
      omega
mutual
theorem flat_in : ∀ (t : T) (c : Nat), ∀ x ∈ t.flat c, ∀ k ∈ x.f3, (c : Int) ≤ k ∧ k < ((c + t.size : Nat) : Int)
  | .mk op n name ts, c, x, hx, k, hk => by
    rw [T.flat] at hx
    rw [T.size]
    rcases List.mem_append.1 hx with hx | hx
    · have := flatL_in ts c x hx k hk
      omega
    · obtain rfl := List.mem_singleton.1 hx
      have := roots_in ts c k hk
      omega
theorem flatL_in : ∀ (ts : List T) (c : Nat), ∀ x ∈ flatL c ts, ∀ k ∈ x.f3, (c : Int) ≤ k ∧ k < ((c + sizeL ts : Nat) : Int)
  | [], c, x, hx, k, hk => by cases hx
  | t :: ts, c, x, hx, k, hk => by
    rw [flatL] at hx
    rw [sizeL]
    rcases List.mem_append.1 hx with hx | hx
    · have := flat_in t c x hx k hk
      omega
    · have := flatL_in ts (c + t.size) x hx k hk
      omega
end
/-- s is the part of t (whose first node lies at c) that begins at b. -/
inductive At : T → Nat → T → Nat → Prop
  | here (t : T) (c : Nat) : At t c t c
  | kid (op n : Int) (name : ByteArray) (us : List T) (t : T) (ts : List T) (c : Nat) (s : T) (b : Nat) (h : At t (c + sizeL us) s b) : At (.mk op n name (us ++ t :: ts)) c s b
mutual
/-- At each place a part has its root. -/
theorem at_of : ∀ (t : T) (c i : Nat), c ≤ i → i < c + t.size → ∃ s b, At t c s b ∧ i + 1 = b + s.size
  | .mk op n name ts, c, i, h1, h2 => by
    by_cases he : i = c + sizeL ts
    · exact ⟨_, c, .here _ _, by rw [T.size]; omega⟩
    · rw [T.size] at h2
      obtain ⟨us, t, vs, e, s, b, h, hs⟩ := at_ofL ts c i h1 (by omega)
      subst e
      exact ⟨s, b, .kid op n name us t vs c s b h, hs⟩
theorem at_ofL : ∀ (ts : List T) (c i : Nat), c ≤ i → i < c + sizeL ts → ∃ us t vs, ts = us ++ t :: vs ∧ ∃ s b, At t (c + sizeL us) s b ∧ i + 1 = b + s.size
  | [], c, i, h1, h2 => by rw [sizeL] at h2; omega
  | t :: ts, c, i, h1, h2 => by
    rw [sizeL] at h2
    by_cases he : i < c + t.size
    · obtain ⟨s, b, h, hs⟩ := at_of t c i h1 he
      exact ⟨[], t, ts, rfl, s, b, by rw [sizeL, Nat.add_zero]; exact h, hs⟩
    · obtain ⟨us, u, vs, e, s, b, h, hs⟩ := at_ofL ts (c + t.size) i (by omega) (by omega)
      refine ⟨t :: us, u, vs, by rw [e]; rfl, s, b, ?_, hs⟩
      rw [sizeL, ← Nat.add_assoc]
      exact h
end
theorem At.split {t s : T} {c b : Nat} (h : At t c s b) : ∃ pre post, t.flat c = pre ++ s.flat b ++ post ∧ c + pre.length = b ∧ pre.length + s.size + post.length = t.size := by
  induction h with
  | here t c => exact ⟨[], [], by simp, by simp, by simp⟩
  | kid op n name us t ts c s b h ih =>
    obtain ⟨pre, post, e, h1, h2⟩ := ih
    refine ⟨flatL c us ++ pre, post ++ (flatL (c + sizeL us + t.size) ts ++ [⟨op, n, name, roots c (us ++ t :: ts)⟩]), ?_, ?_, ?_⟩
    · rw [T.flat, flatL_app, flatL, e]
      simp only [List.append_assoc]
    · rw [List.length_append, flatL_len]; omega
    · rw [T.size, sizeL_app, sizeL]
      simp only [List.length_append, flatL_len, List.length_singleton]
      omega
theorem At.ok {t s : T} {c b : Nat} (h : At t c s b) (hok : t.ok = true) : s.ok = true := by
  induction h with
  | here t c => exact hok
  | kid op n name us t ts c s b h ih =>
    rw [T.ok, Bool.and_eq_true, okL_app, Bool.and_eq_true, okL, Bool.and_eq_true] at hok
    exact ih hok.2.2.1
end Go.Proofs.YtacjjfoelhckcaaDoor.PExprPuts

/- Plain laws over trees, part 3: where a part begins; Part. -/
namespace Go.Proofs.YtacjjfoelhckcaaDoor.PExprPuts
open Go.RowKit Go.Proofs.YtacjjfoelhckcaaDoorW.PrintWords
set_option linter.unusedVariables false

def rootN (b : Nat) : T → S45
  | .mk op n name ts => ⟨op, n, name, roots b ts⟩
theorem flat_root (b : Nat) (s : T) : ∃ ini, s.flat b = ini ++ [rootN b s] ∧ ini.length + 1 = s.size := by
  cases s with
  | mk op n name ts => exact ⟨flatL b ts, rfl, by rw [flatL_len, T.size]⟩
theorem seg_root {l pre post : List S45} {b : Nat} {s : T} (e : l = pre ++ s.flat b ++ post) (hp : pre.length = b) : ∃ h : b + s.size - 1 < l.length, l[b + s.size - 1] = rootN b s := by
  obtain ⟨ini, e2, h2⟩ := flat_root b s
  have hl : l.length = pre.length + s.size + post.length := by rw [e]; simp [flat_len]; omega
  refine ⟨by omega, ?_⟩
  have e3 : l = (pre ++ ini) ++ rootN b s :: post := by rw [e, e2]; simp
  have h4 : b + s.size - 1 = (pre ++ ini).length := by rw [List.length_append]; omega
  subst e3
  simp only [h4]
  rw [List.getElem_append_right (by omega)]
  simp
theorem begin_ev (l : List S45) (hl : l.length ≤ 64) : ∀ (m : Nat) (s : T) (b : Nat) (pre post : List S45), s.size ≤ m → l = pre ++ s.flat b ++ post → pre.length = b → Ev (fun k => expr_begin.f k l ((b + s.size - 1 : Nat) : Int)) (b : Int) := by
  intro m
  induction m with
  | zero => intro s b pre post h _ _; have := size_pos s; omega
  | succ m ih =>
    intro s b pre post h e hp
    obtain ⟨hlt, hroot⟩ := seg_root e hp
    have ea : rd_T45 l ((b + s.size - 1 : Nat) : Int) = rootN b s := (getD_lt l _ _ hlt).trans hroot
    cases s with
    | mk op n name ts =>
      cases ts with
      | nil =>
        refine Ev.last fun k => ?_
        show expr_begin.l0 (k + 1) l _ = _
        have hf : (rootN b (.mk op n name [])).f3 = [] := rfl
        rw [expr_begin.l0, if_pos (by omega), if_pos (by omega), ea, hf, if_neg (by simp)]
        rw [T.size, sizeL]
        rfl
      | cons t ts =>
        have hf : (rootN b (.mk op n name (t :: ts))).f3 = ((b + t.size - 1 : Nat) : Int) :: roots (b + t.size) ts := rfl
        have hts : t.size ≤ m := by rw [T.size, sizeL] at h; omega
        have e2 : l = pre ++ t.flat b ++ (flatL (b + t.size) ts ++ [⟨op, n, name, roots b (t :: ts)⟩] ++ post) := by rw [e, T.flat, flatL]; simp
        refine Ev.step (f := fun k => expr_begin.f k l ((b + t.size - 1 : Nat) : Int)) (fun k => ?_) (ih t b pre _ hts e2 hp)
        show expr_begin.l0 (k + 1) l _ = expr_begin.l0 k l _
        rw [expr_begin.l0, if_pos (by omega), if_pos (by omega), ea, hf, if_pos (by simp), if_pos (by simp)]
        rfl
theorem moved_back (b : Nat) (s : T) (hs : b + s.size ≤ 64) : (s.flat b).map (shiftZ (-(b : Int))) = s.flat 0 := by
  have e := flat_moved b s 0
  rw [Nat.zero_add] at e
  rw [e, List.map_map]
  conv => rhs; rw [← List.map_id (s.flat 0)]
  refine List.map_congr_left fun x hx => ?_
  have hk := flat_in s 0 x hx
  show shiftZ (-(b : Int)) (moved b x) = x
  unfold shiftZ moved
  have e3 : (x.f3.map (· + (b : Int))).map (fun k => wrap64 (k + -(b : Int))) = x.f3 := by
    rw [List.map_map]
    conv => rhs; rw [← List.map_id x.f3]
    refine List.map_congr_left fun k hkk => ?_
    have := hk k hkk
    show wrap64 (k + b + -(b : Int)) = k
    rw [w64 _ (by omega)]
    omega
  rw [e3]
theorem part_ev (t : T) (hok : t.ok = true) (hs : t.size ≤ 64) (hk : ∀ x ∈ t.flat 0, okE x) (s : T) (b : Nat) (h : At t 0 s b) : Ev (fun k => expr_Part.f k (t.flat 0) ((b + s.size - 1 : Nat) : Int)) (s.flat 0, 0) := by
  obtain ⟨pre, post, e, h1, h2⟩ := h.split
  rw [Nat.zero_add] at h1
  have hlen := flat_len 0 t
  have hsp := size_pos s
  have hb := begin_ev (t.flat 0) (by omega) s.size s b pre post (Nat.le_refl _) e h1
  have hseg : ((t.flat 0).take (b + s.size)).drop b = s.flat b := by
    rw [e, ← h1, List.append_assoc, List.take_length_add_append, List.drop_left]
    have : (s.flat pre.length).length = s.size := flat_len _ s
    rw [← this, List.take_left]
  unfold expr_Part.f
  refine Ev.bind (check_ev _ hk) ?_
  refine Ev.congr (fun k => if_pos (checkE_flat t hok hs)) ?_
  refine Ev.congr (fun k => if_neg (by omega)) ?_
  refine Ev.step (f := fun k => (expr_begin.f k (t.flat 0) ((b + s.size - 1 : Nat) : Int)).bind fun t146 => (if 0 ≤ t146 then (if t146 ≤ (wrap64 (((b + s.size - 1 : Nat) : Int) + 1)) then (if (wrap64 (((b + s.size - 1 : Nat) : Int) + 1)) ≤ ((t.flat 0).length : Int) then ((expr_join.f k ([] : List (S45)) (((t.flat 0).take ((wrap64 (((b + s.size - 1 : Nat) : Int) + 1)) : Int).toNat).drop (t146 : Int).toNat) (wrap64 (-t146))).bind fun t151 => (some (t151, 0))) else (none)) else (none)) else (none))) (fun k => ?_) (Ev.bind hb ?_)
  · rw [expr_Part.j0, if_neg (by simp; omega)]
  have e1 : wrap64 (((b + s.size - 1 : Nat) : Int) + 1) = ((b + s.size : Nat) : Int) := by rw [w64 _ (by omega)]; omega
  have e2 : wrap64 (-(b : Int)) = -(b : Int) := w64 _ (by omega)
  rw [e1, e2]
  clear e1 e2
  refine Ev.congr (fun k => if_pos (by omega)) ?_
  refine Ev.congr (fun k => if_pos (by omega)) ?_
  refine Ev.congr (fun k => if_pos (by omega)) ?_
  rw [Int.toNat_natCast, Int.toNat_natCast, hseg]
  have hj := joinZ_ev [] (s.flat b) (-(b : Int)) (by rw [flat_len]; simp; omega) (fun x hx => hk x (by rw [e]; simp [hx]))
  rw [moved_back b s (by omega), List.nil_append] at hj
  exact Ev.bind hj (Ev.now _)
end Go.Proofs.YtacjjfoelhckcaaDoor.PExprPuts

/- Plain laws over trees, part 6: a part replaced. -/
namespace Go.Proofs.YtacjjfoelhckcaaDoor.PExprPuts
open Go.RowKit Go.Proofs.YtacjjfoelhckcaaDoorW.PrintWords
set_option linter.unusedVariables false

/-- u is t with m in the place of its part s, which begins at b. -/
inductive Rep : T → Nat → T → Nat → T → T → Prop
  | here (s : T) (c : Nat) (m : T) : Rep s c s c m m
  | kid (op n : Int) (name : ByteArray) (us : List T) (t : T) (ts : List T) (c : Nat) (s : T) (b : Nat) (m u : T) (h : Rep t (c + sizeL us) s b m u) : Rep (.mk op n name (us ++ t :: ts)) c s b m (.mk op n name (us ++ u :: ts))
theorem Rep.back {t s m u : T} {c b : Nat} (h : Rep t c s b m u) : Rep u c m b s t := by
  induction h with
  | here s c m => exact .here m c s
  | kid op n name us t ts c s b m u h ih => exact .kid op n name us u ts c m b s t ih
theorem Rep.at_ {t s m u : T} {c b : Nat} (h : Rep t c s b m u) : At t c s b := by
  induction h with
  | here s c m => exact .here s c
  | kid op n name us t ts c s b m u h ih => exact .kid op n name us t ts c s b ih
theorem At.rep {t s : T} {c b : Nat} (h : At t c s b) (m : T) : ∃ u, Rep t c s b m u := by
  induction h with
  | here t c => exact ⟨m, .here t c m⟩
  | kid op n name us t ts c s b h ih =>
    obtain ⟨u, hu⟩ := ih
    exact ⟨_, .kid op n name us t ts c s b m u hu⟩
theorem Rep.size {t s m u : T} {c b : Nat} (h : Rep t c s b m u) : u.size + s.size = t.size + m.size := by
  induction h with
  | here s c m => omega
  | kid op n name us t ts c s b m u h ih =>
    rw [T.size, T.size, sizeL_app, sizeL_app, sizeL, sizeL]
    omega
theorem Rep.ok {t s m u : T} {c b : Nat} (h : Rep t c s b m u) (ht : t.ok = true) (hm : m.ok = true) : u.ok = true := by
  induction h with
  | here s c m => exact hm
  | kid op n name us t ts c s b m u h ih =>
    rw [T.ok, Bool.and_eq_true, okL_app, Bool.and_eq_true, okL, Bool.and_eq_true] at ht ⊢
    refine ⟨?_, ht.2.1, ih ht.2.2.1 hm, ht.2.2.2⟩
    have e : (us ++ u :: ts).length = (us ++ t :: ts).length := by simp
    rw [e]
    exact ht.1
/-- What stands behind the part, told anew. -/
def reloc (i d : Int) (x : S45) : S45 := ⟨x.f0, x.f1, x.f2, x.f3.map fun k => if k ≥ i then k + d else k⟩
theorem flatL_reloc (ts : List T) (x y : Nat) (i d : Int) (hi : i ≤ x) (hy : (y : Int) = x + d) : flatL y ts = (flatL x ts).map (reloc i d) := by
  have e1 := flatL_moved y ts 0
  have e2 := flatL_moved x ts 0
  rw [Nat.zero_add] at e1 e2
  rw [e1, e2, List.map_map]
  refine List.map_congr_left fun z hz => ?_
  show moved y z = reloc i d (moved x z)
  unfold moved reloc
  dsimp only
  congr 1
  rw [List.map_map]
  refine List.map_congr_left fun k hk => ?_
  have := flatL_in ts 0 z hz k hk
  show k + (y : Int) = if k + (x : Int) ≥ i then k + (x : Int) + d else k + (x : Int)
  rw [if_pos (by omega)]
  omega
theorem roots_reloc (ts : List T) (x y : Nat) (i d : Int) (hi : i ≤ x) (hy : (y : Int) = x + d) : roots y ts = (roots x ts).map (fun k => if k ≥ i then k + d else k) := by
  have e1 := roots_moved y ts 0
  have e2 := roots_moved x ts 0
  rw [Nat.zero_add] at e1 e2
  rw [e1, e2, List.map_map]
  refine List.map_congr_left fun k hk => ?_
  have := roots_in ts 0 k hk
  show k + (y : Int) = if k + (x : Int) ≥ i then k + (x : Int) + d else k + (x : Int)
  rw [if_pos (by omega)]
  omega
theorem Rep.flat_ {t s m u : T} {c b : Nat} (h : Rep t c s b m u) : ∃ pre post, t.flat c = pre ++ s.flat b ++ post ∧ u.flat c = pre ++ m.flat b ++ post.map (reloc ((b : Int) + s.size - 1) ((m.size : Int) - s.size)) ∧ c + pre.length = b ∧ b + s.size ≤ c + t.size := by
  induction h with
  | here s c m => exact ⟨[], [], by simp, by simp, by simp, Nat.le_refl _⟩
  | kid op n name us t ts c s b m u h ih =>
    obtain ⟨pre, post, e1, e2, e3, e4⟩ := ih
    have hsz := h.size
    have hsp := size_pos s
    have hup := size_pos u
    have htp := size_pos t
    refine ⟨flatL c us ++ pre, post ++ (flatL (c + sizeL us + t.size) ts ++ [⟨op, n, name, roots c (us ++ t :: ts)⟩]), ?_, ?_, ?_, ?_⟩
    · rw [T.flat, flatL_app, flatL, e1]
      simp only [List.append_assoc]
    · have f1 := flatL_reloc ts (c + sizeL us + t.size) (c + sizeL us + u.size) ((b : Int) + s.size - 1) ((m.size : Int) - s.size) (by omega) (by omega)
      have f2 := roots_reloc ts (c + sizeL us + t.size) (c + sizeL us + u.size) ((b : Int) + s.size - 1) ((m.size : Int) - s.size) (by omega) (by omega)
      have f3 : roots c (us ++ u :: ts) = (roots c (us ++ t :: ts)).map (fun k => if k ≥ (b : Int) + s.size - 1 then k + ((m.size : Int) - s.size) else k) := by
        rw [roots_app, roots_app, roots, roots, List.map_append, List.map_cons, ← f2]
        congr 1
        · conv => lhs; rw [← List.map_id (roots c us)]
          refine List.map_congr_left fun k hk => ?_
          have := roots_in us c k hk
          rw [if_neg (by omega)]; rfl
        · congr 1
          rw [if_pos (by omega)]
          omega
      rw [T.flat, flatL_app, flatL, e2, f1, f3]
      simp only [List.append_assoc, List.map_append, List.map_cons, List.map_nil, reloc]
    · rw [List.length_append, flatL_len]; omega
    · rw [T.size, sizeL_app, sizeL]; omega
end Go.Proofs.YtacjjfoelhckcaaDoor.PExprPuts

/- Plain laws over trees, part 7: Put. -/
namespace Go.Proofs.YtacjjfoelhckcaaDoor.PExprPuts
open Go.RowKit Go.Proofs.YtacjjfoelhckcaaDoorW.PrintWords
set_option linter.unusedVariables false

theorem set_step2 (kids : List Int) (g : Int → Int) (i : Nat) (hi : i < kids.length) : ((kids.take i).map g ++ kids.drop i).set i (g kids[i]) = (kids.take (i + 1)).map g ++ kids.drop (i + 1) := by
  have e2 : i - ((kids.take i).map g).length = 0 := by simp; omega
  rw [List.set_append_right _ _ (by simp; omega), e2, List.drop_eq_getElem_cons hi, List.set_cons_zero, List.take_succ_eq_append_getElem hi, List.map_append, List.append_assoc]
  rfl
theorem clone_eq (kids : List Int) (h : kids.length ≤ 17592186043904) : slices_Clone_int.f kids = some kids := by
  unfold slices_Clone_int.f
  rw [Option.bind_some, if_pos (by simp; omega)]
  rfl
def mv (i d : Int) (k : Int) : Int := if k ≥ i then wrap64 (k + d) else k
theorem put_loop (i d : Int) (y : List S45) (x0 : List S45) (h0 : x0.length + y.length ≤ 2513169434843) (hk : ∀ x ∈ y, x.f3.length ≤ 17592186043904) : ∀ (n j : Nat), y.length - j ≤ n → j ≤ y.length →
    Ev (fun k => expr_Put.l0 k i d (x0 ++ (y.take j).map fun x => (⟨x.f0, x.f1, x.f2, x.f3.map (mv i d)⟩ : S45)) y (y.length : Int) (j : Int)) (x0 ++ y.map (fun x => (⟨x.f0, x.f1, x.f2, x.f3.map (mv i d)⟩ : S45)), 0) := by
  have inner : ∀ (xs : List S45) (j : Nat) (x : S45) (hx : x.f3.length ≤ 17592186043904) (v : List S45 × Int) (hxs : xs.length < 2513169434916),
      Ev (fun k => expr_Put.l0 k i d (xs ++ [(⟨x.f0, x.f1, x.f2, x.f3.map (mv i d)⟩ : S45)]) y (y.length : Int) (wrap64 ((j : Int) + 1))) v → ∀ (n q : Nat), x.f3.length - q ≤ n → q ≤ x.f3.length →
      Ev (fun k => expr_Put.l1 k i d xs ((x.f3.take q).map (mv i d) ++ x.f3.drop q) y (y.length : Int) j (x.f3.length : Int) (q : Int) x.f0 x.f1 x.f2 x.f3) v := by
    intro xs j x hx v hxs hv
    have fin : ∀ q : Nat, q ≤ x.f3.length → x.f3.length ≤ q → Ev (fun k => expr_Put.l1 k i d xs ((x.f3.take q).map (mv i d) ++ x.f3.drop q) y (y.length : Int) j (x.f3.length : Int) (q : Int) x.f0 x.f1 x.f2 x.f3) v := by
      intro q h1 h2
      refine Ev.step (fun k => ?_) hv
      rw [expr_Put.l1, if_neg (by omega), if_pos hxs, List.take_of_length_le (by omega), List.drop_eq_nil_of_le (by omega), List.append_nil]
    intro n
    induction n with
    | zero => intro q h1 h2; exact fin q h2 (by omega)
    | succ n ih =>
      intro q h1 h2
      by_cases hq : q < x.f3.length
      · have hlen : ((x.f3.take q).map (mv i d) ++ x.f3.drop q).length = x.f3.length := by simp; omega
        have ea : rd ((x.f3.take q).map (mv i d) ++ x.f3.drop q) (q : Int) = x.f3[q] := by
          show ((x.f3.take q).map (mv i d) ++ x.f3.drop q).getD q 0 = _
          rw [getD_lt _ q 0 (by omega), List.getElem_append_right (by simp; omega)]
          simp
          congr 1
          omega
        have go := ih (q + 1) (by omega) (by omega)
        refine Ev.step (fun k => ?_) go
        rw [expr_Put.l1, if_pos (by omega), if_pos (by omega), if_pos (by omega), ea, w64 ((q : Int) + 1) (by omega), Int.toNat_natCast]
        have hs := set_step2 x.f3 (mv i d) q hq
        by_cases hc : x.f3[q] ≥ i
        · rw [if_pos hc]
          have : mv i d x.f3[q] = wrap64 (x.f3[q] + d) := if_pos hc
          rw [← this, hs]; rfl
        · rw [if_neg hc]
          have : mv i d x.f3[q] = x.f3[q] := if_neg hc
          rw [this] at hs
          have e : ((x.f3.take q).map (mv i d) ++ x.f3.drop q).set q x.f3[q] = (x.f3.take q).map (mv i d) ++ x.f3.drop q := by
            rw [List.drop_eq_getElem_cons hq, List.set_append_right _ _ (by simp; omega)]
            congr 1
            have : q - ((x.f3.take q).map (mv i d)).length = 0 := by simp; omega
            rw [this]; rfl
          rw [e] at hs
          rw [hs]; rfl
      · exact fin q h2 (by omega)
  intro n
  have fin : ∀ j : Nat, j ≤ y.length → y.length ≤ j → Ev (fun k => expr_Put.l0 k i d (x0 ++ (y.take j).map fun x => (⟨x.f0, x.f1, x.f2, x.f3.map (mv i d)⟩ : S45)) y (y.length : Int) (j : Int)) (x0 ++ y.map (fun x => (⟨x.f0, x.f1, x.f2, x.f3.map (mv i d)⟩ : S45)), 0) := by
    intro j h1 h2
    refine Ev.last fun k => ?_
    rw [expr_Put.l0, if_neg (by omega), List.take_of_length_le (by omega)]
  induction n with
  | zero => intro j h1 h2; exact fin j h2 (by omega)
  | succ n ih =>
    intro j h1 h2
    by_cases hj : j < y.length
    · have ea : rd_T45 y (j : Int) = y[j] := getD_lt y j _ hj
      have hx := hk _ (List.getElem_mem hj)
      have go := ih (j + 1) (by omega) (by omega)
      rw [List.take_succ_eq_append_getElem hj, List.map_append, ← List.append_assoc] at go
      have := inner (x0 ++ (y.take j).map fun x => (⟨x.f0, x.f1, x.f2, x.f3.map (mv i d)⟩ : S45)) j y[j] hx _ (by simp; omega) (by rw [w64 _ (by omega)]; exact go) (y[j]).f3.length 0 (by omega) (by omega)
      refine Ev.step (fun k => ?_) this
      rw [expr_Put.l0, if_pos (by omega), if_pos (by omega), if_pos (by omega), ea, clone_eq _ hx]
      rfl
    · exact fin j h2 (by omega)
end Go.Proofs.YtacjjfoelhckcaaDoor.PExprPuts

/- Plain laws over trees, part 8: Put and Part, all their answers. -/
namespace Go.Proofs.YtacjjfoelhckcaaDoor.PExprPuts
open Go.RowKit Go.Proofs.YtacjjfoelhckcaaDoorW.PrintWords
set_option linter.unusedVariables false

theorem put_go (l m : List S45) (hk : ∀ x ∈ l, okE x) (hmk : ∀ x ∈ m, okE x) (hc : checkE l = 0) (hm : checkE m = 0) (i : Int) (v : List S45 × Int) (h : Ev (fun k => expr_Put.j0 (k + 1) l i m false) v) : Ev (fun k => expr_Put.f k l i m) v := by
  unfold expr_Put.f
  refine Ev.bind (check_ev _ hk) (Ev.congr (fun k => if_pos hc) ?_)
  refine Ev.bind (check_ev _ hmk) ?_
  have e : (checkE m != 0) = false := by rw [hm]; rfl
  rw [e]
  exact Ev.step (fun _ => rfl) h
theorem put_form (l m : List S45) (hk : ∀ x ∈ l, okE x) (hmk : ∀ x ∈ m, okE x) (hc : checkE l ≠ 0 ∨ checkE m ≠ 0) (i : Int) : Ev (fun k => expr_Put.f k l i m) ([], 1) := by
  have hj : Ev (fun k => expr_Put.j0 k l i m true) ([], 1) := by
    refine Ev.last fun k => ?_
    rw [expr_Put.j0, if_pos rfl]
  unfold expr_Put.f
  refine Ev.bind (check_ev _ hk) ?_
  by_cases h : checkE l = 0
  · refine Ev.congr (fun k => if_pos h) ?_
    refine Ev.bind (check_ev _ hmk) ?_
    have hm : checkE m ≠ 0 := by
      rcases hc with hc | hc
      · exact absurd h hc
      · exact hc
    have e : (checkE m != 0) = true := by simpa using hm
    rw [e]
    exact hj
  · exact Ev.congr (fun k => if_neg h) hj
theorem put_arg (l m : List S45) (hk : ∀ x ∈ l, okE x) (hmk : ∀ x ∈ m, okE x) (hc : checkE l = 0) (hm : checkE m = 0) (i : Int) (hi : i < 0 ∨ (l.length : Int) ≤ i) : Ev (fun k => expr_Put.f k l i m) ([], 2) := by
  refine put_go l m hk hmk hc hm i _ (Ev.pure fun k => ?_)
  rw [expr_Put.j0, if_neg (by simp)]
  by_cases h : i < 0
  · rw [if_pos h]
  · rw [if_neg h, if_pos (by omega)]
theorem part_form (l : List S45) (hk : ∀ x ∈ l, okE x) (hc : checkE l ≠ 0) (i : Int) : Ev (fun k => expr_Part.f k l i) ([], 1) := by
  unfold expr_Part.f
  exact Ev.bind (check_ev _ hk) (Ev.congr (fun k => if_neg hc) (Ev.now _))
theorem part_arg (l : List S45) (hk : ∀ x ∈ l, okE x) (hc : checkE l = 0) (i : Int) (hi : i < 0 ∨ (l.length : Int) ≤ i) : Ev (fun k => expr_Part.f k l i) ([], 2) := by
  unfold expr_Part.f
  refine Ev.bind (check_ev _ hk) (Ev.congr (fun k => if_pos hc) ?_)
  by_cases h : i < 0
  · refine Ev.congr (fun k => if_pos h) (Ev.last fun k => ?_)
    rw [expr_Part.j0, if_pos rfl]
  · refine Ev.congr (fun k => if_neg h) (Ev.last fun k => ?_)
    rw [expr_Part.j0, if_pos (by simp; omega)]
theorem shift_zero (l : List S45) (h : ∀ x ∈ l, ∀ k ∈ x.f3, 0 ≤ k ∧ k < 64) : l.map (shiftZ 0) = l := by
  conv => rhs; rw [← List.map_id l]
  refine List.map_congr_left fun x hx => ?_
  show shiftZ 0 x = x
  unfold shiftZ
  have e : x.f3.map (fun k => wrap64 (k + 0)) = x.f3 := by
    conv => rhs; rw [← List.map_id x.f3]
    refine List.map_congr_left fun k hkk => ?_
    have := h x hx k hkk
    show wrap64 (k + 0) = k
    rw [w64 _ (by omega)]
    omega
  rw [e]
theorem shift_flat (m : T) (b : Nat) (h : m.size ≤ 64) (hb : b ≤ 64) : (m.flat 0).map (shiftZ (b : Int)) = m.flat b := by
  have e := flat_moved b m 0
  rw [Nat.zero_add] at e
  rw [e]
  refine List.map_congr_left fun x hx => ?_
  have hk := flat_in m 0 x hx
  unfold shiftZ moved
  congr 1
  refine List.map_congr_left fun k hkk => ?_
  have := hk k hkk
  exact w64 _ (by omega)
theorem mv_reloc (l : List S45) (h : ∀ x ∈ l, ∀ k ∈ x.f3, 0 ≤ k ∧ k < 64) (i d : Int) (hd : -64 ≤ d ∧ d ≤ 64) : l.map (fun x => (⟨x.f0, x.f1, x.f2, x.f3.map (mv i d)⟩ : S45)) = l.map (reloc i d) := by
  refine List.map_congr_left fun x hx => ?_
  unfold reloc
  congr 1
  refine List.map_congr_left fun k hkk => ?_
  have := h x hx k hkk
  unfold mv
  rw [w64 _ (by omega)]
theorem put_ev (t : T) (hok : t.ok = true) (hs : t.size ≤ 64) (hk : ∀ x ∈ t.flat 0, okE x) (m : T) (hmok : m.ok = true) (hms : m.size ≤ 64) (hmk : ∀ x ∈ m.flat 0, okE x) (s u : T) (b : Nat) (h : Rep t 0 s b m u) :
    Ev (fun k => expr_Put.f k (t.flat 0) ((b + s.size - 1 : Nat) : Int) (m.flat 0)) (if u.size ≤ 64 then (u.flat 0, 0) else ([], 10)) := by
  obtain ⟨pre, post, e1, e2, h1, h2⟩ := h.flat_
  rw [Nat.zero_add] at h1 h2
  have hsz := h.size
  have hlen := flat_len 0 t
  have hml := flat_len 0 m
  have hsp := size_pos s
  have hmp := size_pos m
  have hb := begin_ev (t.flat 0) (by omega) s.size s b pre post (Nat.le_refl _) e1 h1
  have hin : ∀ x ∈ t.flat 0, ∀ k ∈ x.f3, 0 ≤ k ∧ k < 64 := fun x hx k hkk => by have := flat_in t 0 x hx k hkk; omega
  refine put_go _ _ hk hmk (checkE_flat t hok hs) (checkE_flat m hmok hms) _ _ ?_
  simp only [expr_Put.j0]
  refine Ev.congr (fun k => if_neg (by simp)) ?_
  refine Ev.congr (fun k => if_neg (by omega)) ?_
  refine Ev.congr (fun k => if_neg (by omega)) ?_
  refine Ev.bind hb ?_
  have w1 : wrap64 (((b + s.size - 1 : Nat) : Int) + 1) = ((b + s.size : Nat) : Int) := by rw [w64 _ (by omega)]; omega
  have w2 : wrap64 (((b + s.size : Nat) : Int) - (b : Int)) = (s.size : Int) := by rw [w64 _ (by omega)]; omega
  have w3 : wrap64 (((m.flat 0).length : Int) - (s.size : Int)) = (m.size : Int) - s.size := by rw [w64 _ (by omega)]; omega
  have w4 : wrap64 (((t.flat 0).length : Int) + ((m.size : Int) - s.size)) = (u.size : Int) := by rw [w64 _ (by omega)]; omega
  rw [w1, w2, w3, w4]
  clear w1 w2 w3 w4 hb
  by_cases hu : u.size ≤ 64
  · rw [if_pos hu]
    refine Ev.congr (fun k => if_neg (by omega)) ?_
    refine Ev.congr (fun k => if_pos (by omega)) ?_
    refine Ev.congr (fun k => if_pos (by omega)) ?_
    have hpre : (t.flat 0).take b = pre := by rw [e1, ← h1, List.append_assoc, List.take_left]
    have hpost : (t.flat 0).drop (b + s.size) = post := by
      rw [e1]
      have : (pre ++ s.flat b).length = b + s.size := by rw [List.length_append, flat_len, h1]
      rw [← this, List.drop_left]
    have hpl : post.length ≤ 64 := by rw [← hpost, List.length_drop]; omega
    rw [Int.toNat_natCast, Int.toNat_natCast, hpre, hpost]
    have mpre : ∀ x ∈ pre, x ∈ t.flat 0 := fun x hx => by rw [e1]; simp [hx]
    have mpost : ∀ x ∈ post, x ∈ t.flat 0 := fun x hx => by rw [e1]; simp [hx]
    have j1 := joinZ_ev [] pre 0 (by simp; omega) (fun x hx => hk x (mpre x hx))
    rw [shift_zero pre (fun x hx => hin x (mpre x hx)), List.nil_append] at j1
    refine Ev.bind j1 ?_
    have j2 := joinZ_ev pre (m.flat 0) (b : Int) (by omega) hmk
    rw [shift_flat m b hms (by omega)] at j2
    refine Ev.bind j2 ?_
    refine Ev.congr (fun k => if_pos (by omega)) ?_
    refine Ev.congr (fun k => if_pos (by omega)) ?_
    refine Ev.bind (Ev.now _) ?_
    have hl := put_loop ((b + s.size - 1 : Nat) : Int) ((m.size : Int) - s.size) post (pre ++ m.flat b) (by rw [List.length_append, flat_len]; omega) (fun x hx => (hk x (mpost x hx)).kids) post.length 0 (Nat.le_refl _) (by omega)
    rw [List.take_zero, List.map_nil, List.append_nil, mv_reloc post (fun x hx => hin x (mpost x hx)) _ _ (by omega)] at hl
    have ei : (((b + s.size - 1 : Nat)) : Int) = (b : Int) + s.size - 1 := by omega
    rw [e2, ← ei]
    exact hl
  · rw [if_neg hu]
    exact Ev.congr (fun k => if_pos (by omega)) (Ev.now _)
theorem okI_of {n : Int} (h : -9223372036854775808 ≤ n ∧ n ≤ 9223372036854775807) : okI n := by
  simp [okI, Lit.wf]
  exact h
theorem okE_of {x y : S45} (h : okE x) (h0 : y.f0 = x.f0) (h1 : y.f1 = x.f1) (h2 : y.f2 = x.f2) (hl : y.f3.length = x.f3.length) (hk : ∀ k ∈ y.f3, -128 ≤ k ∧ k ≤ 128) : okE y := by
  obtain ⟨a, b, c, d, _⟩ := h
  dsimp only at a b c d
  refine ⟨?_, ?_, ?_, ?_, fun k hkk => okI_of ?_⟩
  · show okI y.f0
    rw [h0]; exact a
  · show okI y.f1
    rw [h1]; exact b
  · show okS y.f2
    rw [h2]; exact c
  · show y.f3.length * 8 ≤ _
    rw [hl]; exact d
  · have := hk k hkk
    omega
theorem ok_at {t s : T} {b : Nat} (h : At t 0 s b) (hs : t.size ≤ 64) (hk : ∀ x ∈ t.flat 0, okE x) : ∀ x ∈ s.flat 0, okE x := by
  obtain ⟨pre, post, e, h1, h2⟩ := h.split
  intro x hx
  have e2 := flat_moved b s 0
  rw [Nat.zero_add] at e2
  have hm : moved b x ∈ t.flat 0 := by
    rw [e, e2]
    simp only [List.mem_append, List.mem_map]
    exact Or.inl (Or.inr ⟨x, hx, rfl⟩)
  refine okE_of (hk _ hm) rfl rfl rfl (by simp [moved]) fun k hkk => ?_
  have := flat_in s 0 x hx k hkk
  omega
theorem ok_rep {t s m u : T} {b : Nat} (h : Rep t 0 s b m u) (hs : t.size ≤ 64) (hms : m.size ≤ 64) (hk : ∀ x ∈ t.flat 0, okE x) (hmk : ∀ x ∈ m.flat 0, okE x) : ∀ x ∈ u.flat 0, okE x := by
  obtain ⟨pre, post, e1, e2, h1, h2⟩ := h.flat_
  have hsz := h.size
  have hsp := size_pos s
  intro x hx
  have hin := flat_in u 0 x hx
  rw [e2] at hx
  rcases List.mem_append.1 hx with hx | hx
  · rcases List.mem_append.1 hx with hx | hx
    · exact hk x (by rw [e1]; simp [hx])
    · have e := flat_moved b m 0
      rw [Nat.zero_add] at e
      rw [e] at hx
      obtain ⟨y, hy, rfl⟩ := List.mem_map.1 hx
      refine okE_of (hmk y hy) rfl rfl rfl (by simp [moved]) fun k hkk => ?_
      have := hin k hkk
      omega
  · obtain ⟨y, hy, rfl⟩ := List.mem_map.1 hx
    refine okE_of (hk y (by rw [e1]; simp [hy])) rfl rfl rfl (by simp [reloc]) fun k hkk => ?_
    have := hin k hkk
    omega
theorem Rep.self_eq {t s m u : T} {c b : Nat} (h : Rep t c s b m u) : s = m → u = t := by
  induction h with
  | here s c m => intro e; exact e.symm
  | kid op n name us t ts c s b m u h ih => intro e; rw [ih e]
theorem Rep.self {t s u : T} {c b : Nat} (h : Rep t c s b s u) : u = t := h.self_eq rfl
end Go.Proofs.YtacjjfoelhckcaaDoor.PExprPuts

namespace Go.Proofs.YtacjjfoelhckcaaDoor.exprPuts
set_option linter.unusedVariables false
open Go.RowKit Go.Proofs.YtacjjfoelhckcaaDoorW.PrintWords PExprPuts

theorem awake_ev : Ev (fun k => sorrellaw02_awake.f k) true := by
  unfold sorrellaw02_awake.f
  have hm : Ev (fun k => expr_Make.f k 1 7 (⟨#[]⟩ : ByteArray) ([] : List (List (S45)))) ([⟨1, 7, ⟨#[]⟩, []⟩], 0) := by
    unfold expr_Make.f
    have hst : Ev (fun k => expr_Make.l0 (k + 1) ([] : List (S45)) 1 ([] : List (List S45)) (([] : List (List S45)).length : Int) 0 1 7 (⟨#[]⟩ : ByteArray) ([] : List Int)) ([⟨1, 7, ⟨#[]⟩, []⟩], 0) := by
      simp only [expr_Make.l0]
      refine Ev.congr (fun k => if_neg (by simp)) ?_
      refine Ev.bind (sound_ev 1 7 ⟨#[]⟩ []) ?_
      refine Ev.congr (fun k => if_pos (by decide +kernel)) ?_
      exact Ev.pure fun k => rfl
    exact Ev.step (fun _ => rfl) hst
  refine Ev.bind hm ?_
  exact Ev.pure fun k => rfl
open Classical in
theorem same_yes (l : List S45) (hl : l.length ≤ 2513169434843) (hk : ∀ x ∈ l, okE x) : Ev (fun k => sorrelref02_Same.f k l l) true := by
  have := same_dec l l (by omega) (fun x hx => by have := (hk x hx).kids; omega)
  rw [decide_eq_true rfl] at this
  exact this
theorem law_ev (l : List S45) (i : Int) (m : List S45) (hlen : l.length ≤ 2513169434843) (hmlen : m.length ≤ 2513169434843) (hi64 : -9223372036854775808 ≤ i ∧ i ≤ 9223372036854775807) (hk : ∀ x ∈ l, okE x) (hmk : ∀ x ∈ m, okE x) : Ev (fun k => sorrellaw02_ExprPuts.f k l i m) true := by
  unfold sorrellaw02_ExprPuts.f
  have hcp := copy_ev l hlen hk
  have hcpm := copy_ev m hmlen hmk
  refine Ev.bind awake_ev (Ev.congr (fun k => if_pos rfl) ?_)
  refine Ev.bind hcp ?_
  by_cases hc : checkE l = 0
  · by_cases hi : i < 0 ∨ (l.length : Int) ≤ i
    · refine Ev.bind (part_arg l hk hc i hi) ?_
      refine Ev.congr (fun k => if_neg (by decide)) (Ev.bind (refCheck_ev l hk hlen) (Ev.congr (fun k => if_pos hc) ?_))
      refine Ev.pure fun k => ?_
      by_cases h0 : i < 0
      · rw [if_pos h0]
      · rw [if_neg h0]
        simp
        omega
    · obtain ⟨t, hok, hs, rfl⟩ := checkE_tree hc
      have hlt := flat_len 0 t
      obtain ⟨s, b, hat, hib⟩ := at_of t 0 i.toNat (by omega) (by omega)
      have hsp := size_pos s
      have ei : i = ((b + s.size - 1 : Nat) : Int) := by omega
      have hsplit := hat.split
      have hsok := hat.ok hok
      have hbs : b + s.size ≤ t.size := by obtain ⟨pre, _, _, h1, h2⟩ := hsplit; omega
      have hsk := ok_at hat hs hk
      have hsl := flat_len 0 s
      have hpart := part_ev t hok hs hk s b hat
      rw [← ei] at hpart
      refine Ev.bind hpart (Ev.congr (fun k => if_pos rfl) ?_)
      have hcps := copy_ev (s.flat 0) (by omega) hsk
      obtain ⟨u0, hrep0⟩ := hat.rep s
      obtain rfl := hrep0.self
      have hput0 := put_ev u0 hok hs hk s hsok (by omega) hsk s u0 b hrep0
      rw [if_pos hs, ← ei] at hput0
      refine Ev.bind hcp (Ev.bind hcps (Ev.bind hput0 (Ev.congr (fun k => if_pos rfl) (Ev.bind (same_yes _ hlen hk) ?_))))
      have hst : Ev (fun k => sorrellaw02_ExprPuts.j0 (k + 1) (u0.flat 0) i m (s.flat 0) (!true)) true := by
        simp only [sorrellaw02_ExprPuts.j0]
        refine Ev.congr (fun k => if_neg (by decide)) ?_
        refine Ev.bind hcp (Ev.bind hcpm ?_)
        by_cases hmc : checkE m = 0
        · obtain ⟨mt, hmok, hms, rfl⟩ := checkE_tree hmc
          have hml := flat_len 0 mt
          have hmp := size_pos mt
          obtain ⟨u, hrep⟩ := hat.rep mt
          have hus := hrep.size
          have huok := hrep.ok hok hmok
          have hput := put_ev u0 hok hs hk mt hmok hms hmk s u b hrep
          rw [← ei] at hput
          refine Ev.bind hput ?_
          have w2 : wrap64 (wrap64 (((u0.flat 0).length : Int) - ((s.flat 0).length : Int)) + ((mt.flat 0).length : Int)) = (u.size : Int) := by
            rw [w64 (((u0.flat 0).length : Int) - ((s.flat 0).length : Int)) (by omega), w64 _ (by omega)]
            omega
          have w1 : wrap64 (wrap64 (i - ((s.flat 0).length : Int)) + ((mt.flat 0).length : Int)) = ((b + mt.size - 1 : Nat) : Int) := by
            rw [w64 (i - ((s.flat 0).length : Int)) (by omega), w64 _ (by omega)]
            omega
          rw [w1, w2]
          clear w1 w2
          by_cases hu : u.size ≤ 64
          · rw [if_pos hu]
            have huk := ok_rep hrep hs hms hk hmk
            have hul := flat_len 0 u
            have hcpu := copy_ev (u.flat 0) (by omega) huk
            have hpart2 := part_ev u huok hu huk mt b hrep.back.at_
            have hput2 := put_ev u huok hu huk s hsok (by omega) hsk mt u0 b hrep.back
            rw [if_pos hs] at hput2
            refine Ev.congr (fun k => if_pos rfl) (Ev.bind hcpu (Ev.bind hpart2 (Ev.bind hcpu (Ev.bind hcps (Ev.bind hput2 (Ev.congr (fun k => if_pos rfl) (Ev.congr (fun k => if_pos rfl) ?_)))))))
            refine Ev.bind (same_yes _ hmlen hmk) (Ev.congr (fun k => if_pos rfl) (Ev.bind (same_yes _ hlen hk) (Ev.congr (fun k => if_pos rfl) ?_)))
            refine Ev.pure fun k => ?_
            rw [hul, beq_self_eq_true]
          · rw [if_neg hu]
            refine Ev.congr (fun k => if_neg (by decide)) (Ev.bind (refCheck_ev _ hmk hmlen) (Ev.congr (fun k => if_pos hmc) ?_))
            refine Ev.pure fun k => ?_
            simp
            omega
        · refine Ev.bind (put_form _ m hk hmk (Or.inr hmc) i) ?_
          refine Ev.congr (fun k => if_neg (by decide)) (Ev.bind (refCheck_ev m hmk hmlen) (Ev.congr (fun k => if_neg hmc) (Ev.now _)))
      exact Ev.step (fun _ => rfl) hst
  · refine Ev.bind (part_form l hk hc i) ?_
    exact Ev.congr (fun k => if_neg (by decide)) (Ev.bind (refCheck_ev l hk hlen) (Ev.congr (fun k => if_neg hc) (Ev.now _)))
theorem pure (l : List S45) (h : okR 56 (fun x : S45 => okN (x.f0, x.f1, x.f2, x.f3)) l) (i : Int) (hi : okI i) (m : List S45) (h2 : okR 56 (fun x : S45 => okN (x.f0, x.f1, x.f2, x.f3)) m) : ∃ k, sorrellaw02_ExprPuts.f k l i m = some true :=
  (law_ev l i m (by have := h.1; omega) (by have := h2.1; omega) hi.bounds h.2 h2.2).rounds
end Go.Proofs.YtacjjfoelhckcaaDoor.exprPuts
