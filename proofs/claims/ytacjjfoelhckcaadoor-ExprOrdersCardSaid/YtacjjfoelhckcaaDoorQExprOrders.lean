/- The plain law of ExprOrders. -/
import Derived.Test.YtacjjfoelhckcaaDoorPExprOrdersx
import Derived.Test.YtacjjfoelhckcaaDoorM2
import Derived.Test.YtacjjfoelhckcaaDoorO2
import Derived.Test.YtacjjfoelhckcaaDoorM5
/- Plain laws, part 1: operators, sound nodes, rows of numbers, the check of a text of nodes (by the open ones; by walking). -/
namespace Go.Proofs.YtacjjfoelhckcaaDoor.PExprOrders
open Go.RowKit Go.Proofs.YtacjjfoelhckcaaDoorW.PrintWords
set_option linter.unusedVariables false

theorem arity_ev (a : Int) : Ev (fun k => expr_Arity.f k a) (arE a) := by
  refine Ev.step (f := fun k => expr_Arity.f (k + 1) a) (fun _ => rfl) (Ev.last fun k => ?_)
  simp only [expr_Arity.f, expr_Arity.j0, expr_Arity.j1, arE, arityZ]
  repeat' split
  all_goals simp_all
  all_goals omega
theorem sound_ev (op n : Int) (name : ByteArray) (kids : List Int) : Ev (fun k => expr_sound.f k op n name kids) (formB op n name kids.length) := by
  unfold expr_sound.f
  refine Ev.bind (arity_ev op) ?_
  refine Ev.last fun k => ?_
  have := arityZ_bounds op
  simp only [arE, formB, expr_sound.j0, runes_Name.f]
  repeat' split
  all_goals simp_all
  all_goals omega
theorem equal_loop (a b : List Int) (hl : a.length = b.length) (hb : a.length ≤ 9223372036854775806) : ∀ (n i : Nat), a.length - i ≤ n → i ≤ a.length →
    Ev (fun k => slices_Equal_int_int.l0 k a b (a.length : Int) (i : Int)) (decide (a.drop i = b.drop i)) := by
  intro n
  induction n with
  | zero =>
    intro i h1 h2
    refine Ev.last fun k => ?_
    rw [slices_Equal_int_int.l0, if_neg (by omega), List.drop_eq_nil_of_le (by omega), List.drop_eq_nil_of_le (by omega)]
    rfl
  | succ n ih =>
    intro i h1 h2
    by_cases hi : i < a.length
    · rw [List.drop_eq_getElem_cons hi, List.drop_eq_getElem_cons (by omega : i < b.length)]
      have ea : rd a (i : Int) = a[i] := getD_lt a i 0 hi
      have eb : rd b (i : Int) = b[i] := getD_lt b i 0 (by omega)
      by_cases he : a[i] = b[i]
      · refine Ev.step (f := fun k => slices_Equal_int_int.l0 k a b (a.length : Int) ((i + 1 : Nat) : Int)) (fun k => ?_) ?_
        · rw [slices_Equal_int_int.l0, if_pos (by omega), if_pos (by omega), if_pos (by omega), if_pos (by omega), ea, eb, if_pos he, w64 _ (by omega)]; rfl
        · have := ih (i + 1) (by omega) (by omega)
          simpa only [List.cons.injEq, he, true_and] using this
      · refine Ev.last fun k => ?_
        rw [slices_Equal_int_int.l0, if_pos (by omega), if_pos (by omega), if_pos (by omega), if_pos (by omega), ea, eb, if_neg he]
        simp only [List.cons.injEq, he, false_and, decide_false]
    · refine Ev.last fun k => ?_
      rw [slices_Equal_int_int.l0, if_neg (by omega), List.drop_eq_nil_of_le (by omega), List.drop_eq_nil_of_le (by omega)]
      rfl
theorem equal_ev (a b : List Int) (hb : a.length ≤ 9223372036854775806) : Ev (fun k => slices_Equal_int_int.f k a b) (decide (a = b)) := by
  unfold slices_Equal_int_int.f
  by_cases hl : a.length = b.length
  · refine Ev.congr (fun k => if_pos (by omega)) ?_
    have := equal_loop a b hl hb _ 0 (Nat.le_refl _) (by omega)
    simpa using this
  · refine Ev.congr (fun k => if_neg (by omega)) ?_
    have : a ≠ b := fun h => hl (by rw [h])
    simp only [this, decide_false]
    exact Ev.now _

/-! ### the check by the open ones -/
def formN (x : S45) : Bool := formB x.f0 x.f1 x.f2 x.f3.length
def fitsN (st : List Int) (x : S45) : Bool := formN x && decide (x.f3.length ≤ st.length) && decide (st.drop (st.length - x.f3.length) = x.f3)
def checkFrom (st : List Int) (i : Nat) : List S45 → Int
  | [] => if st.length = 1 then 0 else 1
  | x :: r => if fitsN st x = true then checkFrom (st.take (st.length - x.f3.length) ++ [(i : Int)]) (i + 1) r else 1
def checkE (l : List S45) : Int := if l.length < 1 ∨ 64 < l.length then 1 else checkFrom [] 0 l
theorem check_loop (l : List S45) (hl : l.length ≤ 64) (hk : ∀ x ∈ l, okN (x.f0, x.f1, x.f2, x.f3)) : ∀ (n i : Nat) (st : List Int), l.length - i ≤ n → i ≤ l.length → st.length ≤ i →
    Ev (fun k => expr_Check.l0 k st l (l.length : Int) (i : Int)) (checkFrom st i (l.drop i)) := by
  intro n
  induction n with
  | zero =>
    intro i st h1 h2 h3
    refine Ev.last fun k => ?_
    rw [expr_Check.l0, if_neg (by omega), List.drop_eq_nil_of_le (by omega), checkFrom]
    split <;> split <;> first | rfl | omega
  | succ n ih =>
    intro i st h1 h2 h3
    by_cases hi : i < l.length
    · rw [List.drop_eq_getElem_cons hi, checkFrom]
      have ea : rd_T45 l (i : Int) = l[i] := getD_lt l i _ hi
      have hx := hk _ (List.getElem_mem hi)
      have hkid : (l[i]).f3.length ≤ 17592186043904 := by have := hx.2.2.2.1; dsimp only at this; omega
      generalize hxx : l[i] = x at *
      refine Ev.step (f := fun k => (expr_sound.f k x.f0 x.f1 x.f2 x.f3).bind fun t109 => (if t109 = true then (expr_Check.j2 k st i l (l.length : Int) i (decide ((x.f3.length : Int) > (st.length : Int))) x.f0 x.f1 x.f2 x.f3) else (expr_Check.j2 k st i l (l.length : Int) i true x.f0 x.f1 x.f2 x.f3))) (fun k => ?_) ?_
      · rw [expr_Check.l0, if_pos (by omega), if_pos (by omega), if_pos (by omega), ea]
      refine Ev.bind (sound_ev x.f0 x.f1 x.f2 x.f3) ?_
      by_cases hf : formB x.f0 x.f1 x.f2 x.f3.length = true
      · refine Ev.congr (fun k => if_pos hf) ?_
        by_cases hc : x.f3.length ≤ st.length
        · have e1 : wrap64 ((st.length : Int) - (x.f3.length : Int)) = ((st.length - x.f3.length : Nat) : Int) := by rw [w64 _ (by omega)]; omega
          have e2 : (decide ((x.f3.length : Int) > (st.length : Int))) = false := by simp; omega
          by_cases hd : st.drop (st.length - x.f3.length) = x.f3
          · have e3 : fitsN st x = true := by simp [fitsN, formN, hf, hc, hd]
            rw [if_pos e3]
            refine Ev.step (f := fun k => (slices_Equal_int_int.f k (st.drop (st.length - x.f3.length)) x.f3).bind fun t114 => (if t114 = true then ((some (st.take (st.length - x.f3.length) : List Int)).bind fun y115 => (if y115.length < 17592186044416 then (expr_Check.l0 k (y115 ++ [(i : Int)]) l (l.length : Int) (wrap64 ((i : Int) + 1))) else (none))) else (some 1))) (fun k => ?_) ?_
            · rw [expr_Check.j2, e2, if_neg (by simp), e1, if_pos (by omega), if_pos (by omega)]
              rfl
            refine Ev.bind (equal_ev _ _ (by rw [List.length_drop]; omega)) ?_
            have e4 : decide (st.drop (st.length - x.f3.length) = x.f3) = true := by simpa using hd
            refine Ev.congr (fun k => if_pos e4) ?_
            refine Ev.congr (f := fun k => expr_Check.l0 k (st.take (st.length - x.f3.length) ++ [(i : Int)]) l (l.length : Int) ((i + 1 : Nat) : Int)) (fun k => ?_) ?_
            · rw [Option.bind_some, if_pos (by rw [List.length_take]; omega), w64 _ (by omega)]; rfl
            · exact ih (i + 1) _ (by omega) (by omega) (by rw [List.length_append, List.length_take]; simp; omega)
          · have e3 : ¬ fitsN st x = true := by simp [fitsN, hd]
            rw [if_neg e3]
            refine Ev.step (f := fun k => (slices_Equal_int_int.f k (st.drop (st.length - x.f3.length)) x.f3).bind fun t114 => (if t114 = true then ((some (st.take (st.length - x.f3.length) : List Int)).bind fun y115 => (if y115.length < 17592186044416 then (expr_Check.l0 k (y115 ++ [(i : Int)]) l (l.length : Int) (wrap64 ((i : Int) + 1))) else (none))) else (some 1))) (fun k => ?_) ?_
            · rw [expr_Check.j2, e2, if_neg (by simp), e1, if_pos (by omega), if_pos (by omega)]
              rfl
            refine Ev.bind (equal_ev _ _ (by rw [List.length_drop]; omega)) ?_
            have e4 : ¬ decide (st.drop (st.length - x.f3.length) = x.f3) = true := by simpa using hd
            exact Ev.congr (fun k => if_neg e4) (Ev.now _)
        · have e3 : ¬ fitsN st x = true := by simp [fitsN, hc]
          rw [if_neg e3]
          refine Ev.last fun k => ?_
          rw [expr_Check.j2, if_pos (by simp; omega)]
      · have e3 : ¬ fitsN st x = true := by simp [fitsN, formN, hf]
        rw [if_neg e3]
        refine Ev.congr (fun k => if_neg hf) ?_
        refine Ev.last fun k => ?_
        rw [expr_Check.j2, if_pos rfl]
    · refine Ev.last fun k => ?_
      rw [expr_Check.l0, if_neg (by omega), List.drop_eq_nil_of_le (by omega), checkFrom]
      split <;> split <;> first | rfl | omega
theorem check_ev (l : List S45) (hk : ∀ x ∈ l, okN (x.f0, x.f1, x.f2, x.f3)) : Ev (fun k => expr_Check.f k l) (checkE l) := by
  unfold expr_Check.f checkE
  by_cases h1 : l.length < 1
  · rw [if_pos (Or.inl h1)]
    refine Ev.congr (fun k => if_pos (by omega)) (Ev.last fun k => ?_)
    rw [expr_Check.j0, if_pos rfl]
  · refine Ev.congr (fun k => if_neg (by omega)) ?_
    by_cases h2 : 64 < l.length
    · rw [if_pos (Or.inr h2)]
      refine Ev.last fun k => ?_
      rw [expr_Check.j0, if_pos (by simp; omega)]
    · rw [if_neg (by omega)]
      refine Ev.step (f := fun k => expr_Check.l0 k [] l (l.length : Int) ((0 : Nat) : Int)) (fun k => ?_) ?_
      · rw [expr_Check.j0, if_neg (by simp; omega)]; rfl
      · exact check_loop l (by omega) hk _ 0 [] (Nat.le_refl _) (by omega) (by simp)
end Go.Proofs.YtacjjfoelhckcaaDoor.PExprOrders

/- Plain laws, part 2: the check of a text of nodes by walking; it answers as the check by the open ones. -/
namespace Go.Proofs.YtacjjfoelhckcaaDoor.PExprOrders
open Go.RowKit Go.Proofs.YtacjjfoelhckcaaDoorW.PrintWords
set_option linter.unusedVariables false

/-- Walking from r comes to v. -/
def Wk (l : List S45) (r v : Int) : Prop := Ev (fun k => sorrelref02_walk.f k l r) v
def Good (l : List S45) (i : Int) : Prop := ∃ u, Wk l i u ∧ u ≠ -2
theorem wk_neg (l : List S45) (r : Int) (h : r < 0) : Wk l r (-2) := by
  refine Ev.last fun k => ?_
  rw [sorrelref02_walk.f, if_pos h]
/-- One kid of those that are left. -/
theorem kid_ne (l : List S45) (kids : List Int) (hk : kids.length ≤ 17592186043904) (m : Nat) (hm : m < kids.length) (at' : Int) (hne : kids[m] ≠ at') : Ev (fun k => sorrelref02_walk.l0 k l at' kids (m : Int)) (-2) := by
  have ea : rd kids (m : Int) = kids[m] := getD_lt kids m 0 hm
  refine Ev.last fun k => ?_
  rw [sorrelref02_walk.l0, if_pos (by omega), if_pos (by omega), if_pos (by omega), ea, if_neg hne]
theorem kid_bad (l : List S45) (kids : List Int) (hk : kids.length ≤ 17592186043904) (m : Nat) (hm : m < kids.length) (hw : Wk l kids[m] (-2)) : Ev (fun k => sorrelref02_walk.l0 k l kids[m] kids (m : Int)) (-2) := by
  have ea : rd kids (m : Int) = kids[m] := getD_lt kids m 0 hm
  refine Ev.step (f := fun k => (sorrelref02_walk.f k l kids[m]).bind fun t172 => (if t172 = (-2) then (some (-2)) else (sorrelref02_walk.l0 k l t172 kids (wrap64 ((m : Int) - 1))))) (fun k => ?_) (Ev.bind hw ?_)
  · rw [sorrelref02_walk.l0, if_pos (by omega), if_pos (by omega), if_pos (by omega), ea, if_pos rfl]
  · exact Ev.congr (fun k => if_pos rfl) (Ev.now _)
theorem kid_on (l : List S45) (kids : List Int) (hk : kids.length ≤ 17592186043904) (m : Nat) (hm : m < kids.length) {u v : Int} (hw : Wk l kids[m] u) (hu : u ≠ -2) (hv : Ev (fun k => sorrelref02_walk.l0 k l u kids ((m : Int) - 1)) v) :
    Ev (fun k => sorrelref02_walk.l0 k l kids[m] kids (m : Int)) v := by
  have ea : rd kids (m : Int) = kids[m] := getD_lt kids m 0 hm
  refine Ev.step (f := fun k => (sorrelref02_walk.f k l kids[m]).bind fun t172 => (if t172 = (-2) then (some (-2)) else (sorrelref02_walk.l0 k l t172 kids (wrap64 ((m : Int) - 1))))) (fun k => ?_) (Ev.bind hw ?_)
  · rw [sorrelref02_walk.l0, if_pos (by omega), if_pos (by omega), if_pos (by omega), ea, if_pos rfl]
  · refine Ev.congr (fun k => if_neg hu) ?_
    rw [w64 _ (by omega)]
    exact hv
theorem kid_end (l : List S45) (kids : List Int) (at' j : Int) (h : j < 0) : Ev (fun k => sorrelref02_walk.l0 k l at' kids j) at' := by
  refine Ev.last fun k => ?_
  rw [sorrelref02_walk.l0, if_neg (by omega)]
/-- A node: its kids, from the last. -/
theorem wk_node (l : List S45) (hl : l.length ≤ 64) (r : Nat) (hr : r < l.length) (hk : (l[r]).f3.length ≤ 17592186043904) {v : Int} (h : Ev (fun k => sorrelref02_walk.l0 k l ((r : Int) - 1) (l[r]).f3 (((l[r]).f3.length : Int) - 1)) v) : Wk l r v := by
  have ea : rd_T45 l (r : Int) = l[r] := getD_lt l r _ hr
  refine Ev.step (f := fun k => sorrelref02_walk.l0 k l ((r : Int) - 1) (l[r]).f3 (((l[r]).f3.length : Int) - 1)) (fun k => ?_) h
  rw [sorrelref02_walk.f, if_neg (by omega), if_pos (by omega), if_pos (by omega), ea, w64 ((r : Int) - 1) (by omega), w64 (((l[r]).f3.length : Int) - 1) (by omega)]

/-- A walk ends; what it has passed are nodes from which walking goes well. -/
theorem walk_ends (l : List S45) (hl : l.length ≤ 64) (hk : ∀ x ∈ l, okN (x.f0, x.f1, x.f2, x.f3)) : ∀ (n : Nat) (r : Int), r < n → r < l.length → ∃ v, Wk l r v ∧ (v = -2 ∨ (-1 ≤ v ∧ v < r ∧ ∀ i, v < i → i ≤ r → Good l i)) := by
  intro n
  induction n with
  | zero => intro r h _; exact ⟨-2, wk_neg l r (by omega), .inl rfl⟩
  | succ n ih =>
    intro r h hrl
    by_cases h0 : r < 0
    · exact ⟨-2, wk_neg l r h0, .inl rfl⟩
    obtain ⟨r, rfl⟩ : ∃ q : Nat, r = q := ⟨r.toNat, by omega⟩
    have hlt : r < l.length := by omega
    have hkid : (l[r]).f3.length ≤ 17592186043904 := by have := (hk _ (List.getElem_mem hlt)).2.2.2.1; dsimp only at this; omega
    have inner : ∀ (m : Nat) (at' : Int), m ≤ (l[r]).f3.length → -1 ≤ at' → at' ≤ r - 1 → (∀ i, at' < i → i ≤ r - 1 → Good l i) →
        ∃ v, Ev (fun k => sorrelref02_walk.l0 k l at' (l[r]).f3 ((m : Int) - 1)) v ∧ (v = -2 ∨ (-1 ≤ v ∧ v ≤ at' ∧ ∀ i, v < i → i ≤ r - 1 → Good l i)) := by
      intro m
      induction m with
      | zero => intro at' _ h1 h2 h3; exact ⟨at', kid_end l _ at' _ (by omega), .inr ⟨h1, Int.le_refl _, h3⟩⟩
      | succ m ihm =>
        intro at' hm h1 h2 h3
        have em : ((m + 1 : Nat) : Int) - 1 = (m : Int) := by omega
        rw [em]
        by_cases he : (l[r]).f3[m] = at'
        · obtain ⟨u, hu, hu2⟩ := ih at' (by omega) (by omega)
          subst he
          rcases hu2 with rfl | ⟨g1, g2, g3⟩
          · exact ⟨-2, kid_bad l _ hkid m (by omega) hu, .inl rfl⟩
          · have hne : u ≠ -2 := by omega
            obtain ⟨v, hv, hv2⟩ := ihm u (by omega) g1 (by omega) (fun i hi1 hi2 => by
              by_cases hc : i ≤ (l[r]).f3[m]
              · exact g3 i hi1 hc
              · exact h3 i (by omega) hi2)
            refine ⟨v, kid_on l _ hkid m (by omega) hu hne hv, ?_⟩
            rcases hv2 with rfl | ⟨k1, k2, k3⟩
            · exact .inl rfl
            · exact .inr ⟨k1, by omega, k3⟩
        · exact ⟨-2, kid_ne l _ hkid m (by omega) at' he, .inl rfl⟩
    obtain ⟨v, hv, hv2⟩ := inner _ ((r : Int) - 1) (Nat.le_refl _) (by omega) (Int.le_refl _) (fun i h1 h2 => by omega)
    have hw := wk_node l hl r hlt hkid hv
    refine ⟨v, hw, ?_⟩
    rcases hv2 with rfl | ⟨g1, g2, g3⟩
    · exact .inl rfl
    · refine .inr ⟨g1, by omega, fun i h1 h2 => ?_⟩
      by_cases hc : i = r
      · subst hc; exact ⟨v, hw, by omega⟩
      · exact g3 i h1 (by omega)

/-- The open ones, the last first: each is where walking from the one before it comes to. -/
def Ch (l : List S45) : List Int → Int → Prop
  | [], a => a = -1
  | t :: ts, a => t = a ∧ 0 ≤ t ∧ ∃ u, Wk l t u ∧ u ≠ -2 ∧ Ch l ts u
theorem ch_ne {l : List S45} {rs : List Int} {a : Int} (h : Ch l rs a) : a ≠ -2 := by
  cases rs with
  | nil => have : a = -1 := h; omega
  | cons t ts => have := h.1; have := h.2.1; omega
theorem kids_walk (l : List S45) (kids : List Int) (hk : kids.length ≤ 17592186043904) : ∀ (m : Nat) (rs : List Int) (a : Int), m ≤ kids.length → Ch l rs a →
    (rs.take m = (kids.take m).reverse ∧ ∃ u, Ev (fun k => sorrelref02_walk.l0 k l a kids ((m : Int) - 1)) u ∧ Ch l (rs.drop m) u) ∨
    (rs.take m ≠ (kids.take m).reverse ∧ Ev (fun k => sorrelref02_walk.l0 k l a kids ((m : Int) - 1)) (-2)) := by
  intro m
  induction m with
  | zero => intro rs a _ h; exact .inl ⟨rfl, a, kid_end l _ a _ (by omega), h⟩
  | succ m ih =>
    intro rs a hm h
    have em : ((m + 1 : Nat) : Int) - 1 = (m : Int) := by omega
    have et : (kids.take (m + 1)).reverse = kids[m] :: (kids.take m).reverse := by rw [List.take_succ_eq_append_getElem (by omega), List.reverse_append]; rfl
    rw [em, et]
    by_cases he : kids[m] = a
    · cases rs with
      | nil =>
        have ha : a = -1 := h
        refine .inr ⟨by simp, ?_⟩
        subst he
        exact kid_bad l kids hk m (by omega) (wk_neg l _ (by omega))
      | cons t ts =>
        obtain ⟨h1, h2, u, hu, hne, hc⟩ := h
        subst h1
        rcases ih ts u (by omega) hc with ⟨e, v, hv, hcv⟩ | ⟨e, hv⟩
        · refine .inl ⟨by simp [e, he], v, ?_, hcv⟩
          rw [← he] at hu ⊢
          exact kid_on l kids hk m (by omega) hu hne hv
        · refine .inr ⟨by simp [e], ?_⟩
          rw [← he] at hu ⊢
          exact kid_on l kids hk m (by omega) hu hne hv
    · refine .inr ⟨?_, kid_ne l kids hk m (by omega) a he⟩
      cases rs with
      | nil => simp
      | cons t ts =>
        have : t = a := h.1
        simp
        intro h'
        omega
/-- The check by the open ones, where all nodes are sound: by walking from the last. -/
theorem check_walk (l : List S45) (h1l : 1 ≤ l.length) (hl : l.length ≤ 64) (hk : ∀ x ∈ l, okN (x.f0, x.f1, x.f2, x.f3)) (hf : ∀ x ∈ l, formN x = true) (v : Int) (hv : Wk l ((l.length : Int) - 1) v)
    (hg : v = -1 → ∀ i : Int, -1 < i → i ≤ (l.length : Int) - 1 → Good l i) : ∀ (n i : Nat) (st : List Int), l.length - i ≤ n → i ≤ l.length → Ch l st.reverse ((i : Int) - 1) → checkFrom st i (l.drop i) = if v = -1 then 0 else 1 := by
  have done : ∀ (st : List Int), Ch l st.reverse ((l.length : Int) - 1) → (if st.length = 1 then (0 : Int) else 1) = if v = -1 then 0 else 1 := by
    intro st hc
    have e : st.length = st.reverse.length := by simp
    rw [e]
    clear e
    generalize st.reverse = rs at hc
    cases rs with
    | nil => have : (l.length : Int) - 1 = -1 := hc; omega
    | cons t ts =>
      obtain ⟨e1, e2, u, hu, hne, hc⟩ := hc
      subst e1
      have := Ev.one hu hv
      subst this
      cases ts with
      | nil => have : u = -1 := hc; simp [this]
      | cons t2 ts => have e3 := hc.1; have e4 := hc.2.1; rw [if_neg (by simp), if_neg (by omega)]
  intro n
  induction n with
  | zero =>
    intro i st h1 h2 hc
    have e : i = l.length := by omega
    subst e
    rw [List.drop_eq_nil_of_le (by omega), checkFrom]
    exact done st hc
  | succ n ih =>
    intro i st h1 h2 hc
    by_cases hi : i < l.length
    · rw [List.drop_eq_getElem_cons hi, checkFrom]
      have hkid : (l[i]).f3.length ≤ 17592186043904 := by have := (hk _ (List.getElem_mem hi)).2.2.2.1; dsimp only at this; omega
      have hform := hf _ (List.getElem_mem hi)
      have key := kids_walk l (l[i]).f3 hkid (l[i]).f3.length st.reverse ((i : Int) - 1) (Nat.le_refl _) hc
      rw [List.take_length] at key
      have hfit : fitsN st l[i] = true ↔ st.reverse.take (l[i]).f3.length = (l[i]).f3.reverse := by
        rw [fitsN, hform]
        simp only [Bool.true_and, Bool.and_eq_true, decide_eq_true_eq]
        rw [List.take_reverse]
        constructor
        · rintro ⟨_, e⟩; rw [e]
        · intro e
          have e' := List.reverse_inj.1 e
          refine ⟨?_, e'⟩
          have := congrArg List.length e'
          rw [List.length_drop] at this
          omega
      rcases key with ⟨e, u, hu, hcu⟩ | ⟨e, hu⟩
      · rw [if_pos (hfit.2 e)]
        refine ih (i + 1) _ (by omega) (by omega) ?_
        rw [List.reverse_append]
        refine ⟨by simp, by simp, u, wk_node l hl i hi hkid hu, ch_ne hcu, ?_⟩
        rw [List.drop_reverse] at hcu
        exact hcu
      · rw [if_neg (fun h => e (hfit.1 h))]
        have hw := wk_node l hl i hi hkid hu
        rw [if_neg]
        intro hv1
        obtain ⟨u, hu1, hu2⟩ := hg hv1 i (by omega) (by omega)
        exact hu2 (Ev.one hu1 hw)
    · have e : i = l.length := by omega
      subst e
      rw [List.drop_eq_nil_of_le (by omega), checkFrom]
      exact done st hc
theorem check_bad : ∀ (r : List S45) (st : List Int) (i : Nat), (∃ x ∈ r, ¬ formN x = true) → checkFrom st i r = 1 := by
  intro r
  induction r with
  | nil => rintro st i ⟨x, hx, _⟩; cases hx
  | cons x r ih =>
    rintro st i ⟨y, hy, hn⟩
    rw [checkFrom]
    split
    · rename_i hfit
      refine ih _ _ ⟨y, ?_, hn⟩
      rcases List.mem_cons.1 hy with rfl | hy
      · exact absurd (by simp [fitsN] at hfit; exact hfit.1.1) hn
      · exact hy
    · rfl
theorem refCheck_loop (l : List S45) (h1l : 1 ≤ l.length) (hl : l.length ≤ 64) (hk : ∀ x ∈ l, okN (x.f0, x.f1, x.f2, x.f3)) : ∀ (n i : Nat), l.length - i ≤ n → i ≤ l.length → (∀ x ∈ l.take i, formN x = true) →
    Ev (fun k => sorrelref02_Check.l0 k l (i : Int)) (checkFrom [] 0 l) := by
  have fin : ∀ i, i ≤ l.length → l.length ≤ i → (∀ x ∈ l.take i, formN x = true) → Ev (fun k => sorrelref02_Check.l0 k l (i : Int)) (checkFrom [] 0 l) := by
    intro i h2 h3 hf
    have e : i = l.length := by omega
    subst e
    rw [List.take_length] at hf
    obtain ⟨v, hv, hv2⟩ := walk_ends l hl hk l.length ((l.length : Int) - 1) (by omega) (by omega)
    have h := check_walk l h1l hl hk hf v hv (fun e i a b => by
      rcases hv2 with rfl | ⟨_, _, g⟩
      · omega
      · exact g i (by omega) b) l.length 0 [] (by omega) (by omega) (by show ((0 : Nat) : Int) - 1 = -1; omega)
    rw [List.drop_zero] at h
    rw [h]
    refine Ev.step (f := fun k => (sorrelref02_walk.f k l ((l.length : Int) - 1)).bind fun t175 => (if t175 = (-1) then (some 0) else (some 1))) (fun k => ?_) (Ev.bind hv ?_)
    · rw [sorrelref02_Check.l0, if_neg (by omega), w64 _ (by omega)]
    · refine Ev.pure fun k => ?_
      split <;> rfl
  intro n
  induction n with
  | zero => intro i h1 h2 hf; exact fin i h2 (by omega) hf
  | succ n ih =>
    intro i h1 h2 hf
    by_cases hi : i < l.length
    · have ea : rd_T45 l (i : Int) = l[i] := getD_lt l i _ hi
      have hx := hk _ (List.getElem_mem hi)
      have ef := form_eq (l[i]).f0 (l[i]).f1 (l[i]).f2 (l[i]).f3 hx.2.2.1
      by_cases hform : formN l[i] = true
      · refine Ev.step (f := fun k => sorrelref02_Check.l0 k l ((i + 1 : Nat) : Int)) (fun k => ?_) (ih (i + 1) (by omega) (by omega) ?_)
        · have hform' : formB (l[i]).f0 (l[i]).f1 (l[i]).f2 (l[i]).f3.length = true := hform
          rw [sorrelref02_Check.l0, if_pos (by omega), if_pos (by omega), ea, ef, Option.bind_some, if_pos hform', w64 _ (by omega)]; rfl
        · intro x hx
          rw [List.take_succ_eq_append_getElem hi, List.mem_append] at hx
          rcases hx with hx | hx
          · exact hf x hx
          · obtain rfl : x = l[i] := by simpa using hx
            exact hform
      · rw [check_bad l [] 0 ⟨_, List.getElem_mem hi, hform⟩]
        have hform' : ¬ formB (l[i]).f0 (l[i]).f1 (l[i]).f2 (l[i]).f3.length = true := hform
        refine Ev.last fun k => ?_
        rw [sorrelref02_Check.l0, if_pos (by omega), if_pos (by omega), ea, ef, Option.bind_some, if_neg hform']
    · exact fin i h2 (by omega) hf
theorem refCheck_ev (l : List S45) (hk : ∀ x ∈ l, okN (x.f0, x.f1, x.f2, x.f3)) (hb : l.length ≤ 2513169434843) : Ev (fun k => sorrelref02_Check.f k l) (checkE l) := by
  unfold sorrelref02_Check.f checkE
  by_cases h1 : l.length < 1
  · rw [if_pos (Or.inl h1)]
    refine Ev.congr (fun k => if_pos (by omega)) (Ev.last fun k => ?_)
    rw [sorrelref02_Check.j0, if_pos rfl]
  · refine Ev.congr (fun k => if_neg (by omega)) ?_
    by_cases h2 : 64 < l.length
    · rw [if_pos (Or.inr h2)]
      refine Ev.last fun k => ?_
      rw [sorrelref02_Check.j0, if_pos (by simp; omega)]
    · rw [if_neg (by omega)]
      refine Ev.step (f := fun k => sorrelref02_Check.l0 k l ((0 : Nat) : Int)) (fun k => ?_) ?_
      · rw [sorrelref02_Check.j0, if_neg (by simp; omega)]; rfl
      · exact refCheck_loop l (by omega) (by omega) hk _ 0 (Nat.le_refl _) (by omega) (by simp)
end Go.Proofs.YtacjjfoelhckcaaDoor.PExprOrders

/- Plain laws, part 3: copies. -/
namespace Go.Proofs.YtacjjfoelhckcaaDoor.PExprOrders
open Go.RowKit Go.Proofs.YtacjjfoelhckcaaDoorW.PrintWords
set_option linter.unusedVariables false

abbrev okE (x : S45) : Prop := okN (x.f0, x.f1, x.f2, x.f3)
theorem okE.kids {x : S45} (h : okE x) : x.f3.length ≤ 17592186043904 := by
  have := h.2.2.2.1
  dsimp only at this
  omega
/-! ### copies -/
theorem copy_ev (l : List S45) (hb : l.length ≤ 2513169434843) (hk : ∀ x ∈ l, okE x) : Ev (fun k => sorrelref02_Copy.f k l) l := by
  have loop : ∀ (n i : Nat), l.length - i ≤ n → i ≤ l.length → Ev (fun k => sorrelref02_Copy.l0 k l (l.take i) (i : Int)) l := by
    have fin : ∀ i : Nat, i ≤ l.length → l.length ≤ i → Ev (fun k => sorrelref02_Copy.l0 k l (l.take i) (i : Int)) l := by
      intro i h1 h2
      refine Ev.last fun k => ?_
      rw [sorrelref02_Copy.l0, if_neg (by omega), List.take_of_length_le (by omega)]
    intro n
    induction n with
    | zero => intro i h1 h2; exact fin i h2 (by omega)
    | succ n ih =>
      intro i h1 h2
      by_cases hi : i < l.length
      · have ea : rd_T45 l (i : Int) = l[i] := getD_lt l i _ hi
        have hx := (hk _ (List.getElem_mem hi)).kids
        refine Ev.step (f := fun k => sorrelref02_Copy.l0 k l (l.take (i + 1)) ((i + 1 : Nat) : Int)) (fun k => ?_) (ih (i + 1) (by omega) (by omega))
        rw [sorrelref02_Copy.l0, if_pos (by omega), if_pos (by omega), Option.bind_some, ea, if_pos (by simp; omega), if_pos (by rw [List.length_take]; omega), w64 _ (by omega), List.take_succ_eq_append_getElem hi]; rfl
      · exact fin i h2 (by omega)
  unfold sorrelref02_Copy.f
  have := loop _ 0 (Nat.le_refl _) (by omega)
  rw [List.take_zero] at this
  exact this
end Go.Proofs.YtacjjfoelhckcaaDoor.PExprOrders

/- Plain laws: texts behind one another, at any offset; copies of rows of numbers. -/
namespace Go.Proofs.YtacjjfoelhckcaaDoor.PExprOrders
open Go.RowKit Go.Proofs.YtacjjfoelhckcaaDoorW.PrintWords
set_option linter.unusedVariables false

/-! ### texts behind one another -/
def shiftZ (b : Int) (x : S45) : S45 := ⟨x.f0, x.f1, x.f2, x.f3.map fun k => wrap64 (k + b)⟩
theorem set_step (kids : List Int) (g : Int → Int) (i : Nat) (hi : i < kids.length) : ((kids.take i).map g ++ List.replicate (kids.length - i) 0).set i (g kids[i]) = (kids.take (i + 1)).map g ++ List.replicate (kids.length - (i + 1)) 0 := by
  have e : kids.length - i = (kids.length - (i + 1)) + 1 := by omega
  rw [List.set_append_right _ _ (by simp; omega), e, List.replicate_succ]
  have e2 : i - ((kids.take i).map g).length = 0 := by simp; omega
  rw [e2, List.set_cons_zero, List.take_succ_eq_append_getElem hi, List.map_append, List.append_assoc]
  rfl
theorem joinZ_ev (x0 l : List S45) (b : Int) (h0 : x0.length + l.length ≤ 2513169434843) (hk : ∀ x ∈ l, okE x) : Ev (fun k => expr_join.f k x0 l b) (x0 ++ l.map (shiftZ b)) := by
  have inner : ∀ (xs : List S45) (j : Nat) (x : S45) (hx : x.f3.length ≤ 17592186043904) (v : List S45) (hxs : xs.length < 2513169434916),
      Ev (fun k => expr_join.l0 k (xs ++ [shiftZ b x]) b l (l.length : Int) (wrap64 ((j : Int) + 1))) v → ∀ (n i : Nat), x.f3.length - i ≤ n → i ≤ x.f3.length →
      Ev (fun k => expr_join.l1 k xs b ((x.f3.take i).map (fun k => wrap64 (k + b)) ++ List.replicate (x.f3.length - i) 0) l (l.length : Int) j x.f3 (x.f3.length : Int) (i : Int) x.f0 x.f1 x.f2 x.f3) v := by
    intro xs j x hx v hxs hv
    have fin : ∀ i : Nat, i ≤ x.f3.length → x.f3.length ≤ i → Ev (fun k => expr_join.l1 k xs b ((x.f3.take i).map (fun k => wrap64 (k + b)) ++ List.replicate (x.f3.length - i) 0) l (l.length : Int) j x.f3 (x.f3.length : Int) (i : Int) x.f0 x.f1 x.f2 x.f3) v := by
      intro i h1 h2
      refine Ev.step (fun k => ?_) hv
      rw [expr_join.l1, if_neg (by omega), if_pos hxs, List.take_of_length_le (by omega), show x.f3.length - i = 0 by omega]
      simp [shiftZ]
    intro n
    induction n with
    | zero => intro i h1 h2; exact fin i h2 (by omega)
    | succ n ih =>
      intro i h1 h2
      by_cases hi : i < x.f3.length
      · have ea : rd x.f3 (i : Int) = x.f3[i] := getD_lt x.f3 i 0 hi
        refine Ev.step (fun k => ?_) (ih (i + 1) (by omega) (by omega))
        rw [expr_join.l1, if_pos (by omega), if_pos (by omega), if_pos (by omega), if_pos (by simp; omega), ea, w64 ((i : Int) + 1) (by omega), Int.toNat_natCast, set_step x.f3 (fun k => wrap64 (k + b)) i hi]; rfl
      · exact fin i h2 (by omega)
  have loop : ∀ (n i : Nat), l.length - i ≤ n → i ≤ l.length → Ev (fun k => expr_join.l0 k (x0 ++ (l.take i).map (shiftZ b)) b l (l.length : Int) (i : Int)) (x0 ++ l.map (shiftZ b)) := by
    have fin : ∀ i : Nat, i ≤ l.length → l.length ≤ i → Ev (fun k => expr_join.l0 k (x0 ++ (l.take i).map (shiftZ b)) b l (l.length : Int) (i : Int)) (x0 ++ l.map (shiftZ b)) := by
      intro i h1 h2
      refine Ev.last fun k => ?_
      rw [expr_join.l0, if_neg (by omega), List.take_of_length_le (by omega)]
    intro n
    induction n with
    | zero => intro i h1 h2; exact fin i h2 (by omega)
    | succ n ih =>
      intro i h1 h2
      by_cases hi : i < l.length
      · have ea : rd_T45 l (i : Int) = l[i] := getD_lt l i _ hi
        have hx := (hk _ (List.getElem_mem hi)).kids
        have go := ih (i + 1) (by omega) (by omega)
        rw [List.take_succ_eq_append_getElem hi, List.map_append, ← List.append_assoc] at go
        have := inner (x0 ++ (l.take i).map (shiftZ b)) i l[i] hx (x0 ++ l.map (shiftZ b)) (by simp; omega) (by rw [w64 _ (by omega)]; exact go) (l[i]).f3.length 0 (by omega) (by omega)
        refine Ev.step (fun k => ?_) this
        rw [expr_join.l0, if_pos (by omega), if_pos (by omega), if_pos (by omega), if_pos (by omega), ea, if_pos (by omega)]
        simp
      · exact fin i h2 (by omega)
  unfold expr_join.f
  have := loop _ 0 (Nat.le_refl _) (by omega)
  rw [List.take_zero, List.map_nil, List.append_nil] at this
  exact this
end Go.Proofs.YtacjjfoelhckcaaDoor.PExprOrders

/- Plain laws: which texts of nodes are the same. -/
namespace Go.Proofs.YtacjjfoelhckcaaDoor.PExprOrders
open Go.RowKit Go.Proofs.YtacjjfoelhckcaaDoorW.PrintWords
set_option linter.unusedVariables false

theorem sameInts_dec (a b : List Int) (hb : a.length ≤ 9223372036854775806) : Ev (fun k => sorrelref02_SameInts.f k a b) (decide (a = b)) := by
  have loop (hl : a.length = b.length) : ∀ (n i : Nat), a.length - i ≤ n → i ≤ a.length → Ev (fun k => sorrelref02_SameInts.l0 k a b (i : Int)) (decide (a.drop i = b.drop i)) := by
    have fin : ∀ i : Nat, a.length ≤ i → Ev (fun k => sorrelref02_SameInts.l0 k a b (i : Int)) (decide (a.drop i = b.drop i)) := by
      intro i h
      refine Ev.last fun k => ?_
      rw [sorrelref02_SameInts.l0, if_neg (by omega), List.drop_eq_nil_of_le (by omega), List.drop_eq_nil_of_le (by omega)]
      rfl
    intro n
    induction n with
    | zero => intro i h1 h2; exact fin i (by omega)
    | succ n ih =>
      intro i h1 h2
      by_cases hi : i < a.length
      · rw [List.drop_eq_getElem_cons hi, List.drop_eq_getElem_cons (by omega : i < b.length)]
        have ea : rd a (i : Int) = a[i] := getD_lt a i 0 hi
        have eb : rd b (i : Int) = b[i] := getD_lt b i 0 (by omega)
        by_cases he : a[i] = b[i]
        · refine Ev.step (f := fun k => sorrelref02_SameInts.l0 k a b ((i + 1 : Nat) : Int)) (fun k => ?_) ?_
          · rw [sorrelref02_SameInts.l0, if_pos (by omega), if_pos (by omega), if_pos (by omega), ea, eb, if_pos he, w64 _ (by omega)]; rfl
          · have := ih (i + 1) (by omega) (by omega)
            simpa only [List.cons.injEq, he, true_and] using this
        · refine Ev.last fun k => ?_
          rw [sorrelref02_SameInts.l0, if_pos (by omega), if_pos (by omega), if_pos (by omega), ea, eb, if_neg he]
          simp only [List.cons.injEq, he, false_and, decide_false]
      · exact fin i (by omega)
  unfold sorrelref02_SameInts.f
  by_cases hl : a.length = b.length
  · refine Ev.congr (fun k => if_pos (by omega)) ?_
    have := loop hl _ 0 (Nat.le_refl _) (by omega)
    simpa using this
  · refine Ev.congr (fun k => if_neg (by omega)) ?_
    have : a ≠ b := fun h => hl (by rw [h])
    simp only [this, decide_false]
    exact Ev.now _
theorem toList_inj {a b : ByteArray} (h : a.toList = b.toList) : a = b := by
  rw [ByteArray.toList_eq, ByteArray.toList_eq] at h
  cases a; cases b
  congr 1
  exact Array.toList_inj.1 h
open Classical in
theorem sameNode_dec (x y : S45) (hb : x.f3.length ≤ 9223372036854775806) : Ev (fun k => sorrelref02_SameNode.f k x.f0 x.f1 x.f2 x.f3 y.f0 y.f1 y.f2 y.f3) (decide (x = y)) := by
  unfold sorrelref02_SameNode.f
  by_cases h0 : x.f0 = y.f0
  · refine Ev.congr (fun k => if_pos h0) ?_
    by_cases h1 : x.f1 = y.f1
    · refine Ev.congr (fun k => if_pos h1) ?_
      by_cases h2 : x.f2.toList = y.f2.toList
      · refine Ev.congr (fun k => if_pos h2) ?_
        refine Ev.bind (sameInts_dec x.f3 y.f3 hb) ?_
        have e : (decide (x = y)) = decide (x.f3 = y.f3) := by
          have h2' := toList_inj h2
          cases x; cases y
          simp_all
        rw [e]
        exact Ev.now _
      · refine Ev.congr (fun k => if_neg h2) ?_
        have : ¬ x = y := fun h => h2 (by rw [h])
        rw [decide_eq_false this]
        exact Ev.now _
    · refine Ev.congr (fun k => if_neg h1) ?_
      have : ¬ x = y := fun h => h1 (by rw [h])
      rw [decide_eq_false this]
      exact Ev.now _
  · refine Ev.congr (fun k => if_neg h0) ?_
    have : ¬ x = y := fun h => h0 (by rw [h])
    rw [decide_eq_false this]
    exact Ev.now _
open Classical in
theorem same_dec (l m : List S45) (hb : l.length ≤ 9223372036854775806) (hk : ∀ x ∈ l, x.f3.length ≤ 9223372036854775806) : Ev (fun k => sorrelref02_Same.f k l m) (decide (l = m)) := by
  have loop (hl : l.length = m.length) : ∀ (n i : Nat), l.length - i ≤ n → i ≤ l.length → Ev (fun k => sorrelref02_Same.l0 k l m (i : Int)) (decide (l.drop i = m.drop i)) := by
    have fin : ∀ i : Nat, l.length ≤ i → Ev (fun k => sorrelref02_Same.l0 k l m (i : Int)) (decide (l.drop i = m.drop i)) := by
      intro i h
      refine Ev.last fun k => ?_
      rw [sorrelref02_Same.l0, if_neg (by omega), List.drop_eq_nil_of_le (by omega), List.drop_eq_nil_of_le (by omega)]
      simp
    intro n
    induction n with
    | zero => intro i h1 h2; exact fin i (by omega)
    | succ n ih =>
      intro i h1 h2
      by_cases hi : i < l.length
      · have ea : rd_T45 l (i : Int) = l[i] := getD_lt l i _ hi
        have eb : rd_T45 m (i : Int) = m[i] := getD_lt m i _ (by omega)
        refine Ev.step (f := fun k => (sorrelref02_SameNode.f k (l[i]).f0 (l[i]).f1 (l[i]).f2 (l[i]).f3 (m[i]).f0 (m[i]).f1 (m[i]).f2 (m[i]).f3).bind fun t215 => (if t215 = true then (sorrelref02_Same.l0 k l m (wrap64 ((i : Int) + 1))) else (some false))) (fun k => ?_) (Ev.bind (sameNode_dec _ _ (hk _ (List.getElem_mem hi))) ?_)
        · rw [sorrelref02_Same.l0, if_pos (by omega), if_pos (by omega), if_pos (by omega), ea, eb]
        · by_cases he : l[i] = m[i]
          · refine Ev.congr (fun k => if_pos (decide_eq_true he)) ?_
            rw [w64 _ (by omega)]
            have e : (l.drop i = m.drop i) ↔ (l.drop (i + 1) = m.drop (i + 1)) := by
              rw [List.drop_eq_getElem_cons hi, List.drop_eq_getElem_cons (by omega : i < m.length), List.cons.injEq]
              exact ⟨fun h => h.2, fun h => ⟨he, h⟩⟩
            rw [decide_eq_decide.2 e]
            exact ih (i + 1) (by omega) (by omega)
          · refine Ev.congr (fun k => if_neg (by simpa using he)) ?_
            have : ¬ l.drop i = m.drop i := by
              rw [List.drop_eq_getElem_cons hi, List.drop_eq_getElem_cons (by omega : i < m.length), List.cons.injEq]
              exact fun h => he h.1
            rw [decide_eq_false this]
            exact Ev.now _
      · exact fin i (by omega)
  unfold sorrelref02_Same.f
  by_cases hl : l.length = m.length
  · refine Ev.congr (fun k => if_pos (by omega)) ?_
    have := loop hl _ 0 (Nat.le_refl _) (by omega)
    simpa using this
  · refine Ev.congr (fun k => if_neg (by omega)) ?_
    have : ¬ l = m := fun h => hl (by rw [h])
    rw [decide_eq_false this]
    exact Ev.now _
end Go.Proofs.YtacjjfoelhckcaaDoor.PExprOrders

/- Plain laws over trees, part 1: a sound text is the postfix of one tree. -/
namespace Go.Proofs.YtacjjfoelhckcaaDoor.PExprOrders
open Go.RowKit Go.Proofs.YtacjjfoelhckcaaDoorW.PrintWords
set_option linter.unusedVariables false

/-- An expression as a tree. -/
inductive T where
  | mk : Int → Int → ByteArray → List T → T
mutual
def T.size : T → Nat
  | .mk _ _ _ ts => sizeL ts + 1
def sizeL : List T → Nat
  | [] => 0
  | t :: ts => t.size + sizeL ts
end
/-- Where the roots of trees that stand one behind the other lie, from c on. -/
def roots (c : Nat) : List T → List Int
  | [] => []
  | t :: ts => ((c + t.size - 1 : Nat) : Int) :: roots (c + t.size) ts
mutual
/-- A tree's nodes in postfix, the first at c. -/
def T.flat (c : Nat) : T → List S45
  | .mk op n name ts => flatL c ts ++ [⟨op, n, name, roots c ts⟩]
def flatL (c : Nat) : List T → List S45
  | [] => []
  | t :: ts => t.flat c ++ flatL (c + t.size) ts
end
mutual
def T.ok : T → Bool
  | .mk op n name ts => formB op n name ts.length && okL ts
def okL : List T → Bool
  | [] => true
  | t :: ts => t.ok && okL ts
end
theorem size_pos (t : T) : 1 ≤ t.size := by
  cases t with | mk op n name ts => rw [T.size]; omega
theorem roots_len (ts : List T) : ∀ c, (roots c ts).length = ts.length := by
  induction ts with
  | nil => intro c; rfl
  | cons t ts ih => intro c; rw [roots, List.length_cons, ih, List.length_cons]
theorem sizeL_app (ts us : List T) : sizeL (ts ++ us) = sizeL ts + sizeL us := by
  induction ts with
  | nil => simp [sizeL]
  | cons t ts ih => rw [List.cons_append, sizeL, sizeL, ih]; omega
theorem roots_app (ts us : List T) : ∀ c, roots c (ts ++ us) = roots c ts ++ roots (c + sizeL ts) us := by
  induction ts with
  | nil => intro c; simp [sizeL, roots]
  | cons t ts ih => intro c; rw [List.cons_append, roots, roots, ih, sizeL, List.cons_append, Nat.add_assoc]
theorem flatL_app (ts us : List T) : ∀ c, flatL c (ts ++ us) = flatL c ts ++ flatL (c + sizeL ts) us := by
  induction ts with
  | nil => intro c; simp [sizeL, flatL]
  | cons t ts ih => intro c; rw [List.cons_append, flatL, flatL, ih, sizeL, List.append_assoc, Nat.add_assoc]
theorem okL_app (ts us : List T) : okL (ts ++ us) = (okL ts && okL us) := by
  induction ts with
  | nil => simp [okL]
  | cons t ts ih => rw [List.cons_append, okL, okL, ih, Bool.and_assoc]
mutual
theorem flat_len (c : Nat) : ∀ t : T, (t.flat c).length = t.size
  | .mk op n name ts => by rw [T.flat, List.length_append, flatL_len c ts, T.size]; rfl
theorem flatL_len (c : Nat) : ∀ ts : List T, (flatL c ts).length = sizeL ts
  | [] => rfl
  | t :: ts => by rw [flatL, List.length_append, flat_len c t, flatL_len (c + t.size) ts, sizeL]
end
theorem len_le_size (ts : List T) : ts.length ≤ sizeL ts := by
  induction ts with
  | nil => simp
  | cons t ts ih => have := size_pos t; rw [sizeL, List.length_cons]; omega
/- The check goes well over a tree's nodes from any open ones: it leaves the tree's root open beside them. -/
mutual
theorem check_flat (r : List S45) : ∀ (t : T), t.ok = true → ∀ (st : List Int) (c : Nat), checkFrom st c (t.flat c ++ r) = checkFrom (st ++ [((c + t.size - 1 : Nat) : Int)]) (c + t.size) r
  | .mk op n name ts, h, st, c => by
    rw [T.ok, Bool.and_eq_true] at h
    rw [T.flat, List.append_assoc, check_flatL _ ts h.2 st c, List.singleton_append, checkFrom]
    have hl := roots_len ts c
    have hfit : fitsN (st ++ roots c ts) (⟨op, n, name, roots c ts⟩ : S45) = true := by
      simp only [fitsN, formN, hl, h.1, Bool.true_and, Bool.and_eq_true, decide_eq_true_eq, List.length_append]
      refine ⟨by omega, ?_⟩
      rw [show st.length + ts.length - ts.length = st.length by omega, List.drop_left]
    rw [if_pos hfit, T.size]
    simp only [List.length_append, hl]
    rw [show st.length + ts.length - ts.length = st.length by omega, List.take_left]
    rfl
theorem check_flatL (r : List S45) : ∀ (ts : List T), okL ts = true → ∀ (st : List Int) (c : Nat), checkFrom st c (flatL c ts ++ r) = checkFrom (st ++ roots c ts) (c + sizeL ts) r
  | [], _, st, c => by simp [flatL, roots, sizeL]
  | t :: ts, h, st, c => by
    rw [okL, Bool.and_eq_true] at h
    rw [flatL, List.append_assoc, check_flat _ t h.1 st c, check_flatL _ ts h.2, roots, sizeL, List.append_assoc, Nat.add_assoc]
    rfl
end
theorem checkE_flat (t : T) (h : t.ok = true) (hs : t.size ≤ 64) : checkE (t.flat 0) = 0 := by
  have h1 := size_pos t
  have hl := flat_len 0 t
  have := check_flat [] t h [] 0
  rw [List.append_nil] at this
  rw [checkE, if_neg (by omega), this, checkFrom, if_pos (by simp)]
/-- .. and only over such. -/
theorem check_trees : ∀ (r : List S45) (ts : List T), okL ts = true → checkFrom (roots 0 ts) (sizeL ts) r = 0 → ∃ t : T, t.ok = true ∧ flatL 0 ts ++ r = t.flat 0 := by
  intro r
  induction r with
  | nil =>
    intro ts hok h
    rw [checkFrom] at h
    split at h
    · rename_i hl
      rw [roots_len] at hl
      obtain ⟨t, rfl⟩ := List.length_eq_one_iff.1 hl
      refine ⟨t, by simpa [okL] using hok, by simp [flatL]⟩
    · cases h
  | cons x r ih =>
    intro ts hok h
    rw [checkFrom] at h
    split at h
    · rename_i hfit
      simp only [fitsN, Bool.and_eq_true, decide_eq_true_eq, roots_len] at hfit
      obtain ⟨⟨hf, hle⟩, hd⟩ := hfit
      -- the last of the open trees are this node's kids
      have hsplit : ts = ts.take (ts.length - x.f3.length) ++ ts.drop (ts.length - x.f3.length) := (List.take_append_drop _ _).symm
      generalize hA : ts.take (ts.length - x.f3.length) = A at hsplit
      generalize hB : ts.drop (ts.length - x.f3.length) = B at hsplit
      have hAl : A.length = ts.length - x.f3.length := by rw [← hA, List.length_take]; omega
      have hr : roots 0 ts = roots 0 A ++ roots (sizeL A) B := by rw [hsplit, roots_app, Nat.zero_add]
      have hk : roots (sizeL A) B = x.f3 := by
        rw [hr, ← hAl, ← roots_len A 0, List.drop_left] at hd
        exact hd
      rw [roots_len, hr, ← hAl, ← roots_len A 0, List.take_left] at h
      have hok2 : okL A = true ∧ okL B = true := by rw [hsplit, okL_app, Bool.and_eq_true] at hok; exact hok
      have hBl : B.length = x.f3.length := by rw [← hk, roots_len]
      have hnew : okL (A ++ [.mk x.f0 x.f1 x.f2 B]) = true := by
        rw [okL_app, hok2.1]
        simp only [okL, T.ok, hok2.2, hBl, Bool.and_true, Bool.true_and]
        exact hf
      have hsz : sizeL ts = sizeL A + sizeL B := by rw [hsplit, sizeL_app]
      have hroots : roots 0 (A ++ [.mk x.f0 x.f1 x.f2 B]) = roots 0 A ++ [((sizeL ts : Nat) : Int)] := by
        rw [roots_app, Nat.zero_add, roots, roots, T.size, hsz]
        rfl
      have hsize : sizeL (A ++ [.mk x.f0 x.f1 x.f2 B]) = sizeL ts + 1 := by
        rw [sizeL_app, sizeL, sizeL, T.size, hsz]
        omega
      obtain ⟨t, ht, e⟩ := ih (A ++ [.mk x.f0 x.f1 x.f2 B]) hnew (by rw [hroots, hsize]; exact h)
      refine ⟨t, ht, ?_⟩
      rw [← e, flatL_app, Nat.zero_add, flatL, flatL, T.flat, hk, List.append_nil, hsplit, flatL_app, Nat.zero_add, List.append_assoc, List.append_assoc, List.append_assoc]
      rfl
    · cases h
theorem checkE_tree {l : List S45} (h : checkE l = 0) : ∃ t : T, t.ok = true ∧ t.size ≤ 64 ∧ l = t.flat 0 := by
  unfold checkE at h
  split at h
  · cases h
  · rename_i hl
    obtain ⟨t, ht, e⟩ := check_trees l [] rfl h
    have e' : l = t.flat 0 := e
    refine ⟨t, ht, ?_, e'⟩
    rw [← flat_len 0 t, ← e']
    omega
end Go.Proofs.YtacjjfoelhckcaaDoor.PExprOrders

/- Plain laws over trees, part 2: subtrees, their places, a subtree replaced. -/
namespace Go.Proofs.YtacjjfoelhckcaaDoor.PExprOrders
open Go.RowKit Go.Proofs.YtacjjfoelhckcaaDoorW.PrintWords
set_option linter.unusedVariables false

/-- A node whose kids lie d further on. -/
def moved (d : Int) (x : S45) : S45 := ⟨x.f0, x.f1, x.f2, x.f3.map (· + d)⟩
theorem roots_moved (d : Nat) : ∀ (ts : List T) (c : Nat), roots (c + d) ts = (roots c ts).map (· + (d : Int))
  | [], c => rfl
  | t :: ts, c => by
    have := size_pos t
    rw [roots, roots, List.map_cons, show c + d + t.size = c + t.size + d by omega, roots_moved d ts (c + t.size)]
    congr 1
    omega
mutual
theorem flat_moved (d : Nat) : ∀ (t : T) (c : Nat), t.flat (c + d) = (t.flat c).map (moved d)
  | .mk op n name ts, c => by
    rw [T.flat, T.flat, List.map_append, flatL_moved d ts c, List.map_cons, List.map_nil, roots_moved]
    rfl
theorem flatL_moved (d : Nat) : ∀ (ts : List T) (c : Nat), flatL (c + d) ts = (flatL c ts).map (moved d)
  | [], c => rfl
  | t :: ts, c => by
    rw [flatL, flatL, List.map_append, flat_moved d t c, show c + d + t.size = c + t.size + d by omega, flatL_moved d ts (c + t.size)]
end
/-- The roots lie within. -/
theorem roots_in : ∀ (ts : List T) (c : Nat), ∀ k ∈ roots c ts, (c : Int) ≤ k ∧ k < ((c + sizeL ts : Nat) : Int)
  | [], c, k, hk => by cases hk
  | t :: ts, c, k, hk => by
    have := size_pos t
    rw [roots] at hk
    rw [sizeL]
    rcases List.mem_cons.1 hk with rfl | hk
    · omega
    · have := roots_in ts (c + t.size) k hk
      omega
mutual
theorem flat_in : ∀ (t : T) (c : Nat), ∀ x ∈ t.flat c, ∀ k ∈ x.f3, (c : Int) ≤ k ∧ k < ((c + t.size : Nat) : Int)
  | .mk op n name ts, c, x, hx, k, hk => by
    rw [T.flat] at hx
    rw [T.size]
    rcases List.mem_append.1 hx with hx | hx
    · have := flatL_in ts c x hx k hk
      omega
    · obtain rfl := List.mem_singleton.1 hx
      have := roots_in ts c k hk
      omega
theorem flatL_in : ∀ (ts : List T) (c : Nat), ∀ x ∈ flatL c ts, ∀ k ∈ x.f3, (c : Int) ≤ k ∧ k < ((c + sizeL ts : Nat) : Int)
  | [], c, x, hx, k, hk => by cases hx
  | t :: ts, c, x, hx, k, hk => by
    rw [flatL] at hx
    rw [sizeL]
    rcases List.mem_append.1 hx with hx | hx
    · have := flat_in t c x hx k hk
      omega
    · have := flatL_in ts (c + t.size) x hx k hk
      omega
end
/-- s is the part of t (whose first node lies at c) that begins at b. -/
inductive At : T → Nat → T → Nat → Prop
  | here (t : T) (c : Nat) : At t c t c
  | kid (op n : Int) (name : ByteArray) (us : List T) (t : T) (ts : List T) (c : Nat) (s : T) (b : Nat) (h : At t (c + sizeL us) s b) : At (.mk op n name (us ++ t :: ts)) c s b
mutual
/-- At each place a part has its root. -/
theorem at_of : ∀ (t : T) (c i : Nat), c ≤ i → i < c + t.size → ∃ s b, At t c s b ∧ i + 1 = b + s.size
  | .mk op n name ts, c, i, h1, h2 => by
    by_cases he : i = c + sizeL ts
    · exact ⟨_, c, .here _ _, by rw [T.size]; omega⟩
    · rw [T.size] at h2
      obtain ⟨us, t, vs, e, s, b, h, hs⟩ := at_ofL ts c i h1 (by omega)
      subst e
      exact ⟨s, b, .kid op n name us t vs c s b h, hs⟩
theorem at_ofL : ∀ (ts : List T) (c i : Nat), c ≤ i → i < c + sizeL ts → ∃ us t vs, ts = us ++ t :: vs ∧ ∃ s b, At t (c + sizeL us) s b ∧ i + 1 = b + s.size
  | [], c, i, h1, h2 => by rw [sizeL] at h2; omega
  | t :: ts, c, i, h1, h2 => by
    rw [sizeL] at h2
    by_cases he : i < c + t.size
    · obtain ⟨s, b, h, hs⟩ := at_of t c i h1 he
      exact ⟨[], t, ts, rfl, s, b, by rw [sizeL, Nat.add_zero]; exact h, hs⟩
    · obtain ⟨us, u, vs, e, s, b, h, hs⟩ := at_ofL ts (c + t.size) i (by omega) (by omega)
      refine ⟨t :: us, u, vs, by rw [e]; rfl, s, b, ?_, hs⟩
      rw [sizeL, ← Nat.add_assoc]
      exact h
end
theorem At.split {t s : T} {c b : Nat} (h : At t c s b) : ∃ pre post, t.flat c = pre ++ s.flat b ++ post ∧ c + pre.length = b ∧ pre.length + s.size + post.length = t.size := by
  induction h with
  | here t c => exact ⟨[], [], by simp, by simp, by simp⟩
  | kid op n name us t ts c s b h ih =>
    obtain ⟨pre, post, e, h1, h2⟩ := ih
    refine ⟨flatL c us ++ pre, post ++ (flatL (c + sizeL us + t.size) ts ++ [⟨op, n, name, roots c (us ++ t :: ts)⟩]), ?_, ?_, ?_⟩
    · rw [T.flat, flatL_app, flatL, e]
      simp only [List.append_assoc]
    · rw [List.length_append, flatL_len]; omega
    · rw [T.size, sizeL_app, sizeL]
      simp only [List.length_append, flatL_len, List.length_singleton]
      omega
theorem At.ok {t s : T} {c b : Nat} (h : At t c s b) (hok : t.ok = true) : s.ok = true := by
  induction h with
  | here t c => exact hok
  | kid op n name us t ts c s b h ih =>
    rw [T.ok, Bool.and_eq_true, okL_app, Bool.and_eq_true, okL, Bool.and_eq_true] at hok
    exact ih hok.2.2.1
end Go.Proofs.YtacjjfoelhckcaaDoor.PExprOrders

/- Plain laws over trees, part 3: where a part begins; Part. -/
namespace Go.Proofs.YtacjjfoelhckcaaDoor.PExprOrders
open Go.RowKit Go.Proofs.YtacjjfoelhckcaaDoorW.PrintWords
set_option linter.unusedVariables false

def rootN (b : Nat) : T → S45
  | .mk op n name ts => ⟨op, n, name, roots b ts⟩
theorem flat_root (b : Nat) (s : T) : ∃ ini, s.flat b = ini ++ [rootN b s] ∧ ini.length + 1 = s.size := by
  cases s with
  | mk op n name ts => exact ⟨flatL b ts, rfl, by rw [flatL_len, T.size]⟩
theorem seg_root {l pre post : List S45} {b : Nat} {s : T} (e : l = pre ++ s.flat b ++ post) (hp : pre.length = b) : ∃ h : b + s.size - 1 < l.length, l[b + s.size - 1] = rootN b s := by
  obtain ⟨ini, e2, h2⟩ := flat_root b s
  have hl : l.length = pre.length + s.size + post.length := by rw [e]; simp [flat_len]; omega
  refine ⟨by omega, ?_⟩
  have e3 : l = (pre ++ ini) ++ rootN b s :: post := by rw [e, e2]; simp
  have h4 : b + s.size - 1 = (pre ++ ini).length := by rw [List.length_append]; omega
  subst e3
  simp only [h4]
  rw [List.getElem_append_right (by omega)]
  simp
theorem begin_ev (l : List S45) (hl : l.length ≤ 64) : ∀ (m : Nat) (s : T) (b : Nat) (pre post : List S45), s.size ≤ m → l = pre ++ s.flat b ++ post → pre.length = b → Ev (fun k => expr_begin.f k l ((b + s.size - 1 : Nat) : Int)) (b : Int) := by
  intro m
  induction m with
  | zero => intro s b pre post h _ _; have := size_pos s; omega
  | succ m ih =>
    intro s b pre post h e hp
    obtain ⟨hlt, hroot⟩ := seg_root e hp
    have ea : rd_T45 l ((b + s.size - 1 : Nat) : Int) = rootN b s := (getD_lt l _ _ hlt).trans hroot
    cases s with
    | mk op n name ts =>
      cases ts with
      | nil =>
        refine Ev.last fun k => ?_
        show expr_begin.l0 (k + 1) l _ = _
        have hf : (rootN b (.mk op n name [])).f3 = [] := rfl
        rw [expr_begin.l0, if_pos (by omega), if_pos (by omega), ea, hf, if_neg (by simp)]
        rw [T.size, sizeL]
        rfl
      | cons t ts =>
        have hf : (rootN b (.mk op n name (t :: ts))).f3 = ((b + t.size - 1 : Nat) : Int) :: roots (b + t.size) ts := rfl
        have hts : t.size ≤ m := by rw [T.size, sizeL] at h; omega
        have e2 : l = pre ++ t.flat b ++ (flatL (b + t.size) ts ++ [⟨op, n, name, roots b (t :: ts)⟩] ++ post) := by rw [e, T.flat, flatL]; simp
        refine Ev.step (f := fun k => expr_begin.f k l ((b + t.size - 1 : Nat) : Int)) (fun k => ?_) (ih t b pre _ hts e2 hp)
        show expr_begin.l0 (k + 1) l _ = expr_begin.l0 k l _
        rw [expr_begin.l0, if_pos (by omega), if_pos (by omega), ea, hf, if_pos (by simp), if_pos (by simp)]
        rfl
theorem moved_back (b : Nat) (s : T) (hs : b + s.size ≤ 64) : (s.flat b).map (shiftZ (-(b : Int))) = s.flat 0 := by
  have e := flat_moved b s 0
  rw [Nat.zero_add] at e
  rw [e, List.map_map]
  conv => rhs; rw [← List.map_id (s.flat 0)]
  refine List.map_congr_left fun x hx => ?_
  have hk := flat_in s 0 x hx
  show shiftZ (-(b : Int)) (moved b x) = x
  unfold shiftZ moved
  have e3 : (x.f3.map (· + (b : Int))).map (fun k => wrap64 (k + -(b : Int))) = x.f3 := by
    rw [List.map_map]
    conv => rhs; rw [← List.map_id x.f3]
    refine List.map_congr_left fun k hkk => ?_
    have := hk k hkk
    show wrap64 (k + b + -(b : Int)) = k
    rw [w64 _ (by omega)]
    omega
  rw [e3]
end Go.Proofs.YtacjjfoelhckcaaDoor.PExprOrders

/- Plain laws over trees: their order. -/
namespace Go.Proofs.YtacjjfoelhckcaaDoor.PExprOrders
open Go.RowKit Go.Proofs.YtacjjfoelhckcaaDoorW.PrintWords
set_option linter.unusedVariables false

mutual
/-- The smaller first; then operator, number, name; then the parts. -/
def T.cmp : T → T → Int
  | .mk op n nm ts, .mk op' n' nm' us => orI (cmpI (sizeL ts) (sizeL us)) (orI (cmpI op op') (orI (cmpI n n') (orI (cmpL (runesL nm) (runesL nm')) (cmpTs ts us))))
def cmpTs : List T → List T → Int
  | [], [] => 0
  | [], _ :: _ => -1
  | _ :: _, [] => 1
  | t :: ts, u :: us => orI (T.cmp t u) (cmpTs ts us)
end
mutual
theorem cmp_swap : ∀ t u : T, T.cmp u t = -T.cmp t u
  | .mk op n nm ts, .mk op' n' nm' us => by
    rw [T.cmp, T.cmp]
    exact orI_swap (cmpI_swap _ _) (orI_swap (cmpI_swap _ _) (orI_swap (cmpI_swap _ _) (orI_swap (cmpL_swap _ _) (cmpTs_swap ts us))))
theorem cmpTs_swap : ∀ ts us : List T, cmpTs us ts = -cmpTs ts us
  | [], [] => rfl
  | [], _ :: _ => rfl
  | _ :: _, [] => rfl
  | t :: ts, u :: us => by rw [cmpTs, cmpTs]; exact orI_swap (cmp_swap t u) (cmpTs_swap ts us)
end
mutual
theorem cmp_one : ∀ t u : T, T.cmp t u = -1 ∨ T.cmp t u = 0 ∨ T.cmp t u = 1
  | .mk op n nm ts, .mk op' n' nm' us => by
    rw [T.cmp]
    exact orI_one (cmpI_one _ _) (orI_one (cmpI_one _ _) (orI_one (cmpI_one _ _) (orI_one (cmpL_one _ _) (cmpTs_one ts us))))
theorem cmpTs_one : ∀ ts us : List T, cmpTs ts us = -1 ∨ cmpTs ts us = 0 ∨ cmpTs ts us = 1
  | [], [] => by simp [cmpTs]
  | [], _ :: _ => by simp [cmpTs]
  | _ :: _, [] => by simp [cmpTs]
  | t :: ts, u :: us => by rw [cmpTs]; exact orI_one (cmp_one t u) (cmpTs_one ts us)
end
mutual
theorem cmp_tr : ∀ t u v : T, Tr (T.cmp t u) (T.cmp u v) (T.cmp t v)
  | .mk op n nm ts, .mk op' n' nm' us, .mk op2 n2 nm2 vs => by
    rw [T.cmp, T.cmp, T.cmp]
    exact (cmpI_tr _ _ _).or ((cmpI_tr _ _ _).or ((cmpI_tr _ _ _).or ((cmpL_tr _ _ _).or (cmpTs_tr ts us vs))))
theorem cmpTs_tr : ∀ ts us vs : List T, Tr (cmpTs ts us) (cmpTs us vs) (cmpTs ts vs)
  | [], [], [] => by unfold Tr; simp [cmpTs]
  | [], [], _ :: _ => by unfold Tr; simp [cmpTs]
  | [], _ :: _, [] => by unfold Tr; simp [cmpTs]
  | [], _ :: _, _ :: _ => by unfold Tr; simp [cmpTs]
  | _ :: _, [], [] => by unfold Tr; simp [cmpTs]
  | _ :: _, [], _ :: _ => by unfold Tr; simp [cmpTs]
  | _ :: _, _ :: _, [] => by unfold Tr; simp [cmpTs]
  | t :: ts, u :: us, v :: vs => by rw [cmpTs, cmpTs, cmpTs]; exact (cmp_tr t u v).or (cmpTs_tr ts us vs)
end
theorem name_same {op n : Int} {nm nm' : ByteArray} {c c' : Nat} (h : formB op n nm c = true) (h' : formB op n nm' c' = true) (e : runesL nm = runesL nm') : nm = nm' := by
  by_cases h2 : op = 2
  · have hn : nameB nm = true := by
      unfold formB at h
      revert h
      cases nameB nm <;> simp [h2]
    exact runesL_inj hn e
  · have h1 : nm.toList = [] := by
      unfold formB at h
      simp [h2] at h
      simpa using h.2
    have h3 : nm'.toList = [] := by
      unfold formB at h'
      simp [h2] at h'
      simpa using h'.2
    rw [ByteArray.toList_eq] at h1 h3
    cases nm; cases nm'
    congr 1
    exact Array.toList_inj.1 (h1.trans h3.symm)
mutual
theorem cmp_zero : ∀ t u : T, t.ok = true → u.ok = true → T.cmp t u = 0 → t = u
  | .mk op n nm ts, .mk op' n' nm' us, ht, hu, h => by
    rw [T.ok, Bool.and_eq_true] at ht hu
    rw [T.cmp, orI_zero, orI_zero, orI_zero, orI_zero, cmpI_zero, cmpI_zero, cmpI_zero, cmpL_zero] at h
    obtain ⟨_, rfl, rfl, e, h5⟩ := h
    rw [name_same ht.1 hu.1 e, cmpTs_zero ts us ht.2 hu.2 h5]
theorem cmpTs_zero : ∀ ts us : List T, okL ts = true → okL us = true → cmpTs ts us = 0 → ts = us
  | [], [], _, _, _ => rfl
  | [], _ :: _, _, _, h => by simp [cmpTs] at h
  | _ :: _, [], _, _, h => by simp [cmpTs] at h
  | t :: ts, u :: us, ht, hu, h => by
    rw [okL, Bool.and_eq_true] at ht hu
    rw [cmpTs, orI_zero] at h
    rw [cmp_zero t u ht.1 hu.1 h.1, cmpTs_zero ts us ht.2 hu.2 h.2]
end
mutual
theorem cmp_self : ∀ t : T, T.cmp t t = 0
  | .mk op n nm ts => by
    rw [T.cmp, orI_zero, orI_zero, orI_zero, orI_zero, cmpI_zero, cmpI_zero, cmpI_zero, cmpL_zero]
    exact ⟨rfl, rfl, rfl, rfl, cmpTs_self ts⟩
theorem cmpTs_self : ∀ ts : List T, cmpTs ts ts = 0
  | [] => rfl
  | t :: ts => by rw [cmpTs, orI_zero]; exact ⟨cmp_self t, cmpTs_self ts⟩
end
theorem cmp_size (t u : T) (h : t.size < u.size) : T.cmp t u = -1 := by
  cases t with | mk op n nm ts =>
  cases u with | mk op' n' nm' us =>
  rw [T.size, T.size] at h
  rw [T.cmp]
  have e : cmpI (sizeL ts) (sizeL us) = -1 := if_pos (by omega)
  rw [e]; rfl
end Go.Proofs.YtacjjfoelhckcaaDoor.PExprOrders

/- Plain laws over trees: Order, the program's and the reference's. -/
namespace Go.Proofs.YtacjjfoelhckcaaDoor.PExprOrders
open Go.RowKit Go.Proofs.YtacjjfoelhckcaaDoorW.PrintWords
set_option linter.unusedVariables false

theorem runes_len (s : ByteArray) : ∀ (n p : Nat), (runesFrom s n p).length ≤ n := by
  intro n
  induction n with
  | zero => intro p; simp [runesFrom]
  | succ n ih =>
    intro p
    rw [runesFrom]
    split
    · rw [List.length_cons]; have := ih (p + (Utf8.decode s p).2); omega
    · simp
theorem name_len (s : ByteArray) : ∀ (l : List (Nat × Int)) (n : Nat), n + l.length ≤ 4611686018427387904 → nameFrom s (n : Int) l = true → n + l.length ≤ 16
  | [], n, _, h => by
    rw [nameFrom, Bool.and_eq_true, decide_eq_true_eq, decide_eq_true_eq] at h
    simp; omega
  | q :: l, n, hb, h => by
    rw [nameFrom, Bool.and_eq_true] at h
    rw [List.length_cons] at hb ⊢
    have h2 := h.2
    rw [w64 ((n : Int) + 1) (by omega)] at h2
    have := name_len s l (n + 1) (by omega) h2
    omega
theorem form_runes {op n : Int} {nm : ByteArray} {c : Nat} (h : formB op n nm c = true) (hs : nm.size ≤ 140737488351232) : (runesL nm).length ≤ 70368744177664 := by
  have hl : (runesL nm).length = (runesAt nm 0).length := by rw [runesL, List.length_map]
  have hr := runes_len nm (nm.size - 0) 0
  have hr2 : (runesAt nm 0).length ≤ nm.size - 0 := hr
  by_cases h2 : op = 2
  · have hn : nameB nm = true := by
      unfold formB at h
      revert h
      cases nameB nm <;> simp [h2]
    have := name_len nm (runesAt nm 0) 0 (by omega) hn
    omega
  · have h1 : nm.toList = [] := by
      unfold formB at h
      simp [h2] at h
      simpa using h.2
    rw [ByteArray.toList_eq] at h1
    have : nm.size = 0 := by
      show nm.data.size = 0
      rw [← Array.length_toList, h1]; rfl
    omega
theorem orderR_ev {op n op' n' : Int} {nm nm' : ByteArray} {c c' : Nat} (h : formB op n nm c = true) (h' : formB op' n' nm' c' = true) (hs : nm.size ≤ 140737488351232) (hs' : nm'.size ≤ 140737488351232) : orderR nm nm' = some (cmpL (runesL nm) (runesL nm')) :=
  if_pos ⟨form_runes h hs, form_runes h' hs'⟩
theorem orI_assoc (a b c : Int) : orI (orI a b) c = orI a (orI b c) := by
  by_cases h : a = 0
  · rw [show ∀ z, orI a z = z from fun z => if_pos h, show ∀ z, orI a z = z from fun z => if_pos h]
  · have g : ∀ z, orI a z = a := fun z => if_neg h
    rw [g b, g c, g]
theorem cmpInt_eq (a b : Int) : cmp_Compare_int.f a b = some (cmpI a b) := by
  unfold cmp_Compare_int.f cmp_isNaN_int.f cmpI
  simp only [Option.bind_some, bne_self_eq_false, Bool.false_eq_true, if_false]
  split
  · rfl
  · split <;> first | rfl | omega
theorem cmpInt64_eq (a b : Int) : cmp_Compare_int64.f a b = some (cmpI a b) := by
  unfold cmp_Compare_int64.f cmp_isNaN_int64.f cmpI
  simp only [Option.bind_some, bne_self_eq_false, Bool.false_eq_true, if_false]
  split
  · rfl
  · split <;> first | rfl | omega
theorem cmpOr_ev (a b c : Int) : Ev (fun k => cmp_Or_int.f k [a, b, c]) (orI a (orI b c)) := by
  have e3 : Ev (fun k => cmp_Or_int.l0 k 0 [a, b, c] 3 3) 0 := Ev.last fun k => by rw [cmp_Or_int.l0, if_neg (by omega)]
  have e2 : Ev (fun k => cmp_Or_int.l0 k 0 [a, b, c] 3 2) c := by
    have er : rd [a, b, c] 2 = c := rfl
    by_cases h : c = 0
    · rw [h]
      refine Ev.step (f := fun k => cmp_Or_int.l0 k 0 [a, b, 0] 3 3) (fun k => ?_) (by rw [h] at e3; exact e3)
      rw [cmp_Or_int.l0, if_pos (by omega), if_pos (by omega), if_pos (by simp), if_pos (show rd [a, b, 0] 2 = 0 from rfl), w64 (2 + 1) (by omega)]
      rfl
    · refine Ev.last fun k => ?_
      rw [cmp_Or_int.l0, if_pos (by omega), if_pos (by omega), if_pos (by simp), er, if_neg h]
  have e1 : Ev (fun k => cmp_Or_int.l0 k 0 [a, b, c] 3 1) (orI b c) := by
    have er : rd [a, b, c] 1 = b := rfl
    by_cases h : b = 0
    · have : orI b c = c := if_pos h
      rw [this]
      refine Ev.step (f := fun k => cmp_Or_int.l0 k 0 [a, b, c] 3 2) (fun k => ?_) e2
      rw [cmp_Or_int.l0, if_pos (by omega), if_pos (by omega), if_pos (by simp), er, if_pos h, w64 (1 + 1) (by omega)]
      rfl
    · have : orI b c = b := if_neg h
      rw [this]
      refine Ev.last fun k => ?_
      rw [cmp_Or_int.l0, if_pos (by omega), if_pos (by omega), if_pos (by simp), er, if_neg h]
  unfold cmp_Or_int.f
  have er : rd [a, b, c] 0 = a := rfl
  by_cases h : a = 0
  · have : orI a (orI b c) = orI b c := if_pos h
    rw [this]
    refine Ev.step (f := fun k => cmp_Or_int.l0 k 0 [a, b, c] 3 1) (fun k => ?_) e1
    rw [cmp_Or_int.l0, if_pos (by simp), if_pos (by omega), if_pos (by simp), er, if_pos h, w64 (0 + 1) (by omega)]
    rfl
  · have : orI a (orI b c) = a := if_neg h
    rw [this]
    refine Ev.last fun k => ?_
    rw [cmp_Or_int.l0, if_pos (by simp), if_pos (by omega), if_pos (by simp), er, if_neg h]
/-- Where the j-th kid of a part stands. -/
theorem seg_kid {l pre post : List S45} {b : Nat} {op n : Int} {nm : ByteArray} {ts : List T} (e : l = pre ++ (T.mk op n nm ts).flat b ++ post) (hp : pre.length = b) (j : Nat) (hj : j < ts.length) :
    ∃ (pre' post' : List S45), l = pre' ++ (ts[j]).flat (b + sizeL (ts.take j)) ++ post' ∧ pre'.length = b + sizeL (ts.take j) ∧ (roots b ts)[j]? = some ((b + sizeL (ts.take j) + (ts[j]).size - 1 : Nat) : Int) := by
  have e1 : ts = ts.take j ++ ts[j] :: ts.drop (j + 1) := by rw [← List.drop_eq_getElem_cons hj, List.take_append_drop]
  refine ⟨pre ++ flatL b (ts.take j), flatL (b + sizeL (ts.take j) + (ts[j]).size) (ts.drop (j + 1)) ++ [⟨op, n, nm, roots b ts⟩] ++ post, ?_, ?_, ?_⟩
  · rw [e, T.flat]
    have e2 : flatL b ts = flatL b (ts.take j) ++ ((ts[j]).flat (b + sizeL (ts.take j)) ++ flatL (b + sizeL (ts.take j) + (ts[j]).size) (ts.drop (j + 1))) := by
      conv => lhs; rw [e1]
      rw [flatL_app, flatL]
    rw [e2]
    simp only [List.append_assoc]
  · rw [List.length_append, flatL_len, hp]
  · have e2 : roots b ts = roots b (ts.take j) ++ (((b + sizeL (ts.take j) + (ts[j]).size - 1 : Nat) : Int) :: roots (b + sizeL (ts.take j) + (ts[j]).size) (ts.drop (j + 1))) := by
      conv => lhs; rw [e1]
      rw [roots_app, roots]
    have hl : (roots b (ts.take j)).length = j := by rw [roots_len, List.length_take]; omega
    rw [e2, List.getElem?_append_right (by omega), hl, Nat.sub_self]
    rfl
theorem rd_root {ts : List T} {b j : Nat} {v : Int} (h : (roots b ts)[j]? = some v) : rd (roots b ts) (j : Int) = v := by
  show (roots b ts).getD j 0 = v
  rw [List.getD_eq_getElem?_getD, h]; rfl
theorem kids_same {op n n' : Int} {nm nm' : ByteArray} {ts us : List T} (h : formB op n nm ts.length = true) (h' : formB op n' nm' us.length = true) : ts.length = us.length := by
  unfold formB at h h'
  split at h
  · cases h
  · split at h'
    · cases h'
    · omega
theorem size_take (ts : List T) (j : Nat) (hj : j < ts.length) : sizeL (ts.take j) + (ts[j]).size ≤ sizeL ts := by
  have e1 : ts = ts.take j ++ ts[j] :: ts.drop (j + 1) := by rw [← List.drop_eq_getElem_cons hj, List.take_append_drop]
  have : sizeL ts = sizeL (ts.take j) + ((ts[j]).size + sizeL (ts.drop (j + 1))) := by
    conv => lhs; rw [e1]
    rw [sizeL_app, sizeL]
  omega
theorem okL_get {ts : List T} (h : okL ts = true) (j : Nat) (hj : j < ts.length) : (ts[j]).ok = true := by
  have e1 : ts = ts.take j ++ ts[j] :: ts.drop (j + 1) := by rw [← List.drop_eq_getElem_cons hj, List.take_append_drop]
  rw [e1, okL_app, Bool.and_eq_true, okL, Bool.and_eq_true] at h
  exact h.2.1
theorem cmpTs_cons (ts us : List T) (j : Nat) (h : j < ts.length) (h' : j < us.length) : cmpTs (ts.drop j) (us.drop j) = orI (T.cmp ts[j] us[j]) (cmpTs (ts.drop (j + 1)) (us.drop (j + 1))) := by
  rw [List.drop_eq_getElem_cons h, List.drop_eq_getElem_cons h', cmpTs]
theorem order_ev (l m : List S45) (hl : l.length ≤ 64) (hm : m.length ≤ 64) (hk : ∀ x ∈ l, okE x) (hmk : ∀ x ∈ m, okE x) : ∀ (N : Nat) (t u : T) (b c : Nat) (pre post pre' post' : List S45), t.size ≤ N → t.ok = true → u.ok = true →
    l = pre ++ t.flat b ++ post → pre.length = b → m = pre' ++ u.flat c ++ post' → pre'.length = c →
    Ev (fun k => expr_order.f k l m ((b + t.size - 1 : Nat) : Int) ((c + u.size - 1 : Nat) : Int)) (T.cmp t u) := by
  intro N
  induction N with
  | zero => intro t u b c pre post pre' post' h; have := size_pos t; omega
  | succ N ih =>
    intro t u b c pre post pre' post' hN ht hu e hp e' hp'
    obtain ⟨hlt, hroot⟩ := seg_root e hp
    obtain ⟨hlt', hroot'⟩ := seg_root e' hp'
    have ea : rd_T45 l ((b + t.size - 1 : Nat) : Int) = rootN b t := (getD_lt l _ _ hlt).trans hroot
    have eb : rd_T45 m ((c + u.size - 1 : Nat) : Int) = rootN c u := (getD_lt m _ _ hlt').trans hroot'
    have hb1 := begin_ev l hl t.size t b pre post (Nat.le_refl _) e hp
    have hb2 := begin_ev m hm u.size u c pre' post' (Nat.le_refl _) e' hp'
    have htp := size_pos t
    have hup := size_pos u
    have okt : okE (rootN b t) := by rw [← hroot]; exact hk _ (List.getElem_mem hlt)
    have oku : okE (rootN c u) := by rw [← hroot']; exact hmk _ (List.getElem_mem hlt')
    cases t with | mk op n nm ts =>
    cases u with | mk op' n' nm' us =>
    rw [T.ok, Bool.and_eq_true] at ht hu
    have hor : orderR nm nm' = some (cmpL (runesL nm) (runesL nm')) := orderR_ev ht.1 hu.1 okt.2.2.1 oku.2.2.1
    have est : (T.mk op n nm ts).size = sizeL ts + 1 := by rw [T.size]
    have esu : (T.mk op' n' nm' us).size = sizeL us + 1 := by rw [T.size]
    have w1 : wrap64 (((b + (T.mk op n nm ts).size - 1 : Nat) : Int) - (b : Int)) = (sizeL ts : Int) := by rw [w64 _ (by omega)]; omega
    have w2 : wrap64 (((c + (T.mk op' n' nm' us).size - 1 : Nat) : Int) - (c : Int)) = (sizeL us : Int) := by rw [w64 _ (by omega)]; omega
    have hst : Ev (fun k => expr_order.f (k + 1) l m ((b + (T.mk op n nm ts).size - 1 : Nat) : Int) ((c + (T.mk op' n' nm' us).size - 1 : Nat) : Int)) (T.cmp (.mk op n nm ts) (.mk op' n' nm' us)) := by
      simp only [expr_order.f]
      refine Ev.congr (fun k => if_pos (by omega)) (Ev.congr (fun k => if_pos (by omega)) (Ev.congr (fun k => if_pos (by omega)) (Ev.congr (fun k => if_pos (by omega)) ?_)))
      refine Ev.bind hb1 (Ev.bind hb2 ?_)
      rw [w1, w2, ea, eb]
      refine Ev.bind (Ev.pure fun k => cmpInt_eq _ _) ?_
      rw [T.cmp, ← orI_assoc (cmpI n n'), ← orI_assoc (cmpI op op')]
      by_cases h1 : cmpI (sizeL ts) (sizeL us) = 0
      · refine Ev.congr (fun k => if_pos h1) ?_
        rw [show ∀ z, orI (cmpI (sizeL ts) (sizeL us)) z = z from fun z => if_pos h1]
        refine Ev.bind (Ev.pure fun k => cmpInt_eq op op') (Ev.bind (Ev.pure fun k => cmpInt64_eq n n') (Ev.bind (Ev.pure fun k => hor) (Ev.bind (cmpOr_ev _ _ _) ?_)))
        by_cases h2 : orI (cmpI op op') (orI (cmpI n n') (cmpL (runesL nm) (runesL nm'))) = 0
        · refine Ev.congr (fun k => if_pos h2) ?_
          rw [show ∀ z, orI (orI (cmpI op op') (orI (cmpI n n') (cmpL (runesL nm) (runesL nm')))) z = z from fun z => if_pos h2]
          rw [orI_zero, cmpI_zero] at h2
          have hop := h2.1
          subst hop
          have hlen := kids_same ht.1 hu.1
          have hts := len_le_size ts
          have hrl := roots_len ts b
          have hrl' := roots_len us c
          have loop : ∀ (q j : Nat), ts.length - j ≤ q → j ≤ ts.length → Ev (fun k => expr_order.l0 k l m ((roots b ts).length : Int) (j : Int) op n nm (roots b ts) op n' nm' (roots c us)) (cmpTs (ts.drop j) (us.drop j)) := by
            have fin : ∀ j : Nat, ts.length ≤ j → Ev (fun k => expr_order.l0 k l m ((roots b ts).length : Int) (j : Int) op n nm (roots b ts) op n' nm' (roots c us)) (cmpTs (ts.drop j) (us.drop j)) := by
              intro j hj
              rw [List.drop_eq_nil_of_le hj, List.drop_eq_nil_of_le (by omega)]
              refine Ev.last fun k => ?_
              rw [expr_order.l0, if_neg (by omega)]
              rfl
            intro q
            induction q with
            | zero => intro j h3 h4; exact fin j (by omega)
            | succ q ihq =>
              intro j h3 h4
              by_cases hj : j < ts.length
              · have hj' : j < us.length := by omega
                obtain ⟨p1, q1, e1, l1, r1⟩ := seg_kid e hp j hj
                obtain ⟨p2, q2, e2, l2, r2⟩ := seg_kid e' hp' j hj'
                have hsz := size_take ts j hj
                have go := ih ts[j] us[j] _ _ p1 q1 p2 q2 (by omega) (okL_get ht.2 j hj) (okL_get hu.2 j hj') e1 l1 e2 l2
                have hst2 : Ev (fun k => expr_order.l0 (k + 1) l m ((roots b ts).length : Int) (j : Int) op n nm (roots b ts) op n' nm' (roots c us)) (cmpTs (ts.drop j) (us.drop j)) := by
                  simp only [expr_order.l0]
                  refine Ev.congr (fun k => if_pos (by omega)) (Ev.congr (fun k => if_pos (by omega)) (Ev.congr (fun k => if_pos (by omega)) (Ev.congr (fun k => if_pos (by omega)) ?_)))
                  rw [rd_root r1, rd_root r2]
                  refine Ev.bind go ?_
                  rw [cmpTs_cons ts us j hj hj']
                  by_cases h5 : T.cmp ts[j] us[j] = 0
                  · rw [show ∀ z, orI (T.cmp ts[j] us[j]) z = z from fun z => if_pos h5, w64 _ (by omega)]
                    exact Ev.congr (fun k => if_pos h5) (ihq (j + 1) (by omega) (by omega))
                  · rw [show ∀ z, orI (T.cmp ts[j] us[j]) z = T.cmp ts[j] us[j] from fun z => if_neg h5]
                    exact Ev.congr (fun k => if_neg h5) (Ev.now _)
                exact Ev.step (fun _ => rfl) hst2
              · exact fin j (by omega)
          exact loop _ 0 (Nat.le_refl _) (Nat.zero_le _)
        · rw [show ∀ z, orI (orI (cmpI op op') (orI (cmpI n n') (cmpL (runesL nm) (runesL nm')))) z = orI (cmpI op op') (orI (cmpI n n') (cmpL (runesL nm) (runesL nm'))) from fun z => if_neg h2]
          exact Ev.congr (fun k => if_neg h2) (Ev.now _)
      · rw [show ∀ z, orI (cmpI (sizeL ts) (sizeL us)) z = cmpI (sizeL ts) (sizeL us) from fun z => if_neg h1]
        exact Ev.congr (fun k => if_neg h1) (Ev.now _)
    exact Ev.step (fun _ => rfl) hst
theorem walk_tree (l : List S45) (hl : l.length ≤ 64) (hk : ∀ x ∈ l, okE x) : ∀ (N : Nat) (t : T) (b : Nat) (pre post : List S45), t.size ≤ N → l = pre ++ t.flat b ++ post → pre.length = b → Wk l ((b + t.size - 1 : Nat) : Int) ((b : Int) - 1) := by
  intro N
  induction N with
  | zero => intro t b pre post h; have := size_pos t; omega
  | succ N ih =>
    intro t b pre post hN e hp
    obtain ⟨hlt, hroot⟩ := seg_root e hp
    cases t with | mk op n nm ts =>
    have est : (T.mk op n nm ts).size = sizeL ts + 1 := by rw [T.size]
    have hrl := roots_len ts b
    have hkid : (l[b + (T.mk op n nm ts).size - 1]).f3.length ≤ 17592186043904 := (hk _ (List.getElem_mem hlt)).kids
    refine wk_node l hl _ hlt hkid ?_
    have ef : (l[b + (T.mk op n nm ts).size - 1]).f3 = roots b ts := by rw [hroot]; rfl
    rw [ef] at hkid ⊢
    have loop : ∀ (j : Nat), j ≤ ts.length → Ev (fun k => sorrelref02_walk.l0 k l ((b + sizeL (ts.take j) : Nat) - 1 : Int) (roots b ts) ((j : Int) - 1)) ((b : Int) - 1) := by
      intro j
      induction j with
      | zero =>
        intro _
        have : sizeL (ts.take 0) = 0 := rfl
        rw [this]
        exact kid_end l _ _ _ (by omega)
      | succ j ihj =>
        intro hj
        obtain ⟨p1, q1, e1, l1, r1⟩ := seg_kid e hp j hj
        have hsz := size_take ts j hj
        have hpj := size_pos ts[j]
        have hjr : j < (roots b ts).length := by omega
        have er : (roots b ts)[j] = ((b + sizeL (ts.take j) + (ts[j]).size - 1 : Nat) : Int) := by
          rw [List.getElem?_eq_getElem hjr] at r1
          exact Option.some.inj r1
        have hw := ih ts[j] _ p1 q1 (by omega) e1 l1
        rw [← er] at hw
        have et : sizeL (ts.take (j + 1)) = sizeL (ts.take j) + (ts[j]).size := by
          rw [List.take_succ_eq_append_getElem hj, sizeL_app, sizeL, sizeL]; rfl
        have := kid_on l (roots b ts) hkid j hjr hw (by omega) (ihj (by omega))
        have ee : (((b + sizeL (ts.take (j + 1)) : Nat) : Int) - 1) = (roots b ts)[j] := by rw [er, et]; omega
        have ej : ((j + 1 : Nat) : Int) - 1 = (j : Int) := by omega
        rw [ee, ej]
        exact this
    have := loop ts.length (Nat.le_refl _)
    rw [List.take_length] at this
    have e1 : (((b + (T.mk op n nm ts).size - 1 : Nat) : Int) - 1) = ((b + sizeL ts : Nat) : Int) - 1 := by omega
    rw [e1, hrl]
    exact this
theorem heads_ev {op n op' n' : Int} {nm nm' : ByteArray} (kids kids' : List Int) (h : formB op n nm kids.length = true) (h' : formB op' n' nm' kids'.length = true) (hs : nm.size ≤ 140737488351232) (hs' : nm'.size ≤ 140737488351232) :
    Ev (fun k => sorrelref02_Heads.f k op n nm kids op' n' nm' kids') (orI (cmpI op op') (orI (cmpI n n') (cmpL (runesL nm) (runesL nm')))) := by
  have hor : orderR nm nm' = some (cmpL (runesL nm) (runesL nm')) := orderR_ev h h' hs hs'
  have j0 : ∀ (x : Bool), (x = true → orI (cmpI op op') (orI (cmpI n n') (cmpL (runesL nm) (runesL nm'))) = -1) → (x = false → ¬ op < op' ∧ (op = op' → ¬ n < n')) → Ev (fun k => sorrelref02_Heads.j0 k x op n nm kids op' n' nm' kids') (orI (cmpI op op') (orI (cmpI n n') (cmpL (runesL nm) (runesL nm')))) := by
    intro x h1 h2
    cases x with
    | true =>
      rw [h1 rfl]
      exact Ev.last fun k => by rw [sorrelref02_Heads.j0, if_pos rfl]
    | false =>
      obtain ⟨g1, g2⟩ := h2 rfl
      by_cases c1 : op > op'
      · have : cmpI op op' = 1 := (if_neg g1).trans (if_pos c1)
        rw [this]
        exact Ev.last fun k => by rw [sorrelref02_Heads.j0, if_neg (by simp), if_pos c1]; rfl
      · have eo : op = op' := by omega
        have : cmpI op op' = 0 := (cmpI_zero _ _).2 eo
        rw [this]
        have g3 := g2 eo
        by_cases c2 : n > n'
        · have : cmpI n n' = 1 := (if_neg g3).trans (if_pos c2)
          rw [this]
          exact Ev.last fun k => by rw [sorrelref02_Heads.j0, if_neg (by simp), if_neg c1, if_pos c2]; rfl
        · have : cmpI n n' = 0 := (cmpI_zero _ _).2 (by omega)
          rw [this]
          have hst : Ev (fun k => sorrelref02_Heads.j0 (k + 1) false op n nm kids op' n' nm' kids') (orI 0 (orI 0 (cmpL (runesL nm) (runesL nm')))) := by
            simp only [sorrelref02_Heads.j0]
            refine Ev.congr (fun k => if_neg (by simp)) (Ev.congr (fun k => if_neg c1) (Ev.congr (fun k => if_neg c2) ?_))
            exact Ev.bind (Ev.pure fun k => hor) (Ev.now _)
          exact Ev.step (fun _ => rfl) hst
  unfold sorrelref02_Heads.f
  by_cases c1 : op < op'
  · refine Ev.congr (fun k => if_pos c1) (j0 true (fun _ => ?_) (fun h => by cases h))
    have : cmpI op op' = -1 := if_pos c1
    rw [this]; rfl
  · refine Ev.congr (fun k => if_neg c1) ?_
    by_cases c2 : op = op'
    · refine Ev.congr (fun k => if_pos c2) (j0 _ (fun h => ?_) (fun h => ?_))
      · have h3 : n < n' := of_decide_eq_true h
        have e1 : cmpI op op' = 0 := (cmpI_zero _ _).2 c2
        have e2 : cmpI n n' = -1 := if_pos h3
        rw [e1, e2]; rfl
      · exact ⟨c1, fun _ => of_decide_eq_false h⟩
    · exact Ev.congr (fun k => if_neg c2) (j0 false (fun h => by cases h) (fun _ => ⟨c1, fun h => absurd h c2⟩))
theorem refOrder_ev (l m : List S45) (hl : l.length ≤ 64) (hm : m.length ≤ 64) (hk : ∀ x ∈ l, okE x) (hmk : ∀ x ∈ m, okE x) : ∀ (N : Nat) (t u : T) (b c : Nat) (pre post pre' post' : List S45), t.size ≤ N → t.ok = true → u.ok = true →
    l = pre ++ t.flat b ++ post → pre.length = b → m = pre' ++ u.flat c ++ post' → pre'.length = c →
    Ev (fun k => sorrelref02_order.f k l m ((b + t.size - 1 : Nat) : Int) ((c + u.size - 1 : Nat) : Int)) (T.cmp t u) := by
  intro N
  induction N with
  | zero => intro t u b c pre post pre' post' h; have := size_pos t; omega
  | succ N ih =>
    intro t u b c pre post pre' post' hN ht hu e hp e' hp'
    obtain ⟨hlt, hroot⟩ := seg_root e hp
    obtain ⟨hlt', hroot'⟩ := seg_root e' hp'
    have ea : rd_T45 l ((b + t.size - 1 : Nat) : Int) = rootN b t := (getD_lt l _ _ hlt).trans hroot
    have eb : rd_T45 m ((c + u.size - 1 : Nat) : Int) = rootN c u := (getD_lt m _ _ hlt').trans hroot'
    have hb1 := walk_tree l hl hk t.size t b pre post (Nat.le_refl _) e hp
    have hb2 := walk_tree m hm hmk u.size u c pre' post' (Nat.le_refl _) e' hp'
    have htp := size_pos t
    have hup := size_pos u
    have okt : okE (rootN b t) := by rw [← hroot]; exact hk _ (List.getElem_mem hlt)
    have oku : okE (rootN c u) := by rw [← hroot']; exact hmk _ (List.getElem_mem hlt')
    cases t with | mk op n nm ts =>
    cases u with | mk op' n' nm' us =>
    rw [T.ok, Bool.and_eq_true] at ht hu
    have est : (T.mk op n nm ts).size = sizeL ts + 1 := by rw [T.size]
    have esu : (T.mk op' n' nm' us).size = sizeL us + 1 := by rw [T.size]
    have w1 : wrap64 (((b + (T.mk op n nm ts).size - 1 : Nat) : Int) - ((b : Int) - 1)) = (sizeL ts : Int) + 1 := by rw [w64 _ (by omega)]; omega
    have w2 : wrap64 (((c + (T.mk op' n' nm' us).size - 1 : Nat) : Int) - ((c : Int) - 1)) = (sizeL us : Int) + 1 := by rw [w64 _ (by omega)]; omega
    have hrl := roots_len ts b
    have hrl' := roots_len us c
    have hts := len_le_size ts
    have hst : Ev (fun k => sorrelref02_order.f (k + 1) l m ((b + (T.mk op n nm ts).size - 1 : Nat) : Int) ((c + (T.mk op' n' nm' us).size - 1 : Nat) : Int)) (T.cmp (.mk op n nm ts) (.mk op' n' nm' us)) := by
      simp only [sorrelref02_order.f]
      refine Ev.bind hb1 (Ev.bind hb2 ?_)
      rw [w1, w2, ea, eb]
      rw [T.cmp, ← orI_assoc (cmpI n n'), ← orI_assoc (cmpI op op')]
      by_cases h1 : (sizeL ts : Int) < sizeL us
      · have : cmpI (sizeL ts) (sizeL us) = -1 := if_pos h1
        rw [this]
        exact Ev.congr (fun k => if_pos (by omega)) (Ev.now _)
      · refine Ev.congr (fun k => if_neg (by omega)) ?_
        by_cases h2 : (sizeL us : Int) < sizeL ts
        · have : cmpI (sizeL ts) (sizeL us) = 1 := (if_neg h1).trans (if_pos h2)
          rw [this]
          exact Ev.congr (fun k => if_pos (by omega)) (Ev.now _)
        · have h3 : cmpI (sizeL ts) (sizeL us) = 0 := (if_neg h1).trans (if_neg h2)
          rw [show ∀ z, orI (cmpI (sizeL ts) (sizeL us)) z = z from fun z => if_pos h3]
          refine Ev.congr (fun k => if_neg (by omega)) ?_
          refine Ev.congr (fun k => if_pos (by omega)) (Ev.congr (fun k => if_pos (by omega)) (Ev.congr (fun k => if_pos (by omega)) (Ev.congr (fun k => if_pos (by omega)) ?_)))
          refine Ev.bind (heads_ev (op := op) (n := n) (nm := nm) (op' := op') (n' := n') (nm' := nm') (roots b ts) (roots c us) (by rw [hrl]; exact ht.1) (by rw [hrl']; exact hu.1) okt.2.2.1 oku.2.2.1) ?_
          have loop : ∀ (q j : Nat) (x : Int), ts.length - j ≤ q → j ≤ ts.length → (x = 0 → op = op') → Ev (fun k => sorrelref02_order.l0 k l m ((b + (T.mk op n nm ts).size - 1 : Nat) : Int) ((c + (T.mk op' n' nm' us).size - 1 : Nat) : Int) x (j : Int)) (orI x (cmpTs (ts.drop j) (us.drop j))) := by
            intro q
            have fin : ∀ (j : Nat) (x : Int), ts.length ≤ j → (x = 0 → op = op') → Ev (fun k => sorrelref02_order.l0 k l m ((b + (T.mk op n nm ts).size - 1 : Nat) : Int) ((c + (T.mk op' n' nm' us).size - 1 : Nat) : Int) x (j : Int)) (orI x (cmpTs (ts.drop j) (us.drop j))) := by
              intro j x hj hop
              by_cases hx : x = 0
              · have hop := hop hx
                subst hop
                have hlen := kids_same ht.1 hu.1
                rw [List.drop_eq_nil_of_le hj, List.drop_eq_nil_of_le (by omega), hx]
                refine Ev.last fun k => ?_
                have ef : (rootN b (.mk op n nm ts)).f3 = roots b ts := rfl
                rw [sorrelref02_order.l0, if_pos rfl, if_pos (by omega), if_pos (by omega), ea, ef, if_neg (by omega)]
                rfl
              · rw [show ∀ z, orI x z = x from fun z => if_neg hx]
                refine Ev.last fun k => ?_
                rw [sorrelref02_order.l0, if_neg hx]
            induction q with
            | zero => intro j x h4 h5 hop; exact fin j x (by omega) hop
            | succ q ihq =>
              intro j x h4 h5 hop
              by_cases hj : j < ts.length
              · by_cases hx : x = 0
                · have hop2 := hop hx
                  have hlen : ts.length = us.length := by subst hop2; exact kids_same ht.1 hu.1
                  have hj' : j < us.length := by omega
                  obtain ⟨p1, q1, e1, l1, r1⟩ := seg_kid e hp j hj
                  obtain ⟨p2, q2, e2, l2, r2⟩ := seg_kid e' hp' j hj'
                  have hsz := size_take ts j hj
                  have go := ih ts[j] us[j] _ _ p1 q1 p2 q2 (by omega) (okL_get ht.2 j hj) (okL_get hu.2 j hj') e1 l1 e2 l2
                  have ef : (rootN b (.mk op n nm ts)).f3 = roots b ts := rfl
                  have ef' : (rootN c (.mk op' n' nm' us)).f3 = roots c us := rfl
                  have hst2 : Ev (fun k => sorrelref02_order.l0 (k + 1) l m ((b + (T.mk op n nm ts).size - 1 : Nat) : Int) ((c + (T.mk op' n' nm' us).size - 1 : Nat) : Int) x (j : Int)) (orI x (cmpTs (ts.drop j) (us.drop j))) := by
                    simp only [sorrelref02_order.l0]
                    rw [ea, eb, ef, ef']
                    refine Ev.congr (fun k => if_pos hx) (Ev.congr (fun k => if_pos (by omega)) (Ev.congr (fun k => if_pos (by omega)) (Ev.congr (fun k => if_pos (by omega)) (Ev.congr (fun k => if_pos (by omega)) (Ev.congr (fun k => if_pos (by omega)) (Ev.congr (fun k => if_pos (by omega)) (Ev.congr (fun k => if_pos (by omega)) ?_)))))))
                    rw [rd_root r1, rd_root r2]
                    refine Ev.bind go ?_
                    rw [show ∀ z, orI x z = z from fun z => if_pos hx, cmpTs_cons ts us j hj hj', w64 _ (by omega)]
                    exact ihq (j + 1) _ (by omega) (by omega) (fun _ => hop2)
                  exact Ev.step (fun _ => rfl) hst2
                · rw [show ∀ z, orI x z = x from fun z => if_neg hx]
                  refine Ev.last fun k => ?_
                  rw [sorrelref02_order.l0, if_neg hx]
              · exact fin j x (by omega) hop
          exact loop _ 0 _ (Nat.le_refl _) (Nat.zero_le _) (fun h => by rw [orI_zero, cmpI_zero] at h; exact h.1)
    exact Ev.step (fun _ => rfl) hst
end Go.Proofs.YtacjjfoelhckcaaDoor.PExprOrders

namespace Go.Proofs.YtacjjfoelhckcaaDoor.exprOrders
set_option linter.unusedVariables false
open Go.RowKit Go.Proofs.YtacjjfoelhckcaaDoorW.PrintWords PExprOrders

theorem awake_ev : Ev (fun k => sorrellaw02_awake.f k) true := by
  unfold sorrellaw02_awake.f
  have hm : Ev (fun k => expr_Make.f k 1 7 (⟨#[]⟩ : ByteArray) ([] : List (List (S45)))) ([⟨1, 7, ⟨#[]⟩, []⟩], 0) := by
    unfold expr_Make.f
    have hst : Ev (fun k => expr_Make.l0 (k + 1) ([] : List (S45)) 1 ([] : List (List S45)) (([] : List (List S45)).length : Int) 0 1 7 (⟨#[]⟩ : ByteArray) ([] : List Int)) ([⟨1, 7, ⟨#[]⟩, []⟩], 0) := by
      simp only [expr_Make.l0]
      refine Ev.congr (fun k => if_neg (by simp)) ?_
      refine Ev.bind (sound_ev 1 7 ⟨#[]⟩ []) ?_
      refine Ev.congr (fun k => if_pos (by decide +kernel)) ?_
      exact Ev.pure fun k => rfl
    exact Ev.step (fun _ => rfl) hst
  refine Ev.bind hm ?_
  exact Ev.pure fun k => rfl
theorem order_bad (l m : List S45) (hk : ∀ x ∈ l, okE x) (hmk : ∀ x ∈ m, okE x) (h : checkE l ≠ 0 ∨ checkE m ≠ 0) : Ev (fun k => expr_Order.f k l m) (0, 1) := by
  unfold expr_Order.f
  refine Ev.bind (check_ev l hk) ?_
  by_cases h1 : checkE l = 0
  · have h2 := h.resolve_left (fun h => h h1)
    exact Ev.congr (fun k => if_pos h1) (Ev.bind (check_ev m hmk) (Ev.congr (fun k => if_neg h2) (Ev.now _)))
  · exact Ev.congr (fun k => if_neg h1) (Ev.now _)
theorem refOrder_bad (l m : List S45) (hl : l.length ≤ 2513169434843) (hm : m.length ≤ 2513169434843) (hk : ∀ x ∈ l, okE x) (hmk : ∀ x ∈ m, okE x) (h : checkE l ≠ 0 ∨ checkE m ≠ 0) : Ev (fun k => sorrelref02_Order.f k l m) (0, 1) := by
  unfold sorrelref02_Order.f
  refine Ev.bind (refCheck_ev l hk hl) ?_
  by_cases h1 : checkE l = 0
  · have h2 := h.resolve_left (fun h => h h1)
    exact Ev.congr (fun k => if_pos h1) (Ev.bind (refCheck_ev m hmk hm) (Ev.congr (fun k => if_neg h2) (Ev.now _)))
  · exact Ev.congr (fun k => if_neg h1) (Ev.now _)
theorem order_good (t u : T) (ht : t.ok = true) (hu : u.ok = true) (hs : t.size ≤ 64) (hus : u.size ≤ 64) (hk : ∀ x ∈ t.flat 0, okE x) (hmk : ∀ x ∈ u.flat 0, okE x) : Ev (fun k => expr_Order.f k (t.flat 0) (u.flat 0)) (T.cmp t u, 0) := by
  unfold expr_Order.f
  have hl := flat_len 0 t
  have hm := flat_len 0 u
  have h1 := size_pos t
  have h2 := size_pos u
  have e1 : wrap64 (((t.flat 0).length : Int) - 1) = ((0 + t.size - 1 : Nat) : Int) := by rw [w64 _ (by omega)]; omega
  have e2 : wrap64 (((u.flat 0).length : Int) - 1) = ((0 + u.size - 1 : Nat) : Int) := by rw [w64 _ (by omega)]; omega
  have go := order_ev (t.flat 0) (u.flat 0) (by omega) (by omega) hk hmk t.size t u 0 0 [] [] [] [] (Nat.le_refl _) ht hu (by simp) rfl (by simp) rfl
  rw [← e1, ← e2] at go
  exact Ev.bind (check_ev _ hk) (Ev.congr (fun k => if_pos (checkE_flat t ht hs)) (Ev.bind (check_ev _ hmk) (Ev.congr (fun k => if_pos (checkE_flat u hu hus)) (Ev.bind go (Ev.now _)))))
theorem refOrder_good (t u : T) (ht : t.ok = true) (hu : u.ok = true) (hs : t.size ≤ 64) (hus : u.size ≤ 64) (hk : ∀ x ∈ t.flat 0, okE x) (hmk : ∀ x ∈ u.flat 0, okE x) : Ev (fun k => sorrelref02_Order.f k (t.flat 0) (u.flat 0)) (T.cmp t u, 0) := by
  unfold sorrelref02_Order.f sorrelref02_OrderOf.f
  have hl := flat_len 0 t
  have hm := flat_len 0 u
  have h1 := size_pos t
  have h2 := size_pos u
  have e1 : wrap64 (((t.flat 0).length : Int) - 1) = ((0 + t.size - 1 : Nat) : Int) := by rw [w64 _ (by omega)]; omega
  have e2 : wrap64 (((u.flat 0).length : Int) - 1) = ((0 + u.size - 1 : Nat) : Int) := by rw [w64 _ (by omega)]; omega
  have go := refOrder_ev (t.flat 0) (u.flat 0) (by omega) (by omega) hk hmk t.size t u 0 0 [] [] [] [] (Nat.le_refl _) ht hu (by simp) rfl (by simp) rfl
  rw [← e1, ← e2] at go
  exact Ev.bind (refCheck_ev _ hk (by omega)) (Ev.congr (fun k => if_pos (checkE_flat t ht hs)) (Ev.bind (refCheck_ev _ hmk (by omega)) (Ev.congr (fun k => if_pos (checkE_flat u hu hus)) (Ev.bind (Ev.bind go (Ev.now _)) (Ev.now _)))))
open Classical in
theorem law_ev (a b c : List S45) (ha : a.length ≤ 2513169434843) (hb : b.length ≤ 2513169434843) (hc : c.length ≤ 2513169434843) (hka : ∀ x ∈ a, okE x) (hkb : ∀ x ∈ b, okE x) (hkc : ∀ x ∈ c, okE x) : Ev (fun k => sorrellaw02_ExprOrders.f k a b c) true := by
  unfold sorrellaw02_ExprOrders.f
  have cpa := copy_ev a ha hka
  have cpb := copy_ev b hb hkb
  have cpc := copy_ev c hc hkc
  have skip : ∀ x, Ev (fun k => sorrellaw02_ExprOrders.j1 k a b c x true) true := fun x => Ev.last fun k => by rw [sorrellaw02_ExprOrders.j1, if_pos rfl]
  refine Ev.bind awake_ev (Ev.congr (fun k => if_pos rfl) (Ev.bind cpa (Ev.bind cpb ?_)))
  by_cases hab : checkE a = 0 ∧ checkE b = 0
  · obtain ⟨t, ht, hs, rfl⟩ := checkE_tree hab.1
    obtain ⟨u, hu, hus, rfl⟩ := checkE_tree hab.2
    have o1 := order_good t u ht hu hs hus hka hkb
    refine Ev.bind o1 (Ev.bind (refOrder_good t u ht hu hs hus hka hkb) (Ev.congr (fun k => if_pos rfl) ?_))
    have hst : Ev (fun k => sorrellaw02_ExprOrders.j0 (k + 1) (t.flat 0) (u.flat 0) c (T.cmp t u) ((0 : Int) != 0)) true := by
      simp only [sorrellaw02_ExprOrders.j0]
      refine Ev.congr (fun k => if_neg (by simp)) (Ev.bind (refCheck_ev _ hka ha) (Ev.congr (fun k => if_pos hab.1) (Ev.bind (refCheck_ev _ hkb hb) (Ev.congr (fun k => if_pos hab.2) (Ev.bind (refCheck_ev _ hkc hc) ?_)))))
      by_cases h3 : checkE c = 0
      · obtain ⟨v, hv, hvs, rfl⟩ := checkE_tree h3
        have e3 : (checkE (v.flat 0) != 0) = false := by rw [h3]; rfl
        rw [e3]
        have hst2 : Ev (fun k => sorrellaw02_ExprOrders.j1 (k + 1) (t.flat 0) (u.flat 0) (v.flat 0) (T.cmp t u) false) true := by
          simp only [sorrellaw02_ExprOrders.j1]
          refine Ev.congr (fun k => if_neg (by simp)) (Ev.bind cpb (Ev.bind cpa (Ev.bind (order_good u t hu ht hus hs hkb hka) (Ev.bind cpb (Ev.bind cpc (Ev.bind (order_good u v hu hv hus hvs hkb hkc) (Ev.bind cpa (Ev.bind cpc (Ev.bind (order_good t v ht hv hs hvs hka hkc) ?_)))))))))
          have s1 := cmp_one t u
          have s2 := cmp_swap t u
          have tr := cmp_tr t u v
          have e4 : T.cmp t u = wrap64 (-T.cmp u t) := by rw [s2, w64 _ (by omega)]; omega
          refine Ev.congr (fun k => if_pos e4) ?_
          refine Ev.bind (same_dec _ _ (by omega) (fun x hx => by have := (hka x hx).kids; omega)) ?_
          have hz : T.cmp t u = 0 ↔ t.flat 0 = u.flat 0 := by
            constructor
            · intro h
              rw [cmp_zero t u ht hu h]
            · intro h
              have o2 := order_good t t ht ht hs hs hka hka
              rw [h] at o1
              rw [h] at o2
              have := Ev.one o1 o2
              rw [Prod.mk.injEq] at this
              rw [this.1, cmp_self]
          have e5 : ((T.cmp t u == 0) == decide (t.flat 0 = u.flat 0)) = true := by
            by_cases h : T.cmp t u = 0
            · rw [decide_eq_true (hz.1 h), h]; rfl
            · rw [decide_eq_false (fun e => h (hz.2 e))]
              simpa using h
          refine Ev.congr (fun k => if_pos e5) ?_
          have hl := flat_len 0 t
          have hm := flat_len 0 u
          have fin : (if ((t.flat 0).length : Int) ≥ ((u.flat 0).length : Int) then (some true) else (some (T.cmp t u == (-1)))) = some true := by
            by_cases h : ((t.flat 0).length : Int) ≥ ((u.flat 0).length : Int)
            · rw [if_pos h]
            · rw [if_neg h, cmp_size t u (by omega)]; rfl
          refine Ev.pure fun k => ?_
          rw [fin]
          by_cases h6 : T.cmp t u ≤ 0
          · rw [if_pos h6]
            by_cases h7 : T.cmp u v ≤ 0
            · rw [if_pos h7]
              have := tr.1 h6 h7
              rw [if_neg (by omega)]
            · rw [if_neg h7]
          · rw [if_neg h6]
        exact Ev.step (fun _ => rfl) hst2
      · have e3 : (checkE c != 0) = true := by simpa using h3
        rw [e3]
        exact skip _
    exact Ev.step (fun _ => rfl) hst
  · have hbad : checkE a ≠ 0 ∨ checkE b ≠ 0 := by
      by_cases h : checkE a = 0
      · exact Or.inr fun h2 => hab ⟨h, h2⟩
      · exact Or.inl h
    refine Ev.bind (order_bad a b hka hkb hbad) (Ev.bind (refOrder_bad a b ha hb hka hkb hbad) (Ev.congr (fun k => if_pos rfl) ?_))
    have hst : Ev (fun k => sorrellaw02_ExprOrders.j0 (k + 1) a b c 0 ((1 : Int) != 1)) true := by
      simp only [sorrellaw02_ExprOrders.j0]
      refine Ev.congr (fun k => if_neg (by simp)) (Ev.bind (refCheck_ev _ hka ha) ?_)
      by_cases h : checkE a = 0
      · have h2 := hbad.resolve_left (fun h' => h' h)
        exact Ev.congr (fun k => if_pos h) (Ev.bind (refCheck_ev _ hkb hb) (Ev.congr (fun k => if_neg h2) (skip _)))
      · exact Ev.congr (fun k => if_neg h) (skip _)
    exact Ev.step (fun _ => rfl) hst
theorem pure (a : List S45) (h0 : okR 56 (fun x : S45 => okN (x.f0, x.f1, x.f2, x.f3)) a) (b : List S45) (h1 : okR 56 (fun x : S45 => okN (x.f0, x.f1, x.f2, x.f3)) b) (c : List S45) (h2 : okR 56 (fun x : S45 => okN (x.f0, x.f1, x.f2, x.f3)) c) : ∃ k, sorrellaw02_ExprOrders.f k a b c = some true :=
  (law_ev a b c (by have := h0.1; omega) (by have := h1.1; omega) (by have := h2.1; omega) h0.2 h1.2 h2.2).rounds
end Go.Proofs.YtacjjfoelhckcaaDoor.exprOrders
