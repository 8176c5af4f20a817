/- Plain laws, part 2: the check of a text of nodes by walking; it answers as the check by the open ones. -/
import Derived.Test.YtacjjfoelhckcaaDoorC1EvalPlays
namespace Go.Proofs.YtacjjfoelhckcaaDoor.PEvalPlays
open Go.RowKit Go.Proofs.YtacjjfoelhckcaaDoorW.PrintWords
set_option linter.unusedVariables false

/-- Walking from r comes to v. -/
def Wk (l : List S45) (r v : Int) : Prop := Ev (fun k => sorrelref02_walk.f k l r) v
def Good (l : List S45) (i : Int) : Prop := ∃ u, Wk l i u ∧ u ≠ -2
theorem wk_neg (l : List S45) (r : Int) (h : r < 0) : Wk l r (-2) := by
  refine Ev.last fun k => ?_
  rw [sorrelref02_walk.f, if_pos h]
/-- One kid of those that are left. -/
theorem kid_ne (l : List S45) (kids : List Int) (hk : kids.length ≤ 17592186043904) (m : Nat) (hm : m < kids.length) (at' : Int) (hne : kids[m] ≠ at') : Ev (fun k => sorrelref02_walk.l0 k l at' kids (m : Int)) (-2) := by
  have ea : rd kids (m : Int) = kids[m] := getD_lt kids m 0 hm
  refine Ev.last fun k => ?_
  rw [sorrelref02_walk.l0, if_pos (by omega), if_pos (by omega), if_pos (by omega), ea, if_neg hne]
theorem kid_bad (l : List S45) (kids : List Int) (hk : kids.length ≤ 17592186043904) (m : Nat) (hm : m < kids.length) (hw : Wk l kids[m] (-2)) : Ev (fun k => sorrelref02_walk.l0 k l kids[m] kids (m : Int)) (-2) := by
  have ea : rd kids (m : Int) = kids[m] := getD_lt kids m 0 hm
  refine Ev.step (f := fun k => (sorrelref02_walk.f k l kids[m]).bind fun t172 => (if t172 = (-2) then (some (-2)) else (sorrelref02_walk.l0 k l t172 kids (wrap64 ((m : Int) - 1))))) (fun k => ?_) (Ev.bind hw ?_)
  · rw [sorrelref02_walk.l0, if_pos (by omega), if_pos (by omega), if_pos (by omega), ea, if_pos rfl]
  · exact Ev.congr (fun k => if_pos rfl) (Ev.now _)
theorem kid_on (l : List S45) (kids : List Int) (hk : kids.length ≤ 17592186043904) (m : Nat) (hm : m < kids.length) {u v : Int} (hw : Wk l kids[m] u) (hu : u ≠ -2) (hv : Ev (fun k => sorrelref02_walk.l0 k l u kids ((m : Int) - 1)) v) :
    Ev (fun k => sorrelref02_walk.l0 k l kids[m] kids (m : Int)) v := by
  have ea : rd kids (m : Int) = kids[m] := getD_lt kids m 0 hm
  refine Ev.step (f := fun k => (sorrelref02_walk.f k l kids[m]).bind fun t172 => (if t172 = (-2) then (some (-2)) else (sorrelref02_walk.l0 k l t172 kids (wrap64 ((m : Int) - 1))))) (fun k => ?_) (Ev.bind hw ?_)
  · rw [sorrelref02_walk.l0, if_pos (by omega), if_pos (by omega), if_pos (by omega), ea, if_pos rfl]
  · refine Ev.congr (fun k => if_neg hu) ?_
    rw [w64 _ (by omega)]
    exact hv
theorem kid_end (l : List S45) (kids : List Int) (at' j : Int) (h : j < 0) : Ev (fun k => sorrelref02_walk.l0 k l at' kids j) at' := by
  refine Ev.last fun k => ?_
  rw [sorrelref02_walk.l0, if_neg (by omega)]
/-- A node: its kids, from the last. -/
theorem wk_node (l : List S45) (hl : l.length ≤ 64) (r : Nat) (hr : r < l.length) (hk : (l[r]).f3.length ≤ 17592186043904) {v : Int} (h : Ev (fun k => sorrelref02_walk.l0 k l ((r : Int) - 1) (l[r]).f3 (((l[r]).f3.length : Int) - 1)) v) : Wk l r v := by
  have ea : rd_T45 l (r : Int) = l[r] := getD_lt l r _ hr
  refine Ev.step (f := fun k => sorrelref02_walk.l0 k l ((r : Int) - 1) (l[r]).f3 (((l[r]).f3.length : Int) - 1)) (fun k => ?_) h
  rw [sorrelref02_walk.f, if_neg (by omega), if_pos (by omega), if_pos (by omega), ea, w64 ((r : Int) - 1) (by omega), w64 (((l[r]).f3.length : Int) - 1) (by omega)]

/-- A walk ends; what it has passed are nodes from which walking goes well. -/
theorem walk_ends (l : List S45) (hl : l.length ≤ 64) (hk : ∀ x ∈ l, okN (x.f0, x.f1, x.f2, x.f3)) : ∀ (n : Nat) (r : Int), r < n → r < l.length → ∃ v, Wk l r v ∧ (v = -2 ∨ (-1 ≤ v ∧ v < r ∧ ∀ i, v < i → i ≤ r → Good l i)) := by
  intro n
  induction n with
  | zero => intro r h _; exact ⟨-2, wk_neg l r (by omega), .inl rfl⟩
  | succ n ih =>
    intro r h hrl
    by_cases h0 : r < 0
    · exact ⟨-2, wk_neg l r h0, .inl rfl⟩
    obtain ⟨r, rfl⟩ : ∃ q : Nat, r = q := ⟨r.toNat, by omega⟩
    have hlt : r < l.length := by omega
    have hkid : (l[r]).f3.length ≤ 17592186043904 := by have := (hk _ (List.getElem_mem hlt)).2.2.2.1; dsimp only at this; omega
    have inner : ∀ (m : Nat) (at' : Int), m ≤ (l[r]).f3.length → -1 ≤ at' → at' ≤ r - 1 → (∀ i, at' < i → i ≤ r - 1 → Good l i) →
        ∃ v, Ev (fun k => sorrelref02_walk.l0 k l at' (l[r]).f3 ((m : Int) - 1)) v ∧ (v = -2 ∨ (-1 ≤ v ∧ v ≤ at' ∧ ∀ i, v < i → i ≤ r - 1 → Good l i)) := by
      intro m
      induction m with
      | zero => intro at' _ h1 h2 h3; exact ⟨at', kid_end l _ at' _ (by omega), .inr ⟨h1, Int.le_refl _, h3⟩⟩
      | succ m ihm =>
        intro at' hm h1 h2 h3
        have em : ((m + 1 : Nat) : Int) - 1 = (m : Int) := by omega
        rw [em]
        by_cases he : (l[r]).f3[m] = at'
        · obtain ⟨u, hu, hu2⟩ := ih at' (by omega) (by omega)
          subst he
          rcases hu2 with rfl | ⟨g1, g2, g3⟩
          · exact ⟨-2, kid_bad l _ hkid m (by omega) hu, .inl rfl⟩
          · have hne : u ≠ -2 := by omega
            obtain ⟨v, hv, hv2⟩ := ihm u (by omega) g1 (by omega) (fun i hi1 hi2 => by
              by_cases hc : i ≤ (l[r]).f3[m]
              · exact g3 i hi1 hc
              · exact h3 i (by omega) hi2)
            refine ⟨v, kid_on l _ hkid m (by omega) hu hne hv, ?_⟩
            rcases hv2 with rfl | ⟨k1, k2, k3⟩
            · exact .inl rfl
            · exact .inr ⟨k1, by omega, k3⟩
        · exact ⟨-2, kid_ne l _ hkid m (by omega) at' he, .inl rfl⟩
    obtain ⟨v, hv, hv2⟩ := inner _ ((r : Int) - 1) (Nat.le_refl _) (by omega) (Int.le_refl _) (fun i h1 h2 => by omega)
    have hw := wk_node l hl r hlt hkid hv
    refine ⟨v, hw, ?_⟩
    rcases hv2 with rfl | ⟨g1, g2, g3⟩
    · exact .inl rfl
    · refine .inr ⟨g1, by omega, fun i h1 h2 => ?_⟩
      by_cases hc : i = r
      · subst hc; exact ⟨v, hw, by omega⟩
      · exact g3 i h1 (by omega)

/-- The open ones, the last first: each is where walking from the one before it comes to. -/
def Ch (l : List S45) : List Int → Int → Prop
  | [], a => a = -1
  | t :: ts, a => t = a ∧ 0 ≤ t ∧ ∃ u, Wk l t u ∧ u ≠ -2 ∧ Ch l ts u
theorem ch_ne {l : List S45} {rs : List Int} {a : Int} (h : Ch l rs a) : a ≠ -2 := by
  cases rs with
  | nil => have : a = -1 := h; omega
  | cons t ts => have := h.1; have := h.2.1; omega
theorem kids_walk (l : List S45) (kids : List Int) (hk : kids.length ≤ 17592186043904) : ∀ (m : Nat) (rs : List Int) (a : Int), m ≤ kids.length → Ch l rs a →
    (rs.take m = (kids.take m).reverse ∧ ∃ u, Ev (fun k => sorrelref02_walk.l0 k l a kids ((m : Int) - 1)) u ∧ Ch l (rs.drop m) u) ∨
    (rs.take m ≠ (kids.take m).reverse ∧ Ev (fun k => sorrelref02_walk.l0 k l a kids ((m : Int) - 1)) (-2)) := by
  intro m
  induction m with
  | zero => intro rs a _ h; exact .inl ⟨rfl, a, kid_end l _ a _ (by omega), h⟩
  | succ m ih =>
    intro rs a hm h
    have em : ((m + 1 : Nat) : Int) - 1 = (m : Int) := by omega
    have et : (kids.take (m + 1)).reverse = kids[m] :: (kids.take m).reverse := by rw [List.take_succ_eq_append_getElem (by omega), List.reverse_append]; rfl
    rw [em, et]
    by_cases he : kids[m] = a
    · cases rs with
      | nil =>
        have ha : a = -1 := h
        refine .inr ⟨by simp, ?_⟩
        subst he
        exact kid_bad l kids hk m (by omega) (wk_neg l _ (by omega))
      | cons t ts =>
        obtain ⟨h1, h2, u, hu, hne, hc⟩ := h
        subst h1
        rcases ih ts u (by omega) hc with ⟨e, v, hv, hcv⟩ | ⟨e, hv⟩
        · refine .inl ⟨by simp [e, he], v, ?_, hcv⟩
          rw [← he] at hu ⊢
          exact kid_on l kids hk m (by omega) hu hne hv
        · refine .inr ⟨by simp [e], ?_⟩
          rw [← he] at hu ⊢
          exact kid_on l kids hk m (by omega) hu hne hv
    · refine .inr ⟨?_, kid_ne l kids hk m (by omega) a he⟩
      cases rs with
      | nil => simp
      | cons t ts =>
        have : t = a := h.1
        simp
        intro h'
        omega
/-- The check by the open ones, where all nodes are sound: by walking from the last. -/
theorem check_walk (l : List S45) (h1l : 1 ≤ l.length) (hl : l.length ≤ 64) (hk : ∀ x ∈ l, okN (x.f0, x.f1, x.f2, x.f3)) (hf : ∀ x ∈ l, formN x = true) (v : Int) (hv : Wk l ((l.length : Int) - 1) v)
    (hg : v = -1 → ∀ i : Int, -1 < i → i ≤ (l.length : Int) - 1 → Good l i) : ∀ (n i : Nat) (st : List Int), l.length - i ≤ n → i ≤ l.length → Ch l st.reverse ((i : Int) - 1) → checkFrom st i (l.drop i) = if v = -1 then 0 else 1 := by
  have done : ∀ (st : List Int), Ch l st.reverse ((l.length : Int) - 1) → (if st.length = 1 then (0 : Int) else 1) = if v = -1 then 0 else 1 := by
    intro st hc
    have e : st.length = st.reverse.length := by simp
    rw [e]
    clear e
    generalize st.reverse = rs at hc
    cases rs with
    | nil => have : (l.length : Int) - 1 = -1 := hc; omega
    | cons t ts =>
      obtain ⟨e1, e2, u, hu, hne, hc⟩ := hc
      subst e1
      have := Ev.one hu hv
      subst this
      cases ts with
      | nil => have : u = -1 := hc; simp [this]
      | cons t2 ts => have e3 := hc.1; have e4 := hc.2.1; rw [if_neg (by simp), if_neg (by omega)]
  intro n
  induction n with
  | zero =>
    intro i st h1 h2 hc
    have e : i = l.length := by omega
    subst e
    rw [List.drop_eq_nil_of_le (by omega), checkFrom]
    exact done st hc
  | succ n ih =>
    intro i st h1 h2 hc
    by_cases hi : i < l.length
    · rw [List.drop_eq_getElem_cons hi, checkFrom]
      have hkid : (l[i]).f3.length ≤ 17592186043904 := by have := (hk _ (List.getElem_mem hi)).2.2.2.1; dsimp only at this; omega
      have hform := hf _ (List.getElem_mem hi)
      have key := kids_walk l (l[i]).f3 hkid (l[i]).f3.length st.reverse ((i : Int) - 1) (Nat.le_refl _) hc
      rw [List.take_length] at key
      have hfit : fitsN st l[i] = true ↔ st.reverse.take (l[i]).f3.length = (l[i]).f3.reverse := by
        rw [fitsN, hform]
        simp only [Bool.true_and, Bool.and_eq_true, decide_eq_true_eq]
        rw [List.take_reverse]
        constructor
        · rintro ⟨_, e⟩; rw [e]
        · intro e
          have e' := List.reverse_inj.1 e
          refine ⟨?_, e'⟩
          have := congrArg List.length e'
          rw [List.length_drop] at this
          omega
      rcases key with ⟨e, u, hu, hcu⟩ | ⟨e, hu⟩
      · rw [if_pos (hfit.2 e)]
        refine ih (i + 1) _ (by omega) (by omega) ?_
        rw [List.reverse_append]
        refine ⟨by simp, by simp, u, wk_node l hl i hi hkid hu, ch_ne hcu, ?_⟩
        rw [List.drop_reverse] at hcu
        exact hcu
      · rw [if_neg (fun h => e (hfit.1 h))]
        have hw := wk_node l hl i hi hkid hu
        rw [if_neg]
        intro hv1
        obtain ⟨u, hu1, hu2⟩ := hg hv1 i (by omega) (by omega)
        exact hu2 (Ev.one hu1 hw)
    · have e : i = l.length := by omega
      subst e
      rw [List.drop_eq_nil_of_le (by omega), checkFrom]
      exact done st hc
theorem check_bad : ∀ (r : List S45) (st : List Int) (i : Nat), (∃ x ∈ r, ¬ formN x = true) → checkFrom st i r = 1 := by
  intro r
  induction r with
  | nil => rintro st i ⟨x, hx, _⟩; cases hx
  | cons x r ih =>
    rintro st i ⟨y, hy, hn⟩
    rw [checkFrom]
    split
    · rename_i hfit
      refine ih _ _ ⟨y, ?_, hn⟩
      rcases List.mem_cons.1 hy with rfl | hy
      · exact absurd (by simp [fitsN] at hfit; exact hfit.1.1) hn
      · exact hy
    · rfl
theorem refCheck_loop (l : List S45) (h1l : 1 ≤ l.length) (hl : l.length ≤ 64) (hk : ∀ x ∈ l, okN (x.f0, x.f1, x.f2, x.f3)) : ∀ (n i : Nat), l.length - i ≤ n → i ≤ l.length → (∀ x ∈ l.take i, formN x = true) →
    Ev (fun k => sorrelref02_Check.l0 k l (i : Int)) (checkFrom [] 0 l) := by
  have fin : ∀ i, i ≤ l.length → l.length ≤ i → (∀ x ∈ l.take i, formN x = true) → Ev (fun k => sorrelref02_Check.l0 k l (i : Int)) (checkFrom [] 0 l) := by
    intro i h2 h3 hf
    have e : i = l.length := by omega
    subst e
    rw [List.take_length] at hf
    obtain ⟨v, hv, hv2⟩ := walk_ends l hl hk l.length ((l.length : Int) - 1) (by omega) (by omega)
    have h := check_walk l h1l hl hk hf v hv (fun e i a b => by
      rcases hv2 with rfl | ⟨_, _, g⟩
      · omega
      · exact g i (by omega) b) l.length 0 [] (by omega) (by omega) (by show ((0 : Nat) : Int) - 1 = -1; omega)
    rw [List.drop_zero] at h
    rw [h]
    refine Ev.step (f := fun k => (sorrelref02_walk.f k l ((l.length : Int) - 1)).bind fun t175 => (if t175 = (-1) then (some 0) else (some 1))) (fun k => ?_) (Ev.bind hv ?_)
    · rw [sorrelref02_Check.l0, if_neg (by omega), w64 _ (by omega)]
    · refine Ev.pure fun k => ?_
      split <;> rfl
  intro n
  induction n with
  | zero => intro i h1 h2 hf; exact fin i h2 (by omega) hf
  | succ n ih =>
    intro i h1 h2 hf
    by_cases hi : i < l.length
    · have ea : rd_T45 l (i : Int) = l[i] := getD_lt l i _ hi
      have hx := hk _ (List.getElem_mem hi)
      have ef := form_eq (l[i]).f0 (l[i]).f1 (l[i]).f2 (l[i]).f3 hx.2.2.1
      by_cases hform : formN l[i] = true
      · refine Ev.step (f := fun k => sorrelref02_Check.l0 k l ((i + 1 : Nat) : Int)) (fun k => ?_) (ih (i + 1) (by omega) (by omega) ?_)
        · have hform' : formB (l[i]).f0 (l[i]).f1 (l[i]).f2 (l[i]).f3.length = true := hform
          rw [sorrelref02_Check.l0, if_pos (by omega), if_pos (by omega), ea, ef, Option.bind_some, if_pos hform', w64 _ (by omega)]; rfl
        · intro x hx
          rw [List.take_succ_eq_append_getElem hi, List.mem_append] at hx
          rcases hx with hx | hx
          · exact hf x hx
          · obtain rfl : x = l[i] := by simpa using hx
            exact hform
      · rw [check_bad l [] 0 ⟨_, List.getElem_mem hi, hform⟩]
        have hform' : ¬ formB (l[i]).f0 (l[i]).f1 (l[i]).f2 (l[i]).f3.length = true := hform
        refine Ev.last fun k => ?_
        rw [sorrelref02_Check.l0, if_pos (by omega), if_pos (by omega), ea, ef, Option.bind_some, if_neg hform']
    · exact fin i h2 (by omega) hf
theorem refCheck_ev (l : List S45) (hk : ∀ x ∈ l, okN (x.f0, x.f1, x.f2, x.f3)) (hb : l.length ≤ 2513169434843) : Ev (fun k => sorrelref02_Check.f k l) (checkE l) := by
  unfold sorrelref02_Check.f checkE
  by_cases h1 : l.length < 1
  · rw [if_pos (Or.inl h1)]
    refine Ev.congr (fun k => if_pos (by omega)) (Ev.last fun k => ?_)
    rw [sorrelref02_Check.j0, if_pos rfl]
  · refine Ev.congr (fun k => if_neg (by omega)) ?_
    by_cases h2 : 64 < l.length
    · rw [if_pos (Or.inr h2)]
      refine Ev.last fun k => ?_
      rw [sorrelref02_Check.j0, if_pos (by simp; omega)]
    · rw [if_neg (by omega)]
      refine Ev.step (f := fun k => sorrelref02_Check.l0 k l ((0 : Nat) : Int)) (fun k => ?_) ?_
      · rw [sorrelref02_Check.j0, if_neg (by simp; omega)]; rfl
      · exact refCheck_loop l (by omega) (by omega) hk _ 0 (Nat.le_refl _) (by omega) (by simp)
end Go.Proofs.YtacjjfoelhckcaaDoor.PEvalPlays
