/- Plain laws, part 6: Apply; names looked up; what walking covers; kids lie before their node. -/
import Derived.Test.YtacjjfoelhckcaaDoorC5EvalPlays
namespace Go.Proofs.YtacjjfoelhckcaaDoor.PEvalPlays
open Go.RowKit Go.Proofs.YtacjjfoelhckcaaDoorW.PrintWords Go.Proofs.YtacjjfoelhckcaaDoorW.PrintMore
set_option linter.unusedVariables false

def applyZ (op : Int) (xs : List Int) : Int × Int :=
  if arityZ op ≤ 0 ∨ arityZ op ≠ xs.length then (0, 2) else if op = 3 then (wrap64 (-(rd xs 0)), 0) else if op = 4 then (wrap64 (-1 - rd xs 0), 0)
  else if op = 17 then (if rd xs 0 ≠ 0 then (rd xs 1, 0) else (rd xs 2, 0)) else if (op = 8 ∨ op = 9) ∧ rd xs 1 = 0 then (0, 12) else (twoZ op (rd xs 0) (rd xs 1), 0)
theorem group_ev (op : Int) : Ev (fun k => arith_group.f k op) (if op = 8 ∨ op = 9 then 1 else if 13 ≤ op ∧ op ≤ 16 then 2 else 0) := by
  refine Ev.last fun k => ?_
  simp only [arith_group.f, arith_group.j0]
  repeat' split
  all_goals simp_all
  all_goals omega
theorem arity_two {op : Int} (h : 0 < arityZ op) (h3 : op ≠ 3) (h4 : op ≠ 4) (h17 : op ≠ 17) : arityZ op = 2 := by
  unfold arityZ at *
  repeat' split at h
  all_goals simp_all
theorem apply_ev (op : Int) (xs : List Int) : Ev (fun k => arith_Apply.f k op xs) (applyZ op xs) := by
  have hb := arityZ_bounds op
  unfold arith_Apply.f applyZ
  refine Ev.bind (arity_ev op) ?_
  by_cases h : arityZ op ≤ 0 ∨ arityZ op ≠ xs.length
  · rw [if_pos h]
    refine Ev.congr (f := fun k => arith_Apply.j0 k op xs true) (fun k => ?_) (Ev.last fun k => by rw [arith_Apply.j0, if_pos rfl])
    unfold arE
    by_cases h0 : arityZ op < 0
    · simp [h0]
    · by_cases h1 : arityZ op = 0
      · simp [h1]
      · have h2 : (arityZ op != (xs.length : Int)) = true := by rw [bne_iff_ne]; omega
        simp [h0, h1, h2]
  · rw [if_neg h]
    have h2 : (arityZ op != (xs.length : Int)) = false := by rw [bne_eq_false_iff_eq]; omega
    refine Ev.congr (f := fun k => arith_Apply.j0 k op xs false) (fun k => ?_) ?_
    · unfold arE
      have h0 : ¬ arityZ op < 0 := by omega
      have h1 : ¬ arityZ op = 0 := by omega
      simp [h0, h1, h2]
    by_cases e3 : op = 3
    · have hl : arityZ op = 1 := by rw [e3]; decide
      rw [if_pos e3]
      exact Ev.last fun k => by rw [arith_Apply.j0, if_neg (by simp), if_pos e3, if_pos (by omega)]
    rw [if_neg e3]
    by_cases e4 : op = 4
    · have hl : arityZ op = 1 := by rw [e4]; decide
      rw [if_pos e4]
      exact Ev.last fun k => by rw [arith_Apply.j0, if_neg (by simp), if_neg e3, if_pos e4, if_pos (by omega), xorAll]
    rw [if_neg e4]
    by_cases e17 : op = 17
    · have hl : arityZ op = 3 := by rw [e17]; decide
      rw [if_pos e17]
      refine Ev.step (f := fun k => arith_Apply.j1 k op xs ((rd xs 0) != 0)) (fun k => ?_) ?_
      · rw [arith_Apply.j0, if_neg (by simp), if_neg e3, if_neg e4, if_pos e17, if_pos (by omega)]
      · refine Ev.last fun k => ?_
        by_cases c : rd xs 0 = 0
        · rw [arith_Apply.j1, if_neg (by simp [c]), if_pos e17, if_pos (by omega), if_neg (by simp [c])]
        · rw [arith_Apply.j1, if_pos (by simp [c]), if_pos (by omega), if_pos c]
    rw [if_neg e17]
    have hl := arity_two (by omega) e3 e4 e17
    refine Ev.step (f := fun k => arith_Apply.j1 k op xs false) (fun k => ?_) ?_
    · rw [arith_Apply.j0, if_neg (by simp), if_neg e3, if_neg e4, if_neg e17]
    refine Ev.step (f := fun k => (arith_group.f k op).bind fun t144 => (if t144 = 1 then (if 1 < (xs.length : Int) then (if (rd xs 1) = 0 then (some (0, 12)) else (if 0 < (xs.length : Int) then ((arith_two.f op (rd xs 0) (rd xs 1)).bind fun t148 => (some (t148, 0))) else (none))) else (none)) else (if 0 < (xs.length : Int) then (if 1 < (xs.length : Int) then ((arith_two.f op (rd xs 0) (rd xs 1)).bind fun t151 => (some (t151, 0))) else (none)) else (none)))) (fun k => ?_) (Ev.bind (group_ev op) ?_)
    · rw [arith_Apply.j1, if_neg (by simp), if_neg e17]
    refine Ev.pure fun k => ?_
    by_cases h89 : op = 8 ∨ op = 9
    · rw [if_pos h89, if_pos rfl, if_pos (by omega)]
      by_cases c : rd xs 1 = 0
      · rw [if_pos c, if_pos ⟨h89, c⟩]
      · rw [if_neg c, if_pos (by omega), two_eq op _ _ (fun _ => c), if_neg (fun hh => c hh.2)]; rfl
    · have : ¬ (if op = 8 ∨ op = 9 then (1 : Int) else if 13 ≤ op ∧ op ≤ 16 then 2 else 0) = 1 := by
        rw [if_neg h89]; split <;> omega
      rw [if_neg this, if_pos (by omega), if_pos (by omega), two_eq op _ _ (fun hh => absurd hh h89), if_neg (fun hh => h89 hh.1)]; rfl
theorem rd_in {xs : List Int} (h : ∀ v ∈ xs, inI v) (i : Nat) : inI (rd xs (i : Int)) := by
  show inI (xs.getD i 0)
  by_cases hi : i < xs.length
  · rw [getD_lt xs i 0 hi]; exact h _ (List.getElem_mem hi)
  · rw [List.getD_eq_getElem?_getD, List.getElem?_eq_none (by omega)]; unfold inI; simp
theorem apply_in (op : Int) (xs : List Int) (h : ∀ v ∈ xs, inI v) : inI (applyZ op xs).1 := by
  have z : inI 0 := by unfold inI; omega
  unfold applyZ
  by_cases c : (op = 8 ∨ op = 9) ∧ rd xs 1 = 0
  · repeat' split
    all_goals first | exact z | exact w64_in _ | exact rd_in h 1 | exact rd_in h 2 | exact absurd c ‹_›
  · repeat' split
    all_goals first | exact z | exact w64_in _ | exact rd_in h 1 | exact rd_in h 2 | exact two_in op _ _ (rd_in h 0) (rd_in h 1) (fun hh hz => c ⟨hh, hz⟩)
theorem refApply_ev (op : Int) (xs : List Int) (h : ∀ v ∈ xs, inI v) : Ev (fun k => sorrelref06_Apply.f k op xs) (applyZ op xs) := by
  have hb := arityZ_bounds op
  unfold sorrelref06_Apply.f applyZ
  refine Ev.bind (refArity_ev op) ?_
  by_cases hc : arityZ op ≤ 0 ∨ arityZ op ≠ xs.length
  · rw [if_pos hc]
    refine Ev.congr (f := fun k => sorrelref06_Apply.j0 k op xs true) (fun k => ?_) (Ev.last fun k => by rw [sorrelref06_Apply.j0, if_pos rfl])
    by_cases h0 : arityZ op ≤ 0
    · rw [if_pos h0]
    · have h2 : (arityZ op != (xs.length : Int)) = true := by rw [bne_iff_ne]; omega
      rw [if_neg h0, h2]
  · rw [if_neg hc]
    have h2 : (arityZ op != (xs.length : Int)) = false := by rw [bne_eq_false_iff_eq]; omega
    refine Ev.congr (f := fun k => sorrelref06_Apply.j0 k op xs false) (fun k => by rw [if_neg (by omega), h2]) ?_
    by_cases e3 : op = 3
    · have hl : arityZ op = 1 := by rw [e3]; decide
      rw [if_pos e3]
      exact Ev.last fun k => by rw [sorrelref06_Apply.j0, if_neg (by simp), if_pos e3, if_pos (by omega)]
    rw [if_neg e3]
    by_cases e4 : op = 4
    · have hl : arityZ op = 1 := by rw [e4]; decide
      rw [if_pos e4]
      exact Ev.last fun k => by rw [sorrelref06_Apply.j0, if_neg (by simp), if_neg e3, if_pos e4, if_pos (by omega)]
    rw [if_neg e4]
    by_cases e17 : op = 17
    · have hl : arityZ op = 3 := by rw [e17]; decide
      rw [if_pos e17]
      refine Ev.step (f := fun k => sorrelref06_Apply.j1 k op xs ((rd xs 0) != 0)) (fun k => ?_) ?_
      · rw [sorrelref06_Apply.j0, if_neg (by simp), if_neg e3, if_neg e4, if_pos e17, if_pos (by omega)]
      · refine Ev.last fun k => ?_
        by_cases c : rd xs 0 = 0
        · rw [sorrelref06_Apply.j1, if_neg (by simp [c]), if_pos e17, if_pos (by omega), if_neg (by simp [c])]
        · rw [sorrelref06_Apply.j1, if_pos (by simp [c]), if_pos (by omega), if_pos c]
    rw [if_neg e17]
    have hl := arity_two (by omega) e3 e4 e17
    refine Ev.step (f := fun k => sorrelref06_Apply.j1 k op xs false) (fun k => ?_) ?_
    · rw [sorrelref06_Apply.j0, if_neg (by simp), if_neg e3, if_neg e4, if_neg e17]
    have two := refTwo_ev op (rd xs 0) (rd xs 1) (rd_in h 0) (rd_in h 1)
    have fin : ((op = 8 ∨ op = 9) → rd xs 1 ≠ 0) → Ev (fun k => (sorrelref06_two.f k op (rd xs 0) (rd xs 1)).bind fun t => some (t, (0 : Int))) (twoZ op (rd xs 0) (rd xs 1), 0) := fun hh => Ev.bind (two hh) (Ev.now _)
    by_cases c : (op = 8 ∨ op = 9) ∧ rd xs 1 = 0
    · rw [if_pos c]
      refine Ev.last fun k => ?_
      rw [sorrelref06_Apply.j1, if_neg (by simp), if_neg e17]
      rcases c.1 with e | e
      · rw [if_pos e, if_pos (by omega), if_pos c.2]
      · rw [if_neg (by omega), if_pos e, if_pos (by omega), if_pos c.2]
    · rw [if_neg c]
      refine Ev.step (fun k => ?_) (fin (fun hh hz => c ⟨hh, hz⟩))
      rw [sorrelref06_Apply.j1, if_neg (by simp), if_neg e17]
      by_cases e8 : op = 8
      · rw [if_pos e8, if_pos (by omega), if_neg (fun hz => c ⟨.inl e8, hz⟩), if_pos (by omega)]
      rw [if_neg e8]
      by_cases e9 : op = 9
      · rw [if_pos e9, if_pos (by omega), if_neg (fun hz => c ⟨.inr e9, hz⟩), if_pos (by omega)]
      rw [if_neg e9, if_pos (by omega), if_pos (by omega)]

/-! ### names -/
def getF (s : ByteArray) (a : Int) (b : S70) : Int := if b.f0.toList = s.toList then b.f1 else a
def getL (env : List S70) (s : ByteArray) : Int := env.foldl (getF s) 0
theorem get_ev (env : List S70) (s : ByteArray) (hb : env.length ≤ 5864062014634) : Ev (fun k => env_Get.f k env s) (getL env s) := by
  have loop : ∀ m : Nat, m ≤ env.length → ∃ j, Ev (fun k => env_last.l0 k env s ((m : Int) - 1)) j ∧ ((j = -1 ∧ (env.take m).foldl (getF s) 0 = 0) ∨ ∃ i : Nat, ∃ h : i < env.length, j = i ∧ (env.take m).foldl (getF s) 0 = (env[i]).f1) := by
    intro m
    induction m with
    | zero =>
      intro _
      exact ⟨-1, Ev.last fun k => by rw [env_last.l0, if_neg (by omega)], .inl ⟨rfl, rfl⟩⟩
    | succ m ih =>
      intro hm
      obtain ⟨j, hj, hh⟩ := ih (by omega)
      have em : ((m + 1 : Nat) : Int) - 1 = (m : Int) := by omega
      have ea : rd_T70 env (m : Int) = env[m] := getD_lt env m _ (by omega)
      have et : (env.take (m + 1)).foldl (getF s) 0 = getF s ((env.take m).foldl (getF s) 0) env[m] := by rw [List.take_succ_eq_append_getElem (by omega), List.foldl_append]; rfl
      rw [em, et]
      by_cases hc : (env[m]).f0.toList = s.toList
      · refine ⟨m, Ev.last fun k => ?_, .inr ⟨m, by omega, rfl, if_pos hc⟩⟩
        rw [env_last.l0, if_pos (by omega), if_pos (by omega), if_pos (by omega), ea, if_pos hc]
      · have eg : ∀ z, getF s z env[m] = z := fun z => if_neg hc
        rw [eg]
        refine ⟨j, Ev.step (f := fun k => env_last.l0 k env s ((m : Int) - 1)) (fun k => ?_) hj, hh⟩
        rw [env_last.l0, if_pos (by omega), if_pos (by omega), if_pos (by omega), ea, if_neg hc, w64 _ (by omega)]
  obtain ⟨j, hj, hh⟩ := loop env.length (Nat.le_refl _)
  rw [List.take_length] at hh
  unfold env_Get.f env_last.f getL
  rw [w64 ((env.length : Int) - 1) (by omega)]
  refine Ev.bind hj ?_
  rcases hh with ⟨rfl, h⟩ | ⟨i, hi, rfl, h⟩
  · rw [h]
    exact Ev.pure fun k => by rw [if_neg (by omega)]
  · have ea : rd_T70 env (i : Int) = env[i] := getD_lt env i _ hi
    rw [h]
    exact Ev.pure fun k => by rw [if_pos (by omega), if_pos (by omega), if_pos (by omega), ea]
theorem refGet_ev (env : List S70) (s : ByteArray) (hb : env.length ≤ 5864062014634) : Ev (fun k => sorrelref07_Get.f k env s) (getL env s) := by
  have loop : ∀ (n i : Nat) (a : Int), env.length - i ≤ n → i ≤ env.length → Ev (fun k => sorrelref07_Get.l0 k env s a (i : Int)) ((env.drop i).foldl (getF s) a) := by
    have fin : ∀ (i : Nat) (a : Int), env.length ≤ i → Ev (fun k => sorrelref07_Get.l0 k env s a (i : Int)) ((env.drop i).foldl (getF s) a) := by
      intro i a h
      rw [List.drop_eq_nil_of_le h]
      exact Ev.last fun k => by rw [sorrelref07_Get.l0, if_neg (by omega)]; rfl
    intro n
    induction n with
    | zero => intro i a h1 h2; exact fin i a (by omega)
    | succ n ih =>
      intro i a h1 h2
      by_cases hi : i < env.length
      · have ea : rd_T70 env (i : Int) = env[i] := getD_lt env i _ hi
        rw [List.drop_eq_getElem_cons hi, List.foldl_cons]
        refine Ev.step (f := fun k => sorrelref07_Get.l0 k env s (getF s a env[i]) ((i + 1 : Nat) : Int)) (fun k => ?_) (ih (i + 1) _ (by omega) (by omega))
        rw [sorrelref07_Get.l0, if_pos (by omega), if_pos (by omega), ea, w64 _ (by omega)]
        unfold getF
        split <;> rfl
      · exact fin i a (by omega)
  have := loop _ 0 0 (Nat.le_refl _) (by omega)
  rw [List.drop_zero] at this
  exact this
theorem get_in (env : List S70) (s : ByteArray) (h : ∀ b ∈ env, inI b.f1) : inI (getL env s) := by
  have key : ∀ (l : List S70) (a : Int), inI a → (∀ b ∈ l, inI b.f1) → inI (l.foldl (getF s) a) := by
    intro l
    induction l with
    | nil => intro a ha _; exact ha
    | cons b l ih =>
      intro a ha hl
      refine ih _ ?_ (fun c hc => hl c (List.mem_cons_of_mem _ hc))
      unfold getF
      split
      · exact hl b List.mem_cons_self
      · exact ha
  exact key env 0 (by unfold inI; omega) h

/-! ### what a sound text's walk covers -/
theorem walk_cover (l : List S45) (hl : l.length ≤ 64) (hk : ∀ x ∈ l, okN (x.f0, x.f1, x.f2, x.f3)) (Pr : Int → Prop) (hP : ∀ (i : Nat) (h : i < l.length), Pr i → ∀ kid ∈ (l[i]).f3, Pr kid) :
    ∀ (n : Nat) (r : Int), r < n → r < l.length → Pr r → ∃ v, Wk l r v ∧ (v = -2 ∨ (-1 ≤ v ∧ v < r ∧ ∀ i, v < i → i ≤ r → Pr i)) := by
  intro n
  induction n with
  | zero => intro r h _ _; exact ⟨-2, wk_neg l r (by omega), .inl rfl⟩
  | succ n ih =>
    intro r h hrl hr
    by_cases h0 : r < 0
    · exact ⟨-2, wk_neg l r h0, .inl rfl⟩
    obtain ⟨r, rfl⟩ : ∃ q : Nat, r = q := ⟨r.toNat, by omega⟩
    have hlt : r < l.length := by omega
    have hkid : (l[r]).f3.length ≤ 17592186043904 := by have := (hk _ (List.getElem_mem hlt)).2.2.2.1; dsimp only at this; omega
    have hPk := hP r hlt hr
    have inner : ∀ (m : Nat) (at' : Int), m ≤ (l[r]).f3.length → -1 ≤ at' → at' ≤ r - 1 → (∀ i, at' < i → i ≤ r - 1 → Pr i) →
        ∃ v, Ev (fun k => sorrelref02_walk.l0 k l at' (l[r]).f3 ((m : Int) - 1)) v ∧ (v = -2 ∨ (-1 ≤ v ∧ v ≤ at' ∧ ∀ i, v < i → i ≤ r - 1 → Pr i)) := by
      intro m
      induction m with
      | zero => intro at' _ h1 h2 h3; exact ⟨at', kid_end l _ at' _ (by omega), .inr ⟨h1, Int.le_refl _, h3⟩⟩
      | succ m ihm =>
        intro at' hm h1 h2 h3
        have em : ((m + 1 : Nat) : Int) - 1 = (m : Int) := by omega
        rw [em]
        by_cases he : (l[r]).f3[m] = at'
        · have hpa : Pr at' := he ▸ hPk _ (List.getElem_mem _)
          obtain ⟨u, hu, hu2⟩ := ih at' (by omega) (by omega) hpa
          subst he
          rcases hu2 with rfl | ⟨g1, g2, g3⟩
          · exact ⟨-2, kid_bad l _ hkid m (by omega) hu, .inl rfl⟩
          · have hne : u ≠ -2 := by omega
            obtain ⟨v, hv, hv2⟩ := ihm u (by omega) g1 (by omega) (fun i hi1 hi2 => by
              by_cases hc : i ≤ (l[r]).f3[m]
              · exact g3 i hi1 hc
              · exact h3 i (by omega) hi2)
            refine ⟨v, kid_on l _ hkid m (by omega) hu hne hv, ?_⟩
            rcases hv2 with rfl | ⟨k1, k2, k3⟩
            · exact .inl rfl
            · exact .inr ⟨k1, by omega, k3⟩
        · exact ⟨-2, kid_ne l _ hkid m (by omega) at' he, .inl rfl⟩
    obtain ⟨v, hv, hv2⟩ := inner _ ((r : Int) - 1) (Nat.le_refl _) (by omega) (Int.le_refl _) (fun i h1 h2 => by omega)
    refine ⟨v, wk_node l hl r hlt hkid hv, ?_⟩
    rcases hv2 with rfl | ⟨g1, g2, g3⟩
    · exact .inl rfl
    · refine .inr ⟨g1, by omega, fun i h1 h2 => ?_⟩
      by_cases hc : i = r
      · subst hc; exact hr
      · exact g3 i h1 (by omega)
theorem checkE_cases (l : List S45) : checkE l = 0 ∨ checkE l = 1 := by
  have key : ∀ (r : List S45) (st : List Int) (i : Nat), checkFrom st i r = 0 ∨ checkFrom st i r = 1 := by
    intro r
    induction r with
    | nil => intro st i; rw [checkFrom]; split <;> simp
    | cons x r ih => intro st i; rw [checkFrom]; split; exact ih _ _; exact .inr rfl
  unfold checkE
  split
  · exact .inr rfl
  · exact key _ _ _
theorem checkE_from {l : List S45} (h : checkE l = 0) : 1 ≤ l.length ∧ l.length ≤ 64 ∧ checkFrom [] 0 l = 0 := by
  unfold checkE at h
  split at h
  · cases h
  · exact ⟨by omega, by omega, h⟩
/-- In a sound text all nodes are sound, the last one's tree is the whole, and each kid lies before its node. -/
theorem checkE_form {l : List S45} (h : checkE l = 0) : ∀ x ∈ l, formN x = true := by
  intro x hx
  by_cases hf : formN x = true
  · exact hf
  · have := check_bad l [] 0 ⟨x, hx, hf⟩
    rw [(checkE_from h).2.2] at this
    cases this
theorem checkE_walk {l : List S45} (h : checkE l = 0) (hk : ∀ x ∈ l, okN (x.f0, x.f1, x.f2, x.f3)) : Wk l ((l.length : Int) - 1) (-1) := by
  obtain ⟨h1, h2, h3⟩ := checkE_from h
  obtain ⟨v, hv, hv2⟩ := walk_ends l h2 hk l.length ((l.length : Int) - 1) (by omega) (by omega)
  have hh := check_walk l h1 h2 hk (checkE_form h) v hv (fun e i a b => by
    rcases hv2 with rfl | ⟨_, _, g⟩
    · omega
    · exact g i (by omega) b) l.length 0 [] (by omega) (by omega) (by show ((0 : Nat) : Int) - 1 = -1; omega)
  rw [List.drop_zero, h3] at hh
  by_cases hv1 : v = -1
  · rw [← hv1]; exact hv
  · rw [if_neg hv1] at hh; cases hh
theorem checkE_kids {l : List S45} (h : checkE l = 0) : ∀ (i : Nat) (hi : i < l.length), ∀ kid ∈ (l[i]).f3, 0 ≤ kid ∧ kid < i := by
  have key : ∀ (r : List S45) (st : List Int) (i : Nat), (∀ t ∈ st, 0 ≤ t ∧ t < (i : Int)) → checkFrom st i r = 0 → ∀ (j : Nat) (hj : j < r.length), ∀ kid ∈ (r[j]).f3, 0 ≤ kid ∧ kid < ((i + j : Nat) : Int) := by
    intro r
    induction r with
    | nil => intro st i _ _ j hj; exact absurd hj (by simp)
    | cons x r ih =>
      intro st i hst hc j hj kid hkid
      rw [checkFrom] at hc
      split at hc
      · rename_i hfit
        cases j with
        | zero =>
          simp only [fitsN, Bool.and_eq_true, decide_eq_true_eq] at hfit
          have hm : kid ∈ st := by
            have : kid ∈ x.f3 := hkid
            rw [← hfit.2] at this
            exact List.mem_of_mem_drop this
          exact hst kid hm
        | succ j =>
          have := ih _ (i + 1) (fun t ht => by
            rcases List.mem_append.1 ht with ht | ht
            · have := hst t (List.mem_of_mem_take ht); omega
            · obtain rfl := List.mem_singleton.1 ht; omega) hc j (by simpa using hj) kid (by simpa using hkid)
          omega
      · cases hc
  intro i hi kid hkid
  have := key l [] 0 (by simp) (checkE_from h).2.2 i hi kid hkid
  rwa [Nat.zero_add] at this
end Go.Proofs.YtacjjfoelhckcaaDoor.PEvalPlays
