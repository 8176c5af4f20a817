/- Plain laws, part 3: copies, same rows, texts joined, Make: the program's answers as the reference does. -/
import Derived.Test.YtacjjfoelhckcaaDoorC2ExprMakes
namespace Go.Proofs.YtacjjfoelhckcaaDoor.PExprMakes
open Go.RowKit Go.Proofs.YtacjjfoelhckcaaDoorW.PrintWords
set_option linter.unusedVariables false

abbrev okE (x : S45) : Prop := okN (x.f0, x.f1, x.f2, x.f3)
theorem okE.kids {x : S45} (h : okE x) : x.f3.length ≤ 17592186043904 := by
  have := h.2.2.2.1
  dsimp only at this
  omega
theorem sameInts_ev (a : List Int) (hb : a.length ≤ 9223372036854775806) : Ev (fun k => sorrelref02_SameInts.f k a a) true := by
  have loop : ∀ (n i : Nat), a.length - i ≤ n → i ≤ a.length → Ev (fun k => sorrelref02_SameInts.l0 k a a (i : Int)) true := by
    have fin : ∀ i : Nat, a.length ≤ i → Ev (fun k => sorrelref02_SameInts.l0 k a a (i : Int)) true := by
      intro i h
      refine Ev.last fun k => ?_
      rw [sorrelref02_SameInts.l0, if_neg (by omega)]
    intro n
    induction n with
    | zero => intro i h1 h2; exact fin i (by omega)
    | succ n ih =>
      intro i h1 h2
      by_cases hi : i < a.length
      · refine Ev.step (f := fun k => sorrelref02_SameInts.l0 k a a ((i + 1 : Nat) : Int)) (fun k => ?_) (ih (i + 1) (by omega) (by omega))
        rw [sorrelref02_SameInts.l0, if_pos (by omega), if_pos (by omega), if_pos (by omega), if_pos rfl, w64 _ (by omega)]; rfl
      · exact fin i (by omega)
  unfold sorrelref02_SameInts.f
  exact Ev.congr (fun k => if_pos rfl) (loop _ 0 (Nat.le_refl _) (by omega))
theorem sameNode_ev (x : S45) (hb : x.f3.length ≤ 9223372036854775806) : Ev (fun k => sorrelref02_SameNode.f k x.f0 x.f1 x.f2 x.f3 x.f0 x.f1 x.f2 x.f3) true := by
  unfold sorrelref02_SameNode.f
  refine Ev.congr (fun k => by rw [if_pos rfl, if_pos rfl, if_pos rfl]) ?_
  exact Ev.bind (sameInts_ev x.f3 hb) (Ev.now _)
theorem same_ev (l : List S45) (hb : l.length ≤ 9223372036854775806) (hk : ∀ x ∈ l, x.f3.length ≤ 9223372036854775806) : Ev (fun k => sorrelref02_Same.f k l l) true := by
  have loop : ∀ (n i : Nat), l.length - i ≤ n → i ≤ l.length → Ev (fun k => sorrelref02_Same.l0 k l l (i : Int)) true := by
    have fin : ∀ i : Nat, l.length ≤ i → Ev (fun k => sorrelref02_Same.l0 k l l (i : Int)) true := by
      intro i h
      refine Ev.last fun k => ?_
      rw [sorrelref02_Same.l0, if_neg (by omega)]
    intro n
    induction n with
    | zero => intro i h1 h2; exact fin i (by omega)
    | succ n ih =>
      intro i h1 h2
      by_cases hi : i < l.length
      · have ea : rd_T45 l (i : Int) = l[i] := getD_lt l i _ hi
        refine Ev.step (f := fun k => (sorrelref02_SameNode.f k (l[i]).f0 (l[i]).f1 (l[i]).f2 (l[i]).f3 (l[i]).f0 (l[i]).f1 (l[i]).f2 (l[i]).f3).bind fun t215 => (if t215 = true then (sorrelref02_Same.l0 k l l (wrap64 ((i : Int) + 1))) else (some false))) (fun k => ?_) (Ev.bind (sameNode_ev _ (hk _ (List.getElem_mem hi))) ?_)
        · rw [sorrelref02_Same.l0, if_pos (by omega), if_pos (by omega), if_pos (by omega), ea]
        · refine Ev.congr (fun k => if_pos rfl) ?_
          rw [w64 _ (by omega)]
          exact ih (i + 1) (by omega) (by omega)
      · exact fin i (by omega)
  unfold sorrelref02_Same.f
  exact Ev.congr (fun k => if_pos rfl) (loop _ 0 (Nat.le_refl _) (by omega))

/-! ### copies -/
theorem copy_ev (l : List S45) (hb : l.length ≤ 2513169434843) (hk : ∀ x ∈ l, okE x) : Ev (fun k => sorrelref02_Copy.f k l) l := by
  have loop : ∀ (n i : Nat), l.length - i ≤ n → i ≤ l.length → Ev (fun k => sorrelref02_Copy.l0 k l (l.take i) (i : Int)) l := by
    have fin : ∀ i : Nat, i ≤ l.length → l.length ≤ i → Ev (fun k => sorrelref02_Copy.l0 k l (l.take i) (i : Int)) l := by
      intro i h1 h2
      refine Ev.last fun k => ?_
      rw [sorrelref02_Copy.l0, if_neg (by omega), List.take_of_length_le (by omega)]
    intro n
    induction n with
    | zero => intro i h1 h2; exact fin i h2 (by omega)
    | succ n ih =>
      intro i h1 h2
      by_cases hi : i < l.length
      · have ea : rd_T45 l (i : Int) = l[i] := getD_lt l i _ hi
        have hx := (hk _ (List.getElem_mem hi)).kids
        refine Ev.step (f := fun k => sorrelref02_Copy.l0 k l (l.take (i + 1)) ((i + 1 : Nat) : Int)) (fun k => ?_) (ih (i + 1) (by omega) (by omega))
        rw [sorrelref02_Copy.l0, if_pos (by omega), if_pos (by omega), Option.bind_some, ea, if_pos (by simp; omega), if_pos (by rw [List.length_take]; omega), w64 _ (by omega), List.take_succ_eq_append_getElem hi]; rfl
      · exact fin i h2 (by omega)
  unfold sorrelref02_Copy.f
  have := loop _ 0 (Nat.le_refl _) (by omega)
  rw [List.take_zero] at this
  exact this
def okT (l : List S45) : Prop := l.length ≤ 2513169434843 ∧ ∀ x ∈ l, okE x
theorem copies_ev (l : List (List S45)) (hb : l.length ≤ 5864062014634) (hk : ∀ x ∈ l, okT x) : Ev (fun k => sorrelref02_Copies.f k l) l := by
  have loop : ∀ (n i : Nat), l.length - i ≤ n → i ≤ l.length → Ev (fun k => sorrelref02_Copies.l0 k l (l.take i) (i : Int)) l := by
    have fin : ∀ i : Nat, i ≤ l.length → l.length ≤ i → Ev (fun k => sorrelref02_Copies.l0 k l (l.take i) (i : Int)) l := by
      intro i h1 h2
      refine Ev.last fun k => ?_
      rw [sorrelref02_Copies.l0, if_neg (by omega), List.take_of_length_le (by omega)]
    intro n
    induction n with
    | zero => intro i h1 h2; exact fin i h2 (by omega)
    | succ n ih =>
      intro i h1 h2
      by_cases hi : i < l.length
      · have ea : rd_L4 l (i : Int) = l[i] := getD_lt l i _ hi
        have hx := hk _ (List.getElem_mem hi)
        refine Ev.step (f := fun k => (sorrelref02_Copy.f k l[i]).bind fun t164 => (if (l.take i).length < 5864062014805 then (sorrelref02_Copies.l0 k l ((l.take i) ++ [t164]) (wrap64 ((i : Int) + 1))) else (none))) (fun k => ?_) (Ev.bind (copy_ev _ hx.1 hx.2) ?_)
        · rw [sorrelref02_Copies.l0, if_pos (by omega), if_pos (by omega), ea]
        · refine Ev.congr (fun k => if_pos (by rw [List.length_take]; omega)) ?_
          rw [w64 _ (by omega), ← List.take_succ_eq_append_getElem hi]
          exact ih (i + 1) (by omega) (by omega)
      · exact fin i h2 (by omega)
  unfold sorrelref02_Copies.f
  have := loop _ 0 (Nat.le_refl _) (by omega)
  rw [List.take_zero] at this
  exact this

/-! ### texts behind one another -/
def shift (b : Nat) (x : S45) : S45 := ⟨x.f0, x.f1, x.f2, x.f3.map fun k => wrap64 (k + b)⟩
theorem set_step (kids : List Int) (g : Int → Int) (i : Nat) (hi : i < kids.length) : ((kids.take i).map g ++ List.replicate (kids.length - i) 0).set i (g kids[i]) = (kids.take (i + 1)).map g ++ List.replicate (kids.length - (i + 1)) 0 := by
  have e : kids.length - i = (kids.length - (i + 1)) + 1 := by omega
  rw [List.set_append_right _ _ (by simp; omega), e, List.replicate_succ]
  have e2 : i - ((kids.take i).map g).length = 0 := by simp; omega
  rw [e2, List.set_cons_zero, List.take_succ_eq_append_getElem hi, List.map_append, List.append_assoc]
  rfl
theorem join_ev (x0 l : List S45) (b : Nat) (h0 : x0.length + l.length ≤ 2513169434843) (hk : ∀ x ∈ l, okE x) : Ev (fun k => expr_join.f k x0 l b) (x0 ++ l.map (shift b)) := by
  have inner : ∀ (xs : List S45) (j : Nat) (x : S45) (hx : x.f3.length ≤ 17592186043904) (v : List S45) (hxs : xs.length < 2513169434916),
      Ev (fun k => expr_join.l0 k (xs ++ [shift b x]) b l (l.length : Int) (wrap64 ((j : Int) + 1))) v → ∀ (n i : Nat), x.f3.length - i ≤ n → i ≤ x.f3.length →
      Ev (fun k => expr_join.l1 k xs b ((x.f3.take i).map (fun k => wrap64 (k + b)) ++ List.replicate (x.f3.length - i) 0) l (l.length : Int) j x.f3 (x.f3.length : Int) (i : Int) x.f0 x.f1 x.f2 x.f3) v := by
    intro xs j x hx v hxs hv
    have fin : ∀ i : Nat, i ≤ x.f3.length → x.f3.length ≤ i → Ev (fun k => expr_join.l1 k xs b ((x.f3.take i).map (fun k => wrap64 (k + b)) ++ List.replicate (x.f3.length - i) 0) l (l.length : Int) j x.f3 (x.f3.length : Int) (i : Int) x.f0 x.f1 x.f2 x.f3) v := by
      intro i h1 h2
      refine Ev.step (fun k => ?_) hv
      rw [expr_join.l1, if_neg (by omega), if_pos hxs, List.take_of_length_le (by omega), show x.f3.length - i = 0 by omega]
      simp [shift]
    intro n
    induction n with
    | zero => intro i h1 h2; exact fin i h2 (by omega)
    | succ n ih =>
      intro i h1 h2
      by_cases hi : i < x.f3.length
      · have ea : rd x.f3 (i : Int) = x.f3[i] := getD_lt x.f3 i 0 hi
        refine Ev.step (fun k => ?_) (ih (i + 1) (by omega) (by omega))
        rw [expr_join.l1, if_pos (by omega), if_pos (by omega), if_pos (by omega), if_pos (by simp; omega), ea, w64 ((i : Int) + 1) (by omega), Int.toNat_natCast, set_step x.f3 (fun k => wrap64 (k + b)) i hi]; rfl
      · exact fin i h2 (by omega)
  have loop : ∀ (n i : Nat), l.length - i ≤ n → i ≤ l.length → Ev (fun k => expr_join.l0 k (x0 ++ (l.take i).map (shift b)) b l (l.length : Int) (i : Int)) (x0 ++ l.map (shift b)) := by
    have fin : ∀ i : Nat, i ≤ l.length → l.length ≤ i → Ev (fun k => expr_join.l0 k (x0 ++ (l.take i).map (shift b)) b l (l.length : Int) (i : Int)) (x0 ++ l.map (shift b)) := by
      intro i h1 h2
      refine Ev.last fun k => ?_
      rw [expr_join.l0, if_neg (by omega), List.take_of_length_le (by omega)]
    intro n
    induction n with
    | zero => intro i h1 h2; exact fin i h2 (by omega)
    | succ n ih =>
      intro i h1 h2
      by_cases hi : i < l.length
      · have ea : rd_T45 l (i : Int) = l[i] := getD_lt l i _ hi
        have hx := (hk _ (List.getElem_mem hi)).kids
        have go := ih (i + 1) (by omega) (by omega)
        rw [List.take_succ_eq_append_getElem hi, List.map_append, ← List.append_assoc] at go
        have := inner (x0 ++ (l.take i).map (shift b)) i l[i] hx (x0 ++ l.map (shift b)) (by simp; omega) (by rw [w64 _ (by omega)]; exact go) (l[i]).f3.length 0 (by omega) (by omega)
        refine Ev.step (fun k => ?_) this
        rw [expr_join.l0, if_pos (by omega), if_pos (by omega), if_pos (by omega), if_pos (by omega), ea, if_pos (by omega)]
        simp
      · exact fin i h2 (by omega)
  unfold expr_join.f
  have := loop _ 0 (Nat.le_refl _) (by omega)
  rw [List.take_zero, List.map_nil, List.append_nil] at this
  exact this
theorem behind_ev (x0 l : List S45) (h0 : x0.length + l.length ≤ 2513169434843) (hk : ∀ x ∈ l, okE x) : Ev (fun k => sorrelref02_behind.f k x0 l) (x0 ++ l.map (shift x0.length)) := by
  generalize hb : x0.length = b at *
  have inner : ∀ (xs : List S45) (j : Nat) (x : S45) (hx : x.f3.length ≤ 17592186043904) (v : List S45) (hxs : xs.length < 2513169434916),
      Ev (fun k => sorrelref02_behind.l0 k (xs ++ [shift b x]) l b (wrap64 ((j : Int) + 1))) v → ∀ (n i : Nat), x.f3.length - i ≤ n → i ≤ x.f3.length →
      Ev (fun k => sorrelref02_behind.l1 k xs l b j ((x.f3.take i).map (fun k => wrap64 (k + b)) ++ List.replicate (x.f3.length - i) 0) (i : Int) x.f0 x.f1 x.f2 x.f3) v := by
    intro xs j x hx v hxs hv
    have fin : ∀ i : Nat, i ≤ x.f3.length → x.f3.length ≤ i → Ev (fun k => sorrelref02_behind.l1 k xs l b j ((x.f3.take i).map (fun k => wrap64 (k + b)) ++ List.replicate (x.f3.length - i) 0) (i : Int) x.f0 x.f1 x.f2 x.f3) v := by
      intro i h1 h2
      refine Ev.step (fun k => ?_) hv
      rw [sorrelref02_behind.l1, if_neg (by omega), if_pos hxs, List.take_of_length_le (by omega), show x.f3.length - i = 0 by omega]
      simp [shift]
    intro n
    induction n with
    | zero => intro i h1 h2; exact fin i h2 (by omega)
    | succ n ih =>
      intro i h1 h2
      by_cases hi : i < x.f3.length
      · have ea : rd x.f3 (i : Int) = x.f3[i] := getD_lt x.f3 i 0 hi
        refine Ev.step (fun k => ?_) (ih (i + 1) (by omega) (by omega))
        rw [sorrelref02_behind.l1, if_pos (by omega), if_pos (by omega), if_pos (by simp; omega), ea, w64 ((i : Int) + 1) (by omega), Int.toNat_natCast, set_step x.f3 (fun k => wrap64 (k + b)) i hi]; rfl
      · exact fin i h2 (by omega)
  have loop : ∀ (n i : Nat), l.length - i ≤ n → i ≤ l.length → Ev (fun k => sorrelref02_behind.l0 k (x0 ++ (l.take i).map (shift b)) l b (i : Int)) (x0 ++ l.map (shift b)) := by
    have fin : ∀ i : Nat, i ≤ l.length → l.length ≤ i → Ev (fun k => sorrelref02_behind.l0 k (x0 ++ (l.take i).map (shift b)) l b (i : Int)) (x0 ++ l.map (shift b)) := by
      intro i h1 h2
      refine Ev.last fun k => ?_
      rw [sorrelref02_behind.l0, if_neg (by omega), List.take_of_length_le (by omega)]
    intro n
    induction n with
    | zero => intro i h1 h2; exact fin i h2 (by omega)
    | succ n ih =>
      intro i h1 h2
      by_cases hi : i < l.length
      · have ea : rd_T45 l (i : Int) = l[i] := getD_lt l i _ hi
        have hx := (hk _ (List.getElem_mem hi)).kids
        have go := ih (i + 1) (by omega) (by omega)
        rw [List.take_succ_eq_append_getElem hi, List.map_append, ← List.append_assoc] at go
        have := inner (x0 ++ (l.take i).map (shift b)) i l[i] hx (x0 ++ l.map (shift b)) (by simp; omega) (by rw [w64 _ (by omega)]; exact go) (l[i]).f3.length 0 (by omega) (by omega)
        refine Ev.step (fun k => ?_) this
        rw [sorrelref02_behind.l0, if_pos (by omega), if_pos (by omega), ea, if_pos (by omega), if_pos (by omega)]
        simp
      · exact fin i h2 (by omega)
  unfold sorrelref02_behind.f
  rw [hb]
  have := loop _ 0 (Nat.le_refl _) (by omega)
  rw [List.take_zero, List.map_nil, List.append_nil] at this
  exact this
end Go.Proofs.YtacjjfoelhckcaaDoor.PExprMakes
