/- Plain laws, part 7: the values of a text's nodes; Eval and Trap answer as the reference's. -/
import Derived.Test.YtacjjfoelhckcaaDoorC6EvalPlays
namespace Go.Proofs.YtacjjfoelhckcaaDoor.PEvalPlays
open Go.RowKit Go.Proofs.YtacjjfoelhckcaaDoorW.PrintWords Go.Proofs.YtacjjfoelhckcaaDoorW.PrintMore
set_option linter.unusedVariables false

section
variable (env : List S70)
/-- What a node comes to, and its trouble, over the values before it. -/
def nodeV (vals : List Int) (x : S45) : Int × Int := if x.f0 = 1 then (x.f1, 0) else if x.f0 = 2 then (getL env x.f2, 0) else applyZ x.f0 (x.f3.map fun k => rd vals k)
def valsFrom (vals : List Int) : List S45 → List Int
  | [] => vals
  | x :: r => if (nodeV env vals x).2 = 0 then valsFrom (vals ++ [(nodeV env vals x).1]) r else vals
theorem values_loop (l : List S45) (hl : l.length ≤ 64) (he : env.length ≤ 5864062014634) (hk : ∀ x ∈ l, okN (x.f0, x.f1, x.f2, x.f3)) (hb : ∀ (i : Nat) (hi : i < l.length), ∀ kid ∈ (l[i]).f3, 0 ≤ kid ∧ kid < i) :
    ∀ (n i : Nat) (vals : List Int), l.length - i ≤ n → i ≤ l.length → vals.length = i → Ev (fun k => eval_values.l0 k env vals l (l.length : Int) (i : Int)) (valsFrom env vals (l.drop i)) := by
  have fin : ∀ (i : Nat) (vals : List Int), l.length ≤ i → Ev (fun k => eval_values.l0 k env vals l (l.length : Int) (i : Int)) (valsFrom env vals (l.drop i)) := by
    intro i vals h
    rw [List.drop_eq_nil_of_le h, valsFrom]
    exact Ev.last fun k => by rw [eval_values.l0, if_neg (by omega)]
  intro n
  induction n with
  | zero => intro i vals h1 h2 h3; exact fin i vals (by omega)
  | succ n ih =>
    intro i vals h1 h2 h3
    by_cases hi : i < l.length
    · have ea : rd_T45 l (i : Int) = l[i] := getD_lt l i _ hi
      have hkid : (l[i]).f3.length ≤ 17592186043904 := by have := (hk _ (List.getElem_mem hi)).2.2.2.1; dsimp only at this; omega
      have hbx := hb i hi
      rw [List.drop_eq_getElem_cons hi, valsFrom]
      generalize l[i] = x at *
      have go : ∀ v : Int, Ev (fun k => eval_values.l0 k env (vals ++ [v]) l (l.length : Int) (wrap64 ((i : Int) + 1))) (valsFrom env (vals ++ [v]) (l.drop (i + 1))) := fun v => by
        rw [w64 _ (by omega)]
        exact ih (i + 1) (vals ++ [v]) (by omega) (by omega) (by simp; omega)
      have hv64 : vals.length < 17592186044416 := by omega
      have inner : ∀ (m j : Nat), x.f3.length - j ≤ m → j ≤ x.f3.length →
          Ev (fun k => eval_values.l1 k env vals ((x.f3.take j).map fun k => rd vals k) l (l.length : Int) (i : Int) x.f3 (x.f3.length : Int) (j : Int) x.f0 x.f1 x.f2 x.f3) (if (nodeV env vals x).2 = 0 then valsFrom env (vals ++ [(nodeV env vals x).1]) (l.drop (i + 1)) else vals) := by
        have fin2 : ∀ j : Nat, j ≤ x.f3.length → x.f3.length ≤ j → Ev (fun k => eval_values.l1 k env vals ((x.f3.take j).map fun k => rd vals k) l (l.length : Int) (i : Int) x.f3 (x.f3.length : Int) (j : Int) x.f0 x.f1 x.f2 x.f3) (if (nodeV env vals x).2 = 0 then valsFrom env (vals ++ [(nodeV env vals x).1]) (l.drop (i + 1)) else vals) := by
          intro j h1 h2
          rw [List.take_of_length_le h2]
          unfold nodeV
          by_cases e1 : x.f0 = 1
          · rw [if_pos e1, if_pos rfl]
            exact Ev.step (fun k => by rw [eval_values.l1, if_neg (by omega), if_pos e1, if_pos hv64]) (go x.f1)
          rw [if_neg e1]
          by_cases e2 : x.f0 = 2
          · rw [if_pos e2, if_pos rfl]
            refine Ev.step (f := fun k => (env_Get.f k env x.f2).bind fun t162 => (if vals.length < 17592186044416 then (eval_values.l0 k env (vals ++ [t162]) l (l.length : Int) (wrap64 ((i : Int) + 1))) else (none))) (fun k => by rw [eval_values.l1, if_neg (by omega), if_neg e1, if_pos e2]) (Ev.bind (get_ev env x.f2 he) ?_)
            exact Ev.congr (fun k => if_pos hv64) (go _)
          rw [if_neg e2]
          refine Ev.step (f := fun k => (arith_Apply.f k x.f0 (x.f3.map fun k => rd vals k)).bind fun bt166 => (if bt166.2 = 0 then (if vals.length < 17592186044416 then (eval_values.l0 k env (vals ++ [bt166.1]) l (l.length : Int) (wrap64 ((i : Int) + 1))) else (none)) else (some vals))) (fun k => by rw [eval_values.l1, if_neg (by omega), if_neg e1, if_neg e2]) (Ev.bind (apply_ev _ _) ?_)
          by_cases ec : (applyZ x.f0 (x.f3.map fun k => rd vals k)).2 = 0
          · rw [if_pos ec]
            refine Ev.congr (fun k => if_pos ec) ?_
            exact Ev.congr (fun k => if_pos hv64) (go _)
          · rw [if_neg ec]
            exact Ev.congr (fun k => if_neg ec) (Ev.now _)
        intro m
        induction m with
        | zero => intro j h1 h2; exact fin2 j h2 (by omega)
        | succ m ihm =>
          intro j h1 h2
          by_cases hj : j < x.f3.length
          · have ek : rd x.f3 (j : Int) = x.f3[j] := getD_lt x.f3 j 0 hj
            have hkj := hbx _ (List.getElem_mem hj)
            have := ihm (j + 1) (by omega) (by omega)
            rw [List.take_succ_eq_append_getElem hj, List.map_append] at this
            refine Ev.step (fun k => ?_) this
            rw [eval_values.l1, if_pos (by omega), if_pos (by omega), if_pos (by omega), ek, if_pos hkj.1, if_pos (by omega), if_pos (by simp; omega), w64 _ (by omega)]; rfl
          · exact fin2 j h2 (by omega)
      refine Ev.step (fun k => ?_) (inner _ 0 (Nat.le_refl _) (by omega))
      rw [eval_values.l0, if_pos (by omega), if_pos (by omega), if_pos (by omega), ea]; rfl
    · exact fin i vals (by omega)
def valsOf (l : List S45) : List Int := valsFrom env [] l
theorem values_ev (l : List S45) (hl : l.length ≤ 64) (he : env.length ≤ 5864062014634) (hk : ∀ x ∈ l, okN (x.f0, x.f1, x.f2, x.f3)) (hb : ∀ (i : Nat) (hi : i < l.length), ∀ kid ∈ (l[i]).f3, 0 ≤ kid ∧ kid < i) : Ev (fun k => eval_values.f k l env) (valsOf env l) := by
  have := values_loop env l hl he hk hb _ 0 [] (Nat.le_refl _) (by omega) rfl
  rw [List.drop_zero] at this
  exact this

/-! ### what the values are -/
theorem nodeV_app (vals more : List Int) (x : S45) (h : ∀ kid ∈ x.f3, 0 ≤ kid ∧ kid < (vals.length : Int)) : nodeV env (vals ++ more) x = nodeV env vals x := by
  have e : x.f3.map (fun k => rd (vals ++ more) k) = x.f3.map (fun k => rd vals k) := by
    refine List.map_congr_left fun kid hkid => ?_
    have hh := h kid hkid
    obtain ⟨q, rfl⟩ : ∃ q : Nat, kid = q := ⟨kid.toNat, by omega⟩
    show (vals ++ more).getD q 0 = vals.getD q 0
    rw [getD_lt _ q 0 (by simp; omega), getD_lt _ q 0 (by omega), List.getElem_append_left (by omega)]
  unfold nodeV
  rw [e]
theorem valsFrom_spec : ∀ (r : List S45) (vals : List Int), ∃ more, valsFrom env vals r = vals ++ more ∧ more.length ≤ r.length ∧
    ((∀ (j : Nat) (hj : j < r.length), ∀ kid ∈ (r[j]).f3, 0 ≤ kid ∧ kid < ((vals.length + j : Nat) : Int)) → (∀ (j : Nat) (hj : j < more.length) (hr : j < r.length), nodeV env (vals ++ more) r[j] = (more[j], 0)) ∧ (∀ hr : more.length < r.length, (nodeV env (vals ++ more) r[more.length]).2 ≠ 0)) := by
  intro r
  induction r with
  | nil => intro vals; exact ⟨[], by simp [valsFrom], by simp, fun _ => ⟨fun j hj => absurd hj (by simp), fun hr => absurd hr (by simp)⟩⟩
  | cons x r ih =>
    intro vals
    rw [valsFrom]
    by_cases hc : (nodeV env vals x).2 = 0
    · rw [if_pos hc]
      obtain ⟨more, h1, h2, h3⟩ := ih (vals ++ [(nodeV env vals x).1])
      refine ⟨(nodeV env vals x).1 :: more, by rw [h1, List.append_assoc]; rfl, by simp; exact h2, fun hb => ?_⟩
      have hx0 : ∀ kid ∈ x.f3, 0 ≤ kid ∧ kid < (vals.length : Int) := fun kid hkid => by have := hb 0 (by simp) kid hkid; omega
      obtain ⟨g1, g2⟩ := h3 (fun j hj kid hkid => by have := hb (j + 1) (by simp; omega) kid hkid; simp; omega)
      have ea : vals ++ (nodeV env vals x).1 :: more = vals ++ [(nodeV env vals x).1] ++ more := by simp
      rw [ea]
      refine ⟨fun j hj hr => ?_, fun hr => ?_⟩
      · cases j with
        | zero =>
          rw [List.append_assoc, List.getElem_cons_zero, nodeV_app env vals _ x hx0, List.getElem_cons_zero]
          exact Prod.ext rfl hc
        | succ j => exact g1 j (by simpa using hj) (by simpa using hr)
      · exact g2 (by simpa using hr)
    · rw [if_neg hc]
      refine ⟨[], by simp, by simp, fun hb => ⟨fun j hj => absurd hj (by simp), fun hr => ?_⟩⟩
      simpa using hc
theorem valsOf_spec (l : List S45) (hb : ∀ (i : Nat) (hi : i < l.length), ∀ kid ∈ (l[i]).f3, 0 ≤ kid ∧ kid < i) :
    (valsOf env l).length ≤ l.length ∧ (∀ (j : Nat) (hj : j < (valsOf env l).length) (hr : j < l.length), nodeV env (valsOf env l) l[j] = ((valsOf env l)[j], 0)) ∧ (∀ hr : (valsOf env l).length < l.length, (nodeV env (valsOf env l) l[(valsOf env l).length]).2 ≠ 0) := by
  obtain ⟨more, h1, h2, h3⟩ := valsFrom_spec env l []
  rw [List.nil_append] at h1
  have e : valsOf env l = more := h1
  rw [e]
  obtain ⟨g1, g2⟩ := h3 (fun j hj kid hkid => by have := hb j hj kid hkid; simp; omega)
  exact ⟨h2, g1, g2⟩

/-! ### the reference, node by node -/
def VT (l : List S45) (i v : Int) (b : Bool) : Prop := Ev (fun k => sorrelref08_Value.f k l i env) (v, b)
theorem vt_one (l : List S45) (i : Nat) (hi : i < l.length) (h1 : (l[i]).f0 = 1) : VT env l i (l[i]).f1 true := by
  have ea : rd_T45 l (i : Int) = l[i] := getD_lt l i _ hi
  exact Ev.last fun k => by rw [sorrelref08_Value.f, if_pos (by omega), if_pos (by omega), ea, if_pos h1]
theorem vt_two (l : List S45) (he : env.length ≤ 5864062014634) (i : Nat) (hi : i < l.length) (h1 : (l[i]).f0 ≠ 1) (h2 : (l[i]).f0 = 2) : VT env l i (getL env (l[i]).f2) true := by
  have ea : rd_T45 l (i : Int) = l[i] := getD_lt l i _ hi
  refine Ev.step (f := fun k => (sorrelref07_Get.f k env (l[i]).f2).bind fun t234 => (some (t234, true))) (fun k => ?_) (Ev.bind (refGet_ev env _ he) (Ev.now _))
  rw [sorrelref08_Value.f, if_pos (by omega), if_pos (by omega), ea, if_neg h1, if_pos h2]
/-- The kids from the j-th on, all well: the node is the operator's. -/
theorem vt_kids (l : List S45) (x : S45) (hx : x.f3.length ≤ 17592186043904) (W : Int → Int) (hW : ∀ kid ∈ x.f3, VT env l kid (W kid) true) (hin : ∀ kid ∈ x.f3, inI (W kid)) : ∀ (m j : Nat), x.f3.length - j ≤ m → j ≤ x.f3.length →
    Ev (fun k => sorrelref08_Value.l0 k l env ((x.f3.take j).map W) (j : Int) x.f0 x.f1 x.f2 x.f3) ((applyZ x.f0 (x.f3.map W)).1, (applyZ x.f0 (x.f3.map W)).2 == 0) := by
  have fin : ∀ j : Nat, x.f3.length ≤ j → Ev (fun k => sorrelref08_Value.l0 k l env ((x.f3.take j).map W) (j : Int) x.f0 x.f1 x.f2 x.f3) ((applyZ x.f0 (x.f3.map W)).1, (applyZ x.f0 (x.f3.map W)).2 == 0) := by
    intro j h
    rw [List.take_of_length_le h]
    refine Ev.step (f := fun k => (sorrelref06_Apply.f k x.f0 (x.f3.map W)).bind fun bt241 => (some (bt241.1, (bt241.2 == 0)))) (fun k => by rw [sorrelref08_Value.l0, if_neg (by omega)]) (Ev.bind (refApply_ev _ _ ?_) (Ev.now _))
    intro v hv
    obtain ⟨kid, hkid, rfl⟩ := List.mem_map.1 hv
    exact hin kid hkid
  intro m
  induction m with
  | zero => intro j h1 h2; exact fin j (by omega)
  | succ m ih =>
    intro j h1 h2
    by_cases hj : j < x.f3.length
    · have ek : rd x.f3 (j : Int) = x.f3[j] := getD_lt x.f3 j 0 hj
      have go := ih (j + 1) (by omega) (by omega)
      rw [List.take_succ_eq_append_getElem hj, List.map_append] at go
      refine Ev.step (f := fun k => (sorrelref08_Value.f k l x.f3[j] env).bind fun bt236 => (if bt236.2 = true then (if ((x.f3.take j).map W).length < 17592186044416 then (sorrelref08_Value.l0 k l env ((x.f3.take j).map W ++ [bt236.1]) (wrap64 ((j : Int) + 1)) x.f0 x.f1 x.f2 x.f3) else (none)) else (some (0, false)))) (fun k => by rw [sorrelref08_Value.l0, if_pos (by omega), if_pos (by omega), ek]) (Ev.bind (hW _ (List.getElem_mem hj)) ?_)
      refine Ev.congr (fun k => if_pos rfl) ?_
      refine Ev.congr (fun k => if_pos (by simp; omega)) ?_
      rw [w64 _ (by omega)]
      exact go
    · exact fin j (by omega)
theorem vt_node (l : List S45) (i : Nat) (hi : i < l.length) (h1 : (l[i]).f0 ≠ 1) (h2 : (l[i]).f0 ≠ 2) (v : Int) (b : Bool) (h : Ev (fun k => sorrelref08_Value.l0 k l env [] 0 (l[i]).f0 (l[i]).f1 (l[i]).f2 (l[i]).f3) (v, b)) : VT env l i v b := by
  have ea : rd_T45 l (i : Int) = l[i] := getD_lt l i _ hi
  exact Ev.step (fun k => by rw [sorrelref08_Value.f, if_pos (by omega), if_pos (by omega), ea, if_neg h1, if_neg h2]) h
/-- Each value that is told is the reference's. -/
theorem vt_vals (l : List S45) (hl : l.length ≤ 64) (he : env.length ≤ 5864062014634) (hk : ∀ x ∈ l, okN (x.f0, x.f1, x.f2, x.f3)) (hb : ∀ (i : Nat) (hi : i < l.length), ∀ kid ∈ (l[i]).f3, 0 ≤ kid ∧ kid < i) (hen : ∀ b ∈ env, inI b.f1) : ∀ (n i : Nat), i < n → ∀ (hi : i < l.length) (hv : i < (valsOf env l).length), VT env l i (valsOf env l)[i] true ∧ inI (valsOf env l)[i] := by
  intro n
  induction n with
  | zero => intro i h; exact absurd h (by omega)
  | succ n ih =>
    intro i h hi hv
    obtain ⟨s1, s2, s3⟩ := valsOf_spec env l hb
    have hs := s2 i hv hi
    have hx := hk _ (List.getElem_mem hi)
    have hkid : (l[i]).f3.length ≤ 17592186043904 := by have := hx.2.2.2.1; dsimp only at this; omega
    unfold nodeV at hs
    by_cases e1 : (l[i]).f0 = 1
    · rw [if_pos e1] at hs
      have e : (l[i]).f1 = (valsOf env l)[i] := congrArg Prod.fst hs
      rw [← e]
      exact ⟨vt_one env l i hi e1, okI.bounds hx.2.1⟩
    rw [if_neg e1] at hs
    by_cases e2 : (l[i]).f0 = 2
    · rw [if_pos e2] at hs
      have e : getL env (l[i]).f2 = (valsOf env l)[i] := congrArg Prod.fst hs
      rw [← e]
      exact ⟨vt_two env l he i hi e1 e2, get_in env _ hen⟩
    rw [if_neg e2] at hs
    have kids : ∀ kid ∈ (l[i]).f3, VT env l kid (rd (valsOf env l) kid) true ∧ inI (rd (valsOf env l) kid) := by
      intro kid hkid
      have hh := hb i hi kid hkid
      obtain ⟨q, rfl⟩ : ∃ q : Nat, kid = q := ⟨kid.toNat, by omega⟩
      have ev : rd (valsOf env l) (q : Int) = (valsOf env l)[q] := getD_lt _ q 0 (by omega)
      rw [ev]
      exact ih q (by omega) (by omega) (by omega)
    have := vt_kids env l l[i] hkid (rd (valsOf env l)) (fun kid h => (kids kid h).1) (fun kid h => (kids kid h).2) _ 0 (Nat.le_refl _) (by omega)
    have e : applyZ (l[i]).f0 ((l[i]).f3.map (rd (valsOf env l))) = ((valsOf env l)[i], 0) := hs
    rw [e] at this
    refine ⟨vt_node env l i hi e1 e2 _ _ this, ?_⟩
    have hin := apply_in (l[i]).f0 ((l[i]).f3.map (rd (valsOf env l))) (fun v hv => by
      obtain ⟨kid, hkid, rfl⟩ := List.mem_map.1 hv
      exact (kids kid hkid).2)
    rw [e] at hin
    exact hin
/-- The first that has trouble is a node at which the reference says so. -/
theorem vt_trouble (l : List S45) (hl : l.length ≤ 64) (he : env.length ≤ 5864062014634) (hk : ∀ x ∈ l, okN (x.f0, x.f1, x.f2, x.f3)) (hb : ∀ (i : Nat) (hi : i < l.length), ∀ kid ∈ (l[i]).f3, 0 ≤ kid ∧ kid < i) (hen : ∀ b ∈ env, inI b.f1) (hv : (valsOf env l).length < l.length) : ∃ v, VT env l (valsOf env l).length v false := by
  obtain ⟨s1, s2, s3⟩ := valsOf_spec env l hb
  have hs := s3 hv
  have hx := hk _ (List.getElem_mem hv)
  have hkid : (l[(valsOf env l).length]).f3.length ≤ 17592186043904 := by have := hx.2.2.2.1; dsimp only at this; omega
  unfold nodeV at hs
  by_cases e1 : (l[(valsOf env l).length]).f0 = 1
  · rw [if_pos e1] at hs; exact absurd rfl hs
  rw [if_neg e1] at hs
  by_cases e2 : (l[(valsOf env l).length]).f0 = 2
  · rw [if_pos e2] at hs; exact absurd rfl hs
  rw [if_neg e2] at hs
  have kids : ∀ kid ∈ (l[(valsOf env l).length]).f3, VT env l kid (rd (valsOf env l) kid) true ∧ inI (rd (valsOf env l) kid) := by
    intro kid hkid
    have hh := hb _ hv kid hkid
    obtain ⟨q, rfl⟩ : ∃ q : Nat, kid = q := ⟨kid.toNat, by omega⟩
    have ev : rd (valsOf env l) (q : Int) = (valsOf env l)[q] := getD_lt _ q 0 (by omega)
    rw [ev]
    exact vt_vals env l hl he hk hb hen (q + 1) q (by omega) (by omega) (by omega)
  have := vt_kids env l _ hkid (rd (valsOf env l)) (fun kid h => (kids kid h).1) (fun kid h => (kids kid h).2) _ 0 (Nat.le_refl _) (by omega)
  have e : ((applyZ (l[(valsOf env l).length]).f0 ((l[(valsOf env l).length]).f3.map (rd (valsOf env l)))).2 == 0) = false := by
    rw [beq_eq_false_iff_ne]; exact hs
  rw [e] at this
  exact ⟨_, vt_node env l _ hv e1 e2 _ _ this⟩
/-- The reference comes to an end at each node; where it is well, its kids are. -/
theorem vt_ends (l : List S45) (hl : l.length ≤ 64) (he : env.length ≤ 5864062014634) (hk : ∀ x ∈ l, okN (x.f0, x.f1, x.f2, x.f3)) (hb : ∀ (i : Nat) (hi : i < l.length), ∀ kid ∈ (l[i]).f3, 0 ≤ kid ∧ kid < i) (hen : ∀ b ∈ env, inI b.f1) (hf : ∀ x ∈ l, formN x = true) : ∀ (n i : Nat), i < n → ∀ (hi : i < l.length), ∃ v b, VT env l i v b ∧ (b = true → inI v ∧ ∀ kid ∈ (l[i]).f3, ∃ u, VT env l kid u true) := by
  intro n
  induction n with
  | zero => intro i h; exact absurd h (by omega)
  | succ n ih =>
    intro i h hi
    have hx := hk _ (List.getElem_mem hi)
    have hkid : (l[i]).f3.length ≤ 17592186043904 := by have := hx.2.2.2.1; dsimp only at this; omega
    have hform := hf _ (List.getElem_mem hi)
    have leaf : (l[i]).f0 = 1 ∨ (l[i]).f0 = 2 → (l[i]).f3 = [] := by
      intro hop
      have ha : arityZ (l[i]).f0 = 0 := by unfold arityZ; rw [if_pos hop]
      unfold formN formB at hform
      split at hform
      · cases hform
      · rename_i hh
        rw [ha] at hh
        exact List.eq_nil_of_length_eq_zero (by omega)
    by_cases e1 : (l[i]).f0 = 1
    · exact ⟨_, _, vt_one env l i hi e1, fun _ => ⟨okI.bounds hx.2.1, by rw [leaf (.inl e1)]; simp⟩⟩
    by_cases e2 : (l[i]).f0 = 2
    · exact ⟨_, _, vt_two env l he i hi e1 e2, fun _ => ⟨get_in env _ hen, by rw [leaf (.inr e2)]; simp⟩⟩
    by_cases hall : ∀ kid ∈ (l[i]).f3, ∃ u, VT env l kid u true
    · have W : ∀ kid, ∃ u, kid ∈ (l[i]).f3 → VT env l kid u true ∧ inI u := by
        intro kid
        by_cases hm : kid ∈ (l[i]).f3
        · obtain ⟨u, hu⟩ := hall kid hm
          have hh := hb i hi kid hm
          obtain ⟨q, rfl⟩ : ∃ q : Nat, kid = q := ⟨kid.toNat, by omega⟩
          obtain ⟨v, b, hv, hv2⟩ := ih q (by omega) (by omega)
          have e := Ev.one hu hv
          cases e
          exact ⟨u, fun _ => ⟨hu, (hv2 rfl).1⟩⟩
        · exact ⟨0, fun h => absurd h hm⟩
      have hc := Classical.axiomOfChoice W
      obtain ⟨w, hw⟩ := hc
      have := vt_kids env l l[i] hkid w (fun kid h => (hw kid h).1) (fun kid h => (hw kid h).2) _ 0 (Nat.le_refl _) (by omega)
      refine ⟨_, _, vt_node env l i hi e1 e2 _ _ this, fun _ => ⟨apply_in _ _ (fun v hv => ?_), hall⟩⟩
      obtain ⟨kid, hkid, rfl⟩ := List.mem_map.1 hv
      exact (hw kid hkid).2
    · -- one kid is not well: the first such
      have stop : ∀ (m j : Nat) (args : List Int), (l[i]).f3.length - j ≤ m → j ≤ (l[i]).f3.length → args.length = j → (∃ kid ∈ (l[i]).f3.drop j, ¬ ∃ u, VT env l kid u true) → Ev (fun k => sorrelref08_Value.l0 k l env args (j : Int) (l[i]).f0 (l[i]).f1 (l[i]).f2 (l[i]).f3) (0, false) := by
        intro m
        induction m with
        | zero =>
          rintro j args h1 h2 h3 ⟨kid, hm, _⟩
          rw [List.drop_eq_nil_of_le (by omega)] at hm
          cases hm
        | succ m ihm =>
          rintro j args h1 h2 h3 ⟨kid, hm, hn⟩
          by_cases hj : j < (l[i]).f3.length
          · have ek : rd (l[i]).f3 (j : Int) = (l[i]).f3[j] := getD_lt _ j 0 hj
            have hh := hb i hi _ (List.getElem_mem hj)
            have hq : ((((l[i]).f3[j]).toNat : Nat) : Int) = (l[i]).f3[j] := by omega
            obtain ⟨v, b, hv, hv2⟩ := ih ((l[i]).f3[j]).toNat (by omega) (by omega)
            rw [hq] at hv
            refine Ev.step (f := fun k => (sorrelref08_Value.f k l (l[i]).f3[j] env).bind fun bt236 => (if bt236.2 = true then (if args.length < 17592186044416 then (sorrelref08_Value.l0 k l env (args ++ [bt236.1]) (wrap64 ((j : Int) + 1)) (l[i]).f0 (l[i]).f1 (l[i]).f2 (l[i]).f3) else (none)) else (some (0, false)))) (fun k => by rw [sorrelref08_Value.l0, if_pos (by omega), if_pos (by omega), ek]) (Ev.bind hv ?_)
            cases b with
            | false => exact Ev.congr (fun k => if_neg (by simp)) (Ev.now _)
            | true =>
              refine Ev.congr (fun k => if_pos rfl) ?_
              refine Ev.congr (fun k => if_pos (by omega)) ?_
              rw [w64 _ (by omega)]
              refine ihm (j + 1) _ (by omega) (by omega) (by simp; omega) ⟨kid, ?_, hn⟩
              rw [List.drop_eq_getElem_cons hj] at hm
              rcases List.mem_cons.1 hm with rfl | hm
              · exact absurd ⟨v, hv⟩ hn
              · exact hm
          · rw [List.drop_eq_nil_of_le (by omega)] at hm
            cases hm
      have hex : ∃ kid ∈ (l[i]).f3, ¬ ∃ u, VT env l kid u true := Classical.byContradiction fun hno => hall fun kid hm => Classical.byContradiction fun hn => hno ⟨kid, hm, hn⟩
      have := stop _ 0 [] (Nat.le_refl _) (by omega) rfl (by rw [List.drop_zero]; exact hex)
      exact ⟨_, _, vt_node env l i hi e1 e2 _ _ this, fun h => by cases h⟩
end
end Go.Proofs.YtacjjfoelhckcaaDoor.PEvalPlays
