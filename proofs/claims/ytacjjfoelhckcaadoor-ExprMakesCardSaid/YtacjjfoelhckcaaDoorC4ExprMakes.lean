/- Plain laws, part 4: Make answers as the reference's Make. -/
import Derived.Test.YtacjjfoelhckcaaDoorC3ExprMakes
namespace Go.Proofs.YtacjjfoelhckcaaDoor.PExprMakes
open Go.RowKit Go.Proofs.YtacjjfoelhckcaaDoorW.PrintWords
set_option linter.unusedVariables false

section
variable (op n : Int) (name : ByteArray)
def joinFrom (acc : List S45) (kids : List Int) : List (List S45) → List S45
  | [] => acc ++ [⟨op, n, name, kids⟩]
  | p :: ps => joinFrom (acc ++ p.map (shift acc.length)) (kids ++ [wrap64 (((acc ++ p.map (shift acc.length)).length : Int) - 1)]) ps
def sizes : List (List S45) → Nat
  | [] => 0
  | p :: ps => p.length + sizes ps
def allOk (ps : List (List S45)) : Bool := ps.all fun p => checkE p == 0
def makeR (acc : List S45) (tot : Nat) (kids : List Int) (ps : List (List S45)) : List S45 × Int :=
  if allOk ps = true then (if formB op n name (kids.length + ps.length) = true then (if 64 < tot + sizes ps then ([], 10) else (joinFrom op n name acc kids ps, 0)) else ([], 2)) else ([], 1)
theorem checkE_len {p : List S45} (h : checkE p = 0) : p.length ≤ 64 := by
  unfold checkE at h
  split at h <;> omega
theorem make_loop (ps : List (List S45)) (hb : ps.length ≤ 5864062014634) (hk : ∀ p ∈ ps, okT p) (hnm : name.size ≤ 140737488351232) : ∀ (m i tot : Nat) (acc : List S45) (kids : List Int), ps.length - i ≤ m → i ≤ ps.length → acc.length ≤ 64 → acc.length ≤ tot → tot ≤ 1 + 64 * i → kids.length = i →
    Ev (fun k => expr_Make.l0 k acc tot ps (ps.length : Int) (i : Int) op n name kids) (makeR op n name acc tot kids (ps.drop i)) := by
  have fin : ∀ (i tot : Nat) (acc : List S45) (kids : List Int), i ≤ ps.length → ps.length ≤ i → acc.length ≤ 64 → tot ≤ 1 + 64 * i → kids.length = i → Ev (fun k => expr_Make.l0 k acc tot ps (ps.length : Int) (i : Int) op n name kids) (makeR op n name acc tot kids (ps.drop i)) := by
    intro i tot acc kids h1 h2 h3 h4 h5
    rw [List.drop_eq_nil_of_le (by omega), makeR, if_pos (show allOk [] = true from rfl)]
    refine Ev.step (f := fun k => (expr_sound.f k op n name kids).bind fun t143 => (if t143 = true then (if (tot : Int) > 64 then (some (([] : List (S45)), 10)) else (if acc.length < 2513169434916 then (some ((acc ++ [(⟨op, n, name, kids⟩ : S45)]), 0)) else (none))) else (some (([] : List (S45)), 2)))) (fun k => ?_) (Ev.bind (sound_ev op n name kids) ?_)
    · rw [expr_Make.l0, if_neg (by omega)]
    · refine Ev.pure fun k => ?_
      rw [List.length_nil, Nat.add_zero, show sizes [] = 0 from rfl, Nat.add_zero, joinFrom]
      split
      · by_cases ht : 64 < tot
        · rw [if_pos (by omega), if_pos ht]
        · rw [if_neg (by omega), if_neg ht, if_pos (by omega)]
      · rfl
  intro m
  induction m with
  | zero => intro i tot acc kids h1 h2 h3 _ h4 h5; exact fin i tot acc kids h2 (by omega) h3 h4 h5
  | succ m ih =>
    intro i tot acc kids h1 h2 h3 h3' h4 h5
    by_cases hi : i < ps.length
    · have ea : rd_L4 ps (i : Int) = ps[i] := getD_lt ps i _ hi
      have hp := hk _ (List.getElem_mem hi)
      rw [List.drop_eq_getElem_cons hi]
      generalize hpp : ps[i] = p at *
      have hpl := hp.1
      refine Ev.step (f := fun k => (expr_Check.f k p).bind fun t133 => (if t133 = 0 then (if (wrap64 ((tot : Int) + (p.length : Int))) ≤ 64 then ((expr_join.f k acc p (acc.length : Int)).bind fun t134 => (if kids.length < 17592186044416 then (expr_Make.l0 k t134 (wrap64 ((tot : Int) + (p.length : Int))) ps (ps.length : Int) (wrap64 ((i : Int) + 1)) op n name (kids ++ [wrap64 ((t134.length : Int) - 1)])) else (none))) else (if kids.length < 17592186044416 then (expr_Make.l0 k acc (wrap64 ((tot : Int) + (p.length : Int))) ps (ps.length : Int) (wrap64 ((i : Int) + 1)) op n name (kids ++ [0])) else (none))) else (some (([] : List (S45)), 1)))) (fun k => ?_) (Ev.bind (check_ev p hp.2) ?_)
      · rw [expr_Make.l0, if_pos (by omega), if_pos (by omega), if_pos (by omega), ea]
      · by_cases hc : checkE p = 0
        · have hlen := checkE_len hc
          refine Ev.congr (fun k => if_pos hc) ?_
          have hall : allOk (p :: ps.drop (i + 1)) = allOk (ps.drop (i + 1)) := by simp [allOk, hc]
          clear hc
          have e1 : wrap64 ((tot : Int) + (p.length : Int)) = ((tot + p.length : Nat) : Int) := by rw [w64 _ (by omega)]; rfl
          have e2 : wrap64 ((i : Int) + 1) = ((i + 1 : Nat) : Int) := by rw [w64 _ (by omega)]; rfl
          rw [e1, e2]
          clear e1 e2
          have hk1 : ∀ z : Int, (kids ++ [z]).length = kids.length + 1 := by simp
          by_cases ht : tot + p.length ≤ 64
          · refine Ev.congr (fun k => if_pos (by omega)) ?_
            refine Ev.bind (join_ev acc p acc.length (by omega) hp.2) ?_
            refine Ev.congr (fun k => if_pos (by omega)) ?_
            have := ih (i + 1) (tot + p.length) (acc ++ p.map (shift acc.length)) (kids ++ [wrap64 (((acc ++ p.map (shift acc.length)).length : Int) - 1)]) (by omega) (by omega) (by simp; omega) (by simp; omega) (by omega) (by simp; omega)
            have e : makeR op n name acc tot kids (p :: ps.drop (i + 1)) = makeR op n name (acc ++ p.map (shift acc.length)) (tot + p.length) (kids ++ [wrap64 (((acc ++ p.map (shift acc.length)).length : Int) - 1)]) (ps.drop (i + 1)) := by
              unfold makeR
              rw [hall, joinFrom, sizes, List.length_cons, hk1, show kids.length + ((ps.drop (i + 1)).length + 1) = kids.length + 1 + (ps.drop (i + 1)).length by omega, ← Nat.add_assoc tot]
            rw [e]
            exact this
          · refine Ev.congr (fun k => if_neg (by omega)) ?_
            refine Ev.congr (fun k => if_pos (by omega)) ?_
            have := ih (i + 1) (tot + p.length) acc (kids ++ [0]) (by omega) (by omega) h3 (by omega) (by omega) (by simp; omega)
            have e : makeR op n name acc tot kids (p :: ps.drop (i + 1)) = makeR op n name acc (tot + p.length) (kids ++ [0]) (ps.drop (i + 1)) := by
              unfold makeR
              rw [hall, sizes, List.length_cons, hk1, if_pos (show 64 < tot + (p.length + sizes (ps.drop (i + 1))) by omega), if_pos (show 64 < tot + p.length + sizes (ps.drop (i + 1)) by omega), show kids.length + ((ps.drop (i + 1)).length + 1) = kids.length + 1 + (ps.drop (i + 1)).length by omega]
            rw [e]
            exact this
        · have e : makeR op n name acc tot kids (p :: ps.drop (i + 1)) = ([], 1) := by
            rw [makeR, if_neg (by simp [allOk, hc])]
          rw [e]
          exact Ev.congr (fun k => if_neg hc) (Ev.now _)
    · exact fin i tot acc kids h2 (by omega) h3 h4 h5
theorem make_ev (ps : List (List S45)) (hb : ps.length ≤ 5864062014634) (hk : ∀ p ∈ ps, okT p) (hnm : name.size ≤ 140737488351232) : Ev (fun k => expr_Make.f k op n name ps) (makeR op n name [] 1 [] ps) := by
  unfold expr_Make.f
  have := make_loop op n name ps hb hk hnm _ 0 1 [] [] (Nat.le_refl _) (by omega) (by simp) (by simp) (by omega) rfl
  rw [List.drop_zero] at this
  exact this
/-! ### the reference -/
theorem joined_ev (y : List Int) (ps : List (List S45)) (hb : ps.length ≤ 5864062014634) (hk : ∀ p ∈ ps, okT p) : ∀ (m i : Nat) (acc : List S45) (kids : List Int), ps.length - i ≤ m → i ≤ ps.length → acc.length + sizes (ps.drop i) ≤ 64 → kids.length = i →
    Ev (fun k => sorrelref02_Joined.l0 k ps acc kids (i : Int) op n name y) (joinFrom op n name acc kids (ps.drop i)) := by
  have fin : ∀ (i : Nat) (acc : List S45) (kids : List Int), i ≤ ps.length → ps.length ≤ i → acc.length + sizes (ps.drop i) ≤ 64 → Ev (fun k => sorrelref02_Joined.l0 k ps acc kids (i : Int) op n name y) (joinFrom op n name acc kids (ps.drop i)) := by
    intro i acc kids h1 h2 h3
    refine Ev.last fun k => ?_
    rw [sorrelref02_Joined.l0, if_neg (by omega), if_pos (by omega), List.drop_eq_nil_of_le (by omega), joinFrom]
  intro m
  induction m with
  | zero => intro i acc kids h1 h2 h3 h4; exact fin i acc kids h2 (by omega) h3
  | succ m ih =>
    intro i acc kids h1 h2 h3 h4
    by_cases hi : i < ps.length
    · have ea : rd_L4 ps (i : Int) = ps[i] := getD_lt ps i _ hi
      have hp := hk _ (List.getElem_mem hi)
      rw [List.drop_eq_getElem_cons hi] at h3 ⊢
      generalize hpp : ps[i] = p at *
      rw [sizes] at h3
      refine Ev.step (f := fun k => (sorrelref02_behind.f k acc p).bind fun t188 => (if kids.length < 17592186044416 then (sorrelref02_Joined.l0 k ps t188 (kids ++ [wrap64 ((t188.length : Int) - 1)]) (wrap64 ((i : Int) + 1)) op n name y) else (none))) (fun k => ?_) (Ev.bind (behind_ev acc p (by omega) hp.2) ?_)
      · rw [sorrelref02_Joined.l0, if_pos (by omega), if_pos (by omega), ea]
      · refine Ev.congr (fun k => if_pos (by omega)) ?_
        rw [w64 ((i : Int) + 1) (by omega), joinFrom]
        exact ih (i + 1) _ _ (by omega) (by omega) (by simp; omega) (by simp; omega)
    · exact fin i acc kids h2 (by omega) h3
theorem refMake_loop (ps : List (List S45)) (hb : ps.length ≤ 5864062014634) (hk : ∀ p ∈ ps, okT p) (hnm : name.size ≤ 140737488351232) : ∀ (m i tot : Nat), ps.length - i ≤ m → i ≤ ps.length → tot ≤ 1 + 64 * i → tot + sizes (ps.drop i) = 1 + sizes ps →
    Ev (fun k => sorrelref02_Make.l0 k op n name ps tot (i : Int)) (if allOk (ps.drop i) = true then (if formB op n name ps.length = true then (if 64 < tot + sizes (ps.drop i) then ([], 10) else (joinFrom op n name [] [] ps, 0)) else ([], 2)) else ([], 1)) := by
  have fin : ∀ (i tot : Nat), i ≤ ps.length → ps.length ≤ i → tot ≤ 1 + 64 * i → tot + sizes (ps.drop i) = 1 + sizes ps → Ev (fun k => sorrelref02_Make.l0 k op n name ps tot (i : Int)) (if allOk (ps.drop i) = true then (if formB op n name ps.length = true then (if 64 < tot + sizes (ps.drop i) then ([], 10) else (joinFrom op n name [] [] ps, 0)) else ([], 2)) else ([], 1)) := by
    intro i tot h1 h2 h3 h4
    rw [List.drop_eq_nil_of_le (by omega)] at h4 ⊢
    rw [if_pos (show allOk [] = true from rfl)]
    rw [show sizes [] = 0 from rfl, Nat.add_zero] at h4 ⊢
    have ef := form_eq op n name (List.replicate ps.length 0) hnm
    rw [List.length_replicate] at ef
    by_cases hf : formB op n name ps.length = true
    · rw [if_pos hf]
      by_cases ht : 64 < tot
      · rw [if_pos ht]
        refine Ev.last fun k => ?_
        rw [sorrelref02_Make.l0, if_neg (by omega), if_pos (by omega), if_pos (by omega)]
        simp only [Option.bind_some, Int.toNat_natCast, ef]
        rw [if_pos hf, if_pos (by omega)]
      · rw [if_neg ht]
        have hj := joined_ev op n name (List.replicate ps.length 0) ps hb hk _ 0 [] [] (Nat.le_refl _) (by omega) (by rw [List.drop_zero]; simp; omega) rfl
        rw [List.drop_zero] at hj
        refine Ev.step (f := fun k => (sorrelref02_Joined.f k op n name (List.replicate ps.length 0) ps).bind fun t205 => (some (t205, 0))) (fun k => ?_) (Ev.bind (a := joinFrom op n name [] [] ps) hj (Ev.now _))
        rw [sorrelref02_Make.l0, if_neg (by omega), if_pos (by omega), if_pos (by omega)]
        simp only [Option.bind_some, Int.toNat_natCast, ef]
        rw [if_pos hf, if_neg (by omega)]
    · rw [if_neg hf]
      refine Ev.last fun k => ?_
      rw [sorrelref02_Make.l0, if_neg (by omega), if_pos (by omega), if_pos (by omega)]
      simp only [Option.bind_some, Int.toNat_natCast, ef]
      rw [if_neg hf]
  intro m
  induction m with
  | zero => intro i tot h1 h2 h3 h4; exact fin i tot h2 (by omega) h3 h4
  | succ m ih =>
    intro i tot h1 h2 h3 h4
    by_cases hi : i < ps.length
    · have ea : rd_L4 ps (i : Int) = ps[i] := getD_lt ps i _ hi
      have hp := hk _ (List.getElem_mem hi)
      rw [List.drop_eq_getElem_cons hi] at h4 ⊢
      generalize hpp : ps[i] = p at *
      rw [sizes] at h4 ⊢
      refine Ev.step (f := fun k => (sorrelref02_Check.f k p).bind fun t198 => (if t198 = 0 then (sorrelref02_Make.l0 k op n name ps (wrap64 ((tot : Int) + (p.length : Int))) (wrap64 ((i : Int) + 1))) else (some (([] : List (S45)), 1)))) (fun k => ?_) (Ev.bind (refCheck_ev p hp.2 hp.1) ?_)
      · rw [sorrelref02_Make.l0, if_pos (by omega), if_pos (by omega), ea]
      · by_cases hc : checkE p = 0
        · have hlen := checkE_len hc
          refine Ev.congr (fun k => if_pos hc) ?_
          have hall : allOk (p :: ps.drop (i + 1)) = allOk (ps.drop (i + 1)) := by simp [allOk, hc]
          clear hc
          have e1 : wrap64 ((tot : Int) + (p.length : Int)) = ((tot + p.length : Nat) : Int) := by rw [w64 _ (by omega)]; rfl
          have e2 : wrap64 ((i : Int) + 1) = ((i + 1 : Nat) : Int) := by rw [w64 _ (by omega)]; rfl
          rw [e1, e2, hall, ← Nat.add_assoc]
          clear e1 e2
          exact ih (i + 1) (tot + p.length) (by omega) (by omega) (by omega) (by omega)
        · rw [if_neg (by simp [allOk, hc])]
          exact Ev.congr (fun k => if_neg hc) (Ev.now _)
    · exact fin i tot h2 (by omega) h3 h4
theorem refMake_ev (ps : List (List S45)) (hb : ps.length ≤ 5864062014634) (hk : ∀ p ∈ ps, okT p) (hnm : name.size ≤ 140737488351232) : Ev (fun k => sorrelref02_Make.f k op n name ps) (makeR op n name [] 1 [] ps) := by
  unfold sorrelref02_Make.f
  have := refMake_loop op n name ps hb hk hnm _ 0 1 (Nat.le_refl _) (by omega) (by omega) (by rw [List.drop_zero])
  rw [List.drop_zero] at this
  unfold makeR
  rw [List.length_nil, Nat.zero_add]
  exact this
theorem joinFrom_ok : ∀ (ps : List (List S45)) (acc : List S45) (kids : List Int), (∀ p ∈ ps, okT p) → (∀ x ∈ acc, x.f3.length ≤ 9223372036854775806) → kids.length + ps.length ≤ 9223372036854775806 →
    (joinFrom op n name acc kids ps).length = acc.length + sizes ps + 1 ∧ ∀ x ∈ joinFrom op n name acc kids ps, x.f3.length ≤ 9223372036854775806 := by
  intro ps
  induction ps with
  | nil =>
    intro acc kids _ h1 h2
    rw [joinFrom]
    refine ⟨by simp [sizes], fun x hx => ?_⟩
    rcases List.mem_append.1 hx with hx | hx
    · exact h1 x hx
    · obtain rfl := List.mem_singleton.1 hx
      simpa using h2
  | cons p ps ih =>
    intro acc kids hk h1 h2
    rw [joinFrom]
    obtain ⟨g1, g2⟩ := ih (acc ++ p.map (shift acc.length)) (kids ++ [wrap64 (((acc ++ p.map (shift acc.length)).length : Int) - 1)]) (fun q hq => hk q (List.mem_cons_of_mem _ hq)) (fun x hx => by
      rcases List.mem_append.1 hx with hx | hx
      · exact h1 x hx
      · obtain ⟨z, hz, rfl⟩ := List.mem_map.1 hx
        have := ((hk p List.mem_cons_self).2 z hz).kids
        simp [shift]
        omega) (by simp at h2 ⊢; omega)
    refine ⟨?_, g2⟩
    rw [g1, sizes]
    simp
    omega
theorem makeR_same (ps : List (List S45)) (hb : ps.length ≤ 5864062014634) (hk : ∀ p ∈ ps, okT p) : Ev (fun k => sorrelref02_Same.f k (makeR op n name [] 1 [] ps).1 (makeR op n name [] 1 [] ps).1) true := by
  obtain ⟨g1, g2⟩ := joinFrom_ok op n name ps [] [] hk (by simp) (by simp; omega)
  have nil : Ev (fun k => sorrelref02_Same.f k [] []) true := same_ev [] (by simp) (by simp)
  unfold makeR
  split
  · split
    · split
      · exact nil
      · refine same_ev _ ?_ g2
        dsimp only
        rw [g1]
        simp
        omega
    · exact nil
  · exact nil
end
end Go.Proofs.YtacjjfoelhckcaaDoor.PExprMakes
