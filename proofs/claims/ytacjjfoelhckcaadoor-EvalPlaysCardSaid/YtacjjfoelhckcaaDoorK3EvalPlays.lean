/- Plain laws, part 3: copies. -/
import Derived.Test.YtacjjfoelhckcaaDoorC2EvalPlays
namespace Go.Proofs.YtacjjfoelhckcaaDoor.PEvalPlays
open Go.RowKit Go.Proofs.YtacjjfoelhckcaaDoorW.PrintWords
set_option linter.unusedVariables false

abbrev okE (x : S45) : Prop := okN (x.f0, x.f1, x.f2, x.f3)
theorem okE.kids {x : S45} (h : okE x) : x.f3.length ≤ 17592186043904 := by
  have := h.2.2.2.1
  dsimp only at this
  omega
/-! ### copies -/
theorem copy_ev (l : List S45) (hb : l.length ≤ 2513169434843) (hk : ∀ x ∈ l, okE x) : Ev (fun k => sorrelref02_Copy.f k l) l := by
  have loop : ∀ (n i : Nat), l.length - i ≤ n → i ≤ l.length → Ev (fun k => sorrelref02_Copy.l0 k l (l.take i) (i : Int)) l := by
    have fin : ∀ i : Nat, i ≤ l.length → l.length ≤ i → Ev (fun k => sorrelref02_Copy.l0 k l (l.take i) (i : Int)) l := by
      intro i h1 h2
      refine Ev.last fun k => ?_
      rw [sorrelref02_Copy.l0, if_neg (by omega), List.take_of_length_le (by omega)]
    intro n
    induction n with
    | zero => intro i h1 h2; exact fin i h2 (by omega)
    | succ n ih =>
      intro i h1 h2
      by_cases hi : i < l.length
      · have ea : rd_T45 l (i : Int) = l[i] := getD_lt l i _ hi
        have hx := (hk _ (List.getElem_mem hi)).kids
        refine Ev.step (f := fun k => sorrelref02_Copy.l0 k l (l.take (i + 1)) ((i + 1 : Nat) : Int)) (fun k => ?_) (ih (i + 1) (by omega) (by omega))
        rw [sorrelref02_Copy.l0, if_pos (by omega), if_pos (by omega), Option.bind_some, ea, if_pos (by simp; omega), if_pos (by rw [List.length_take]; omega), w64 _ (by omega), List.take_succ_eq_append_getElem hi]; rfl
      · exact fin i h2 (by omega)
  unfold sorrelref02_Copy.f
  have := loop _ 0 (Nat.le_refl _) (by omega)
  rw [List.take_zero] at this
  exact this
end Go.Proofs.YtacjjfoelhckcaaDoor.PEvalPlays
