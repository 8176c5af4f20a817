/- What this program's rows read opens to; and the two tables of package runes, as the rows' list lays them. -/
import Derived.Test.YtacjjfoelhckcaaDoorO1
import Derived.Test.YtacjjfoelhckcaaDoorA1
import Derived.Test.YtacjjfoelhckcaaDoorTie
import Derived.Test.YtacjjfoelhckcaaDoorCards
import Derived.Deep.DeepHandedRow
import Derived.Lib.LaidTab
namespace Go.Proofs.YtacjjfoelhckcaaDoor
open Go.RowKit Go.Proofs.YtacjjfoelhckcaaDoorW.PrintWords

theorem cells2 : Tryd.prog.cellsOf 2 = 1 := by kernel_rfl
theorem cells3 : Tryd.prog.cellsOf 3 = 1 := by kernel_rfl
theorem cells9 : Tryd.prog.cellsOf 9 = 1 := by kernel_rfl
theorem cells22 : Tryd.prog.cellsOf 22 = 1 := by kernel_rfl
theorem cells24 : Tryd.prog.cellsOf 24 = 4 := by kernel_rfl
theorem cells30 : Tryd.prog.cellsOf 30 = 1 := by kernel_rfl
theorem cells43 : Tryd.prog.cellsOf 43 = 1 := by kernel_rfl
theorem cells45 : Tryd.prog.cellsOf 45 = 4 := by kernel_rfl
theorem cells200 : Tryd.prog.cellsOf 200 = 2 := by kernel_rfl
theorem cells201 : Tryd.prog.cellsOf 201 = 26 := by kernel_rfl
theorem cells21 : Tryd.prog.cellsOf 21 = 1 := by kernel_rfl
theorem cells221 : Tryd.prog.cellsOf 221 = 3 := by kernel_rfl
theorem bytes3 : Tryd.prog.bytesOf 3 = 8 := by kernel_rfl
theorem bytes9 : Tryd.prog.bytesOf 9 = 16 := by kernel_rfl
theorem bytes30 : Tryd.prog.bytesOf 30 = 24 := by kernel_rfl
theorem bytes45 : Tryd.prog.bytesOf 45 = 56 := by kernel_rfl
/-- A whole number of 64 bits. -/
def okI (n : Int) : Prop := (Lit.int .i64 n).wf = true
theorem okI.bounds {n : Int} (h : okI n) : -9223372036854775808 ≤ n ∧ n ≤ 9223372036854775807 := by
  simp [okI, Lit.wf] at h
  exact h
/-- A string that a machine can hold. -/
def okS (s : ByteArray) : Prop := s.size ≤ 140737488351232
/-- A row of whole numbers that a machine can hold. -/
def okR (B : Nat) {α : Type} (ok : α → Prop) (xs : List α) : Prop := xs.length * B ≤ 140737488351232 ∧ ∀ x ∈ xs, ok x
/-- A node. -/
def okN (x : Int × Int × ByteArray × List Int) : Prop := okI x.1 ∧ okI x.2.1 ∧ okS x.2.2.1 ∧ okR 8 okI x.2.2.2
theorem opens2 : Opens Tryd.prog (Kd.int .i64) 2 okI := opens_int .i64 Tryd.underlying2
theorem opens3 : Opens Tryd.prog (Kd.int .i64) 3 okI := opens_int .i64 Tryd.underlying3
theorem opens9 : Opens Tryd.prog Kd.string 9 okS := opens_string Tryd.underlying9
theorem opens43 : Opens Tryd.prog (Kd.slice 3 (Kd.int .i64)) 43 (okR 8 okI) := opens_slice 8 Tryd.underlying43 cells3 bytes3 opens3
theorem opens37 : Opens Tryd.prog (Kd.slice 9 Kd.string) 37 (okR 16 okS) := opens_slice 16 Tryd.underlying37 cells9 bytes9 opens9
theorem opens45 : Opens Tryd.prog (Kd.pair (Kd.int .i64) (Kd.pair (Kd.int .i64) (Kd.pair Kd.string (Kd.slice 3 (Kd.int .i64))))) 45 okN :=
  opens_struct4 Tryd.underlying45 rfl cells45 cells3 cells2 cells9 cells43 opens3 opens2 opens9 opens43

/-! ### the two tables -/
theorem gLetters : Tryd.prog.globalNamed "sorrel/runes.letters" = some 0 := by kernel_rfl
theorem gZeros : Tryd.prog.globalNamed "sorrel/runes.zeros" = some 1 := by kernel_rfl
theorem gLettersType : (Tryd.prog.globals[0]?).map (·.type) = some 201 := by kernel_rfl
theorem gZerosType : (Tryd.prog.globals[1]?).map (·.type) = some 221 := by kernel_rfl
theorem int_of_trod' {H : Type} {enc : TypeId × Value → H} {P : Program} {w : World} {base : Nat} {sp : Nat → Bool} {held : Bool} {fuel : Nat} {t : TypeId} {k : IntKind} {cs : List Value} {n : Int} {p : List MemPlace}
    (ht : P.underlying t = some (.int k)) (h : DataW.trod enc P w base sp held fuel t cs = some (.lit (.int k n), p)) : cs = [.int k n] := by
  obtain ⟨z, rfl, hz, _⟩ := DataW.trod_int ht h
  cases hz
  rfl
set_option maxRecDepth 100000 in
theorem pair_of_trod {H : Type} {enc : TypeId × Value → H} {w : World} {base : Nat} {sp : Nat → Bool} {held : Bool} {fuel : Nat} {cs : List Value} {a b : Int} {p : List MemPlace}
    (h : DataW.trod enc Tryd.prog w base sp held fuel 200 cs = some (.agg [.lit (.int .i32 a), .lit (.int .i32 b)], p)) : cs = [.int .i32 a, .int .i32 b] := by
  cases fuel with
  | zero => simp [DataW.trod] at h
  | succ fuel =>
    simp only [DataW.trod, Tryd.underlying200] at h
    split at h
    · rename_i hl
      rw [cells200] at hl
      obtain ⟨x, y, rfl⟩ : ∃ x y, cs = [x, y] := by
        match cs, hl with
        | [a, b], _ => exact ⟨a, b, rfl⟩
      simp only [Option.map_eq_some_iff, List.mapM_cons, List.mapM_nil, Option.bind_eq_bind, Option.bind_eq_some_iff, Option.pure_def, Option.some.injEq, cells21, List.drop_zero, List.drop_succ_cons, List.take_succ_cons, List.take_zero] at h
      obtain ⟨xs, ⟨y0, h0, _, ⟨y1, h1, _, rfl, rfl⟩, rfl⟩, hx⟩ := h
      simp only [List.map_cons, List.map_nil, Prod.mk.injEq, DataW.agg.injEq, List.cons.injEq, and_true] at hx
      obtain ⟨⟨e0, e1⟩, _⟩ := hx
      obtain ⟨d0, p0⟩ := y0
      obtain ⟨d1, p1⟩ := y1
      dsimp only at e0 e1
      subst e0 e1
      have g0 := int_of_trod' Tryd.underlying21 h0
      have g1 := int_of_trod' Tryd.underlying21 h1
      simp at g0 g1
      rw [g0, g1]
    · cases h
theorem pairs_flat : ∀ (ps : List (Int × Int)) (cs : List Value), cs.length = 2 * ps.length → (∀ i p, ps[i]? = some p → (cs.drop (i * 2)).take 2 = [.int .i32 p.1, .int .i32 p.2]) → cs = ps.flatMap fun p => [Value.int .i32 p.1, .int .i32 p.2]
  | [], cs, hl, _ => by simpa using hl
  | p :: ps, cs, hl, h => by
    obtain ⟨x, y, cs, rfl⟩ : ∃ x y cs', cs = x :: y :: cs' := by
      match cs, hl with
      | a :: b :: cs, _ => exact ⟨a, b, cs, rfl⟩
      | [], hl => simp at hl
      | [_], hl => simp at hl; omega
    have h0 := h 0 p rfl
    simp at h0
    rw [h0.1, h0.2, pairs_flat ps cs (by simp at hl; omega) (fun i q hq => by
      have := h (i + 1) q (by simpa using hq)
      rwa [Nat.succ_mul, show i * 2 + 2 = (i * 2 + 1) + 1 from rfl, List.drop_succ_cons, List.drop_succ_cons] at this)]
    rfl
def pairsL : List (Int × Int) := [(97, 122), (65, 90), (95, 95), (192, 214), (216, 246), (248, 591), (880, 893), (895, 902), (904, 1023), (1024, 1153), (1162, 1327), (19968, 40959), (66560, 66639)]
theorem letters_of_trod {H : Type} {enc : TypeId × Value → H} {w : World} {base : Nat} {sp : Nat → Bool} {held : Bool} {fuel : Nat} {cs : List Value} {p : List MemPlace}
    (h : DataW.trod enc Tryd.prog w base sp held fuel 201 cs = some (Rows.laid_sorrel_runes_letters, p)) : cs = lettersL.map (Value.int .i32) := by
  cases fuel with
  | zero => simp [DataW.trod] at h
  | succ fuel =>
    simp only [DataW.trod, Tryd.underlying201, cells200, cells201] at h
    split at h
    · rename_i hl
      obtain ⟨xs, hm, hx⟩ := Option.map_eq_some_iff.1 h
      have hxs : xs.map (·.1) = pairsL.map fun p => (DataW.agg [.lit (.int .i32 p.1), .lit (.int .i32 p.2)] : DataW H) := by
        have := congrArg Prod.fst hx
        simpa [Rows.laid_sorrel_runes_letters, pairsL] using this
      obtain ⟨hxl, hi⟩ := mapM_range _ _ _ hm
      refine pairs_flat pairsL cs hl (fun i q hq => ?_)
      have hlt : i < 13 := (List.getElem?_eq_some_iff.1 hq).1
      have h1 := hi i hlt
      have h2 : (xs.map (·.1))[i]? = some (DataW.agg [.lit (.int .i32 q.1), .lit (.int .i32 q.2)] : DataW H) := by rw [hxs, List.getElem?_map, hq]; rfl
      rw [List.getElem?_map, Option.map_eq_some_iff] at h2
      obtain ⟨⟨d, pp⟩, h3, h4⟩ := h2
      dsimp only at h4
      subst h4
      rw [h3] at h1
      exact pair_of_trod h1
    · cases h
theorem heap_of_var {W : World} {name : String} {g : Nat} {cs : Array Value} (hg : Tryd.prog.globalNamed name = some g) (h : W.var? Tryd.prog name = some cs) : ∃ T f, W.heap[g]? = some (.cells cs T f) := by
  simp only [World.var?, hg, Option.bind_some] at h
  split at h
  · rename_i c T f hc
    cases h
    exact ⟨T, f, hc⟩
  · cases h
/-- What the rows' list gives: the tables lie as the program's text lays them. -/
theorem GL_of_laid {W : World} (h : laidMetH Tryd.prog [("sorrel/runes.letters", Rows.laid_sorrel_runes_letters), ("sorrel/runes.zeros", Rows.laid_sorrel_runes_zeros)] W) : GL W := by
  obtain ⟨ps, ⟨g, t, cs, fuel, p, q, hg, ht, hvar, hd, ⟨g', t', cs', fuel', p', q', hg', ht', hvar', hd', _, _⟩, _⟩, _⟩ := (h : laidMet _ _ _)
  obtain rfl := Option.some.inj (gLetters.symm.trans hg)
  obtain rfl := Option.some.inj (gLettersType.symm.trans ht)
  obtain rfl := Option.some.inj (gZeros.symm.trans hg')
  obtain rfl := Option.some.inj (gZerosType.symm.trans ht')
  have e0 := letters_of_trod hd
  have e1 : cs'.toList = zerosL.map fun z => Value.int .i32 z := Lib.cells_of_tab (zs := zerosL) Tryd.underlying221 Tryd.underlying21 cells21 cells221 hd'
  have f0 : cs = lettersA := by rw [lettersA, ← e0]
  have f1 : cs' = zerosA := by rw [zerosA, ← e1]
  subst f0 f1
  exact ⟨heap_of_var gLetters hvar, heap_of_var gZeros hvar'⟩

theorem own : ownKnob Tryd.prog.godebug = none := by kernel_rfl
theorem laidOut : laidOutB Tryd.prog = true := by kernel_rfl
def asCells (cs : Array Value) : Obj → Obj
  | .cells _ t frozen => .cells cs t frozen
  | o => o
/-- A world for the rows' witness: the settled one, the two tables holding what their initialisers lay. -/
noncomputable def laidWorld (os : Os) : World :=
  { World.holding Tryd.prog os ⟨#[], #[], []⟩ with heap := ((World.holding Tryd.prog os ⟨#[], #[], []⟩).heap.modify 0 (asCells lettersA)).modify 1 (asCells zerosA) }
end Go.Proofs.YtacjjfoelhckcaaDoor
