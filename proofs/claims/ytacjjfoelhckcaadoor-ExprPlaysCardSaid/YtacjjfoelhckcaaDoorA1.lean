/- Contracts of the leaf functions of package runes over its two tables, proved by walking. -/
import Derived.Test.YtacjjfoelhckcaaDoorWWords
import Derived.Test.YtacjjfoelhckcaaDoorProg
import Derived.WalkKit
import Derived.LoopTactic
import Derived.Laws.Rows
import Derived.KernelRfl
import Derived.Laws.RangeAny
namespace Go.Proofs.YtacjjfoelhckcaaDoor
open Go.RowKit Go.Proofs.YtacjjfoelhckcaaDoorW.PrintWords

def lettersL : List Int := [97, 122, 65, 90, 95, 95, 192, 214, 216, 246, 248, 591, 880, 893, 895, 902, 904, 1023, 1024, 1153, 1162, 1327, 19968, 40959, 66560, 66639]
def zerosL : List Int := [48, 1632, 65296]
def lettersA : Array Value := (lettersL.map (Value.int .i32)).toArray
def zerosA : Array Value := (zerosL.map (Value.int .i32)).toArray
def GL (w : World) : Prop := (∃ T f, w.heap[0]? = some (.cells lettersA T f)) ∧ (∃ T f, w.heap[1]? = some (.cells zerosA T f))
theorem GL.below {w w' : World} (h : GL w) (hb : Below w.heap.size w w') : GL w' := by
  obtain ⟨⟨T, f, h0⟩, T', f', h1⟩ := h
  exact ⟨⟨T, f, (hb.block 0 (Array.getElem?_eq_some_iff.1 h0).1).trans h0⟩, T', f', (hb.block 1 (Array.getElem?_eq_some_iff.1 h1).1).trans h1⟩
theorem GL.zero_cell {w : World} (h : GL w) (k : Nat) : w.cell? ⟨1, k, none⟩ = zerosA[k]? := by
  obtain ⟨_, T', f', h1⟩ := h
  simp [World.cell?, h1]
def zeroZ (r : Int) : Int × Bool := if 48 ≤ r ∧ r ≤ 57 then (48, true) else if 1632 ≤ r ∧ r ≤ 1641 then (1632, true) else if 65296 ≤ r ∧ r ≤ 65305 then (65296, true) else (0, false)

set_option maxHeartbeats 1000000 in
theorem zero_calls (r : Int) (w : World) (hG : GL w) :
    Calls Tryd.prog 149 #[.int .i32 r] w fun e w' => e = .returned (.tuple #[.int .i32 (zeroZ r).1, .bool (zeroZ r).2]) ∧ w = w' := by
  have h0 : w.cell? ⟨1, 0, none⟩ = some (.int .i32 48) := (hG.zero_cell 0).trans rfl
  have h1 : w.cell? ⟨1, 1, none⟩ = some (.int .i32 1632) := (hG.zero_cell 1).trans rfl
  have h2 : w.cell? ⟨1, 2, none⟩ = some (.int .i32 65296) := (hG.zero_cell 2).trans rfl
  clear hG
  have i0 : ∀ w, (Instr.index 221 (.agg #[.int .i32 48, .int .i32 1632, .int .i32 65296]) (.int .i64 0)).run Tryd.prog w = .ok (.int .i32 48) w := fun _ => by kernel_rfl
  have i1 : ∀ w, (Instr.index 221 (.agg #[.int .i32 48, .int .i32 1632, .int .i32 65296]) (.int .i64 1)).run Tryd.prog w = .ok (.int .i32 1632) w := fun _ => by kernel_rfl
  have i2 : ∀ w, (Instr.index 221 (.agg #[.int .i32 48, .int .i32 1632, .int .i32 65296]) (.int .i64 2)).run Tryd.prog w = .ok (.int .i32 65296) w := fun _ => by kernel_rfl
  go_enter Tryd.func149, Tryd.ntmps149
  go_wp2
  go_loop [7] (fun i => ∃ k : Nat, k ≤ 3 ∧ i = .int .i64 k ∧ (1 ≤ k → ¬ (48 ≤ r ∧ r ≤ 57)) ∧ (2 ≤ k → ¬ (1632 ≤ r ∧ r ≤ 1641)) ∧ (3 ≤ k → ¬ (65296 ≤ r ∧ r ≤ 65305))) (fun i => 3 - (intOf i).toNat)
  case atStart => exact ⟨0, by omega, rfl, by omega, by omega, by omega⟩
  case round =>
    obtain ⟨k, hk, rfl, n0, n1, n2⟩ := hrel
    obtain rfl | rfl | rfl | rfl : k = 0 ∨ k = 1 ∨ k = 2 ∨ k = 3 := by omega
    all_goals go_wp2
    all_goals first
      | (go_ret2; exact ⟨by rw [zeroZ]; (first | rw [if_pos (by omega)] | rw [if_neg (by omega), if_pos (by omega)] | rw [if_neg (by omega), if_neg (by omega), if_pos (by omega)] | rw [if_neg (by omega), if_neg (by omega), if_neg (by omega)]); rfl, rfl⟩)
      | exact ⟨⟨1, by omega, rfl, by omega, by omega, by omega⟩, by simp [intOf]⟩
      | exact ⟨⟨2, by omega, rfl, by omega, by omega, by omega⟩, by simp [intOf]⟩
      | exact ⟨⟨3, by omega, rfl, by omega, by omega, by omega⟩, by simp [intOf]⟩
theorem runes_zero.calls (a0 : Int) (w : World) (hG : GL w) :
    Calls Tryd.prog 149 #[.int .i32 a0] w fun e w' => e = .returned (.tuple #[.int .i32 (zeroZ a0).1, .bool (zeroZ a0).2]) ∧ Drawn0 w w' :=
  (zero_calls a0 w hG).mono fun _ _ h => ⟨h.1, h.2 ▸ Drawn0.refl _⟩
end Go.Proofs.YtacjjfoelhckcaaDoor
