/- Contract of runes.has, and the characters of a text as a plain list, proved by walking. -/
import Derived.Test.YtacjjfoelhckcaaDoorA1
import Derived.Lib.OthersKept
import Derived.Lib.Hide
namespace Go.Proofs.YtacjjfoelhckcaaDoor
open Go.RowKit Go.Proofs.YtacjjfoelhckcaaDoorW.PrintWords

theorem width_pos (s : ByteArray) (pos : Nat) (h : pos < s.size) : 1 ≤ (Utf8.decode s pos).2 := by
  by_cases ha : (s[pos]'h).toNat < 128
  · rw [decode_ascii s pos h ha]
    exact Nat.le_refl _
  · exact (decode_high s pos h (by omega)).2

def runesFrom (s : ByteArray) : Nat → Nat → List (Nat × Int)
  | 0, _ => []
  | n + 1, pos => if pos < s.size then (pos, ((Utf8.decode s pos).1 : Int)) :: runesFrom s n (pos + (Utf8.decode s pos).2) else []
def runesAt (s : ByteArray) (pos : Nat) : List (Nat × Int) := runesFrom s (s.size - pos) pos
theorem runesFrom_more (s : ByteArray) : ∀ (n m pos : Nat), s.size - pos ≤ n → s.size - pos ≤ m → runesFrom s n pos = runesFrom s m pos := by
  intro n
  induction n with
  | zero =>
    intro m pos h _
    cases m with
    | zero => rfl
    | succ m => rw [runesFrom, runesFrom, if_neg (by omega)]
  | succ n ih =>
    intro m pos h1 h2
    by_cases hp : pos < s.size
    · cases m with
      | zero => omega
      | succ m =>
        have := width_pos s pos hp
        rw [runesFrom, runesFrom, if_pos hp, if_pos hp, ih m _ (by omega) (by omega)]
    · cases m with
      | zero => rw [runesFrom, runesFrom, if_neg hp]
      | succ m => rw [runesFrom, runesFrom, if_neg hp, if_neg hp]
theorem runesAt_cons (s : ByteArray) (pos : Nat) (h : pos < s.size) :
    runesAt s pos = (pos, ((Utf8.decode s pos).1 : Int)) :: runesAt s (pos + (Utf8.decode s pos).2) := by
  have := width_pos s pos h
  rw [runesAt, runesFrom_more s (s.size - pos) (s.size - pos + 1) pos (by omega) (by omega), runesFrom, if_pos h, runesAt]
  congr 1
  exact runesFrom_more s _ _ _ (by omega) (by omega)
theorem runesAt_end (s : ByteArray) (pos : Nat) (h : ¬ pos < s.size) : runesAt s pos = [] := by
  rw [runesAt, show s.size - pos = 0 by omega]; rfl

def hasB (s : ByteArray) (pos : Nat) (r : Int) : Bool := (runesAt s pos).any fun p => p.2 == r
theorem hasB_cons (s : ByteArray) (pos : Nat) (h : pos < s.size) (r : Int) : hasB s pos r = (((Utf8.decode s pos).1 : Int) == r || hasB s (pos + (Utf8.decode s pos).2) r) := by
  rw [hasB, runesAt_cons s pos h]; simp [hasB]

set_option maxHeartbeats 1000000 in
theorem has_calls (s : ByteArray) (r : Int) (w : World) :
    Calls Tryd.prog 151 #[.string s, .int .i32 r] w fun e w' => e = .returned (.bool (hasB s 0 r)) ∧ Below w.heap.size w w' := by
  go_enter Tryd.func151, Tryd.ntmps151
  go_wp2
  go_loopw [] (fun wr => ∃ pos : Nat, wr.heap[w.heap.size]? = some (.stringIter s pos) ∧ Below w.heap.size w wr ∧ hasB s 0 r = hasB s pos r) (fun wr => s.size - wr.iterPos w.heap.size)
  case atStart => exact ⟨0, World.iter_heap w s 0, (Below.refl _ w).alloc (Nat.le_refl _) _, rfl⟩
  case round =>
    obtain ⟨pos, hit, hb, he⟩ := hrel
    have He := Lib.hid he
    clear he
    by_cases hp : pos < s.size
    · have hnx : ∀ ty, (Instr.next (.pointer (some ⟨w.heap.size, 0, none⟩)) true ty).run Tryd.prog wr = _ := fun ty => Lib.run_next_any_at wr w.heap.size s pos ty hit hp
      have hit2 := Lib.iterAt_heap wr w.heap.size s pos (pos + (Utf8.decode s pos).2) hit
      have hb2 := Lib.below_iterAt hb (k := w.heap.size) (by omega) s (pos + (Utf8.decode s pos).2)
      have hw1 := width_pos s pos hp
      have hc := hasB_cons s pos hp r
      have Hc := Lib.hid hc
      clear hc
      by_cases hr : ((Utf8.decode s pos).1 : Int) = r
      · have hr' : (((Utf8.decode s pos).1 : Int) == r) = true := beq_iff_eq.2 hr
        have Hr := Lib.hid hr
        clear hr
        go_wp2
        go_ret
        exact ⟨by rw [He.out, Hc.out, hr', Bool.true_or]; rfl, hb2⟩
      · have hr' : (((Utf8.decode s pos).1 : Int) == r) = false := beq_eq_false_iff_ne.2 hr
        clear hr
        go_wp2
        go_roundw
        case rel => exact ⟨_, hit2, hb2, by rw [He.out, Hc.out, hr', Bool.false_or]⟩
        case measure => simp only [World.iterPos, hit2, hit]; omega
    · have hnx : ∀ ty, (Instr.next (.pointer (some ⟨w.heap.size, 0, none⟩)) true ty).run Tryd.prog wr = _ := fun ty => Lib.run_next_end_at wr w.heap.size s pos ty hit hp
      go_wp2
      go_ret
      exact ⟨by rw [He.out, hasB, runesAt_end s pos hp]; rfl, hb⟩
end Go.Proofs.YtacjjfoelhckcaaDoor
