/- Contracts of strings.HasPrefix, runes.bad, runes.inName, runes.Name, proved by walking. -/
import Derived.Test.YtacjjfoelhckcaaDoorA3
namespace Go.Proofs.YtacjjfoelhckcaaDoor
open Go.RowKit Go.Proofs.YtacjjfoelhckcaaDoorW.PrintWords

def prefB (s p : ByteArray) : Bool := decide (p.size ≤ s.size) && ((s.extract 0 p.size).toList == p.toList)
set_option maxHeartbeats 1000000 in
theorem prefix_inner (s p : ByteArray) (w : World) :
    Calls Tryd.prog 167 #[.string s, .string p] w fun e w' => e = .returned (.bool (prefB s p)) ∧ w' = w := by
  by_cases h : p.size ≤ s.size
  · have h1 : decide ((p.size : Int) ≤ (s.size : Int)) = true := decide_eq_true (by omega)
    have h2 : decide (p.size ≤ s.size) = true := decide_eq_true h
    have He : Hid (prefB s p = ((s.extract 0 p.size).toList == p.toList)) := Lib.hid (by rw [prefB, h2, Bool.true_and])
    go_enter Tryd.func167, Tryd.ntmps167
    go_wp2
    go_ret
    exact ⟨by rw [He.out]; rfl, rfl⟩
  · have h1 : decide ((p.size : Int) ≤ (s.size : Int)) = false := decide_eq_false (by omega)
    have h2 : decide (p.size ≤ s.size) = false := decide_eq_false h
    have He : Hid (prefB s p = false) := Lib.hid (by rw [prefB, h2, Bool.false_and])
    go_enter Tryd.func167, Tryd.ntmps167
    go_wp2
    go_ret
    exact ⟨by rw [He.out]; rfl, rfl⟩
theorem prefix_calls (s p : ByteArray) (w : World) :
    Calls Tryd.prog 148 #[.string s, .string p] w fun e w' => e = .returned (.bool (prefB s p)) ∧ w' = w := by
  go_enter Tryd.func148, Tryd.ntmps148
  go_wp2_with (go_at_call 167; refine (prefix_inner s p _).mono ?_; rintro e w' ⟨rfl, rfl⟩)
  go_ret
  exact ⟨rfl, rfl⟩

def errS : ByteArray := ⟨#[239, 191, 189]⟩
def badB (s : ByteArray) (pos : Nat) (r : Int) : Bool := r == 65533 && !(prefB (s.extract pos s.size) errS)
set_option maxHeartbeats 1000000 in
theorem bad_calls (s : ByteArray) (pos : Nat) (r : Int) (hp : pos ≤ s.size) (w : World) :
    Calls Tryd.prog 124 #[.string s, .int .i64 pos, .int .i32 r] w fun e w' => e = .returned (.bool (badB s pos r)) ∧ w' = w := by
  have C : Hid (∀ W, Calls Tryd.prog 148 #[.string (s.extract pos s.size), .string ⟨#[239, 191, 189]⟩] W fun e w' => e = .returned (.bool (prefB (s.extract pos s.size) errS)) ∧ w' = W) := Lib.hid (prefix_calls (s.extract pos s.size) errS)
  cases h : (r == 65533) with
  | true =>
    have He : Hid (badB s pos r = !(prefB (s.extract pos s.size) errS)) := Lib.hid (by rw [badB, h, Bool.true_and])
    go_enter Tryd.func124, Tryd.ntmps124
    go_wp2_with (refine (C.out _).mono ?_; rintro e w' ⟨rfl, rfl⟩)
    go_ret
    exact ⟨by rw [He.out]; rfl, rfl⟩
  | false =>
    have He : Hid (badB s pos r = false) := Lib.hid (by rw [badB, h, Bool.false_and])
    go_enter Tryd.func124, Tryd.ntmps124
    go_wp2
    go_ret
    exact ⟨by rw [He.out]; rfl, rfl⟩

def inB (r : Int) : Bool := kindZ r == 1 || kindZ r == 2 || kindZ r == 5
set_option maxHeartbeats 1000000 in
theorem inName_calls (r : Int) (w : World) (hG : GL w) :
    Calls Tryd.prog 126 #[.int .i32 r] w fun e w' => e = .returned (.bool (inB r)) ∧ Below w.heap.size w w' := by
  have HG := Lib.hid hG
  clear hG
  have C : Hid (∀ W, GL W → Calls Tryd.prog 125 #[.int .i32 r] W fun e w' => e = .returned (.int .i64 (kindZ r)) ∧ Below W.heap.size W w') := Lib.hid (fun W => kind_calls r W)
  have E : Hid (∀ k, kindZ r = k → inB r = (k == 1 || k == 2 || k == 5)) := Lib.hid (fun k h => by rw [inB, h])
  generalize hk : kindZ r = k at C
  have He : Hid (inB r = (k == 1 || k == 2 || k == 5)) := Lib.hid (E.out k hk)
  clear hk E
  generalize inB r = b at He
  go_enter Tryd.func126, Tryd.ntmps126
  cases h1 : k == 1 <;> cases h2 : k == 2 <;> cases h3 : k == 5 <;>
  · have H1 := Lib.hid h1
    have H2 := Lib.hid h2
    have H3 := Lib.hid h3
    go_wp2_with (refine (C.out _ HG.out).mono ?_; rintro e w1 ⟨rfl, hb⟩)
    go_ret
    exact ⟨by rw [He.out, H1.out, H2.out, H3.out]; rfl, hb⟩

def charB (s : ByteArray) (p : Nat × Int) : Bool := !(badB s p.1 p.2 || (p.1 == 0 && !(kindZ p.2 == 1)) || !(inB p.2))
def nameFrom (s : ByteArray) (n : Int) (l : List (Nat × Int)) : Bool :=
  match l with
  | [] => decide (1 ≤ n) && decide (n ≤ 16)
  | p :: l => charB s p && nameFrom s (wrap64 (n + 1)) l
def nameB (s : ByteArray) : Bool := nameFrom s 0 (runesAt s 0)

set_option maxHeartbeats 2000000 in
theorem name_calls (s : ByteArray) (w : World) (hG : GL w) :
    Calls Tryd.prog 83 #[.string s] w fun e w' => e = .returned (.bool (nameB s)) ∧ Below w.heap.size w w' := by
  go_enter Tryd.func83, Tryd.ntmps83
  go_wp2
  go_loopw [3] (fun n wr => ∃ (pos : Nat) (k : Int), n = .int .i64 k ∧ wr.heap[w.heap.size]? = some (.stringIter s pos) ∧ Below w.heap.size w wr ∧ nameB s = nameFrom s k (runesAt s pos)) (fun _ wr => s.size - wr.iterPos w.heap.size)
  case atStart => exact ⟨0, 0, rfl, World.iter_heap w s 0, (Below.refl _ w).alloc (Nat.le_refl _) _, rfl⟩
  case round =>
    obtain ⟨pos, k, rfl, hit, hb, he⟩ := hrel
    have He := Lib.hid he
    clear he
    have HG1 := Lib.hid (hG.below hb)
    have hG0 := Lib.hid hG
    have HIT := Lib.hid hit
    clear hG
    by_cases hp : pos < s.size
    · have hnx : ∀ ty, (Instr.next (.pointer (some ⟨w.heap.size, 0, none⟩)) true ty).run Tryd.prog wr = _ := fun ty => Lib.run_next_any_at wr w.heap.size s pos ty hit hp
      have hit2 := Lib.iterAt_heap wr w.heap.size s pos (pos + (Utf8.decode s pos).2) hit
      have hb2 := Lib.below_iterAt hb (k := w.heap.size) (by omega) s (pos + (Utf8.decode s pos).2)
      have hw1 := width_pos s pos hp
      have Hc := Lib.hid (runesAt_cons s pos hp)
      have HG2 := Lib.hid (hG0.out.below hb2)
      generalize hwd : (Utf8.decode s pos).2 = wd at *
      generalize hrr : ((Utf8.decode s pos).1 : Int) = r at *
      clear hwd hrr
      have CB : Hid (∀ W, Calls Tryd.prog 124 #[.string s, .int .i64 pos, .int .i32 r] W fun e w' => e = .returned (.bool (badB s pos r)) ∧ w' = W) := Lib.hid (fun W => bad_calls s pos r (by omega) W)
      have CK : Hid (∀ W, GL W → Calls Tryd.prog 125 #[.int .i32 r] W fun e w' => e = .returned (.int .i64 (kindZ r)) ∧ Below W.heap.size W w') := Lib.hid (fun W => kind_calls r W)
      have CI : Hid (∀ W, GL W → Calls Tryd.prog 126 #[.int .i32 r] W fun e w' => e = .returned (.bool (inB r)) ∧ Below W.heap.size W w') := Lib.hid (fun W => inName_calls r W)
      have EC : Hid (charB s (pos, r) = !(badB s pos r || (pos == 0 && !(kindZ r == 1)) || !(inB r))) := Lib.hid rfl
      have EN : Hid (nameB s = (charB s (pos, r) && nameFrom s (wrap64 (k + 1)) (runesAt s (pos + wd)))) := Lib.hid (by rw [He.out, Hc.out]; rfl)
      generalize charB s (pos, r) = cb at EC EN
      generalize badB s pos r = bb at CB EC
      generalize kindZ r = kz at CK EC
      generalize inB r = ib at CI EC
      clear hit hb HG1 He Hc
      have hz0 : (((pos : Nat) : Int) == 0) = (pos == 0) := by rw [Bool.eq_iff_iff]; simp
      cases h0 : bb with
      | true =>
        subst h0
        clear hz0
        go_wp2_with (first | ((with_reducible refine (CB.out _).mono ?_); rintro e w' ⟨rfl, rfl⟩) | ((with_reducible refine (CK.out _ HG2.out).mono ?_); rintro e w1 ⟨rfl, hk⟩; replace HG2 := Lib.hid (HG2.out.below hk); replace hit2 := (hk.block _ (Array.getElem?_eq_some_iff.1 hit2).1).trans hit2; replace hb2 := below_then hb2 hb2.size hk; clear hk) | ((with_reducible refine (CI.out _ HG2.out).mono ?_); rintro e w1 ⟨rfl, hk⟩; replace HG2 := Lib.hid (HG2.out.below hk); replace hit2 := (hk.block _ (Array.getElem?_eq_some_iff.1 hit2).1).trans hit2; replace hb2 := below_then hb2 hb2.size hk; clear hk))
        go_ret
        exact ⟨by rw [EN.out, EC.out]; simp, hb2⟩
      | false =>
        subst h0
        cases h1 : pos == 0 with
        | true =>
          have H1 := Lib.hid h1
          rw [h1] at hz0
          clear h1
          cases h2 : kz == 1 with
          | false =>
            have h2' : (kz != 1) = true := by rw [bne, h2]; rfl
            have H2 := Lib.hid h2
            clear h2
            go_wp2_with (first | ((with_reducible refine (CB.out _).mono ?_); rintro e w' ⟨rfl, rfl⟩) | ((with_reducible refine (CK.out _ HG2.out).mono ?_); rintro e w1 ⟨rfl, hk⟩; replace HG2 := Lib.hid (HG2.out.below hk); replace hit2 := (hk.block _ (Array.getElem?_eq_some_iff.1 hit2).1).trans hit2; replace hb2 := below_then hb2 hb2.size hk; clear hk) | ((with_reducible refine (CI.out _ HG2.out).mono ?_); rintro e w1 ⟨rfl, hk⟩; replace HG2 := Lib.hid (HG2.out.below hk); replace hit2 := (hk.block _ (Array.getElem?_eq_some_iff.1 hit2).1).trans hit2; replace hb2 := below_then hb2 hb2.size hk; clear hk))
            go_ret
            exact ⟨by rw [EN.out, EC.out, H1.out, H2.out]; simp, hb2⟩
          | true =>
            have h2' : (kz != 1) = false := by rw [bne, h2]; rfl
            have H2 := Lib.hid h2
            clear h2
            cases h3 : ib with
            | false =>
              subst h3
              go_wp2_with (first | ((with_reducible refine (CB.out _).mono ?_); rintro e w' ⟨rfl, rfl⟩) | ((with_reducible refine (CK.out _ HG2.out).mono ?_); rintro e w1 ⟨rfl, hk⟩; replace HG2 := Lib.hid (HG2.out.below hk); replace hit2 := (hk.block _ (Array.getElem?_eq_some_iff.1 hit2).1).trans hit2; replace hb2 := below_then hb2 hb2.size hk; clear hk) | ((with_reducible refine (CI.out _ HG2.out).mono ?_); rintro e w1 ⟨rfl, hk⟩; replace HG2 := Lib.hid (HG2.out.below hk); replace hit2 := (hk.block _ (Array.getElem?_eq_some_iff.1 hit2).1).trans hit2; replace hb2 := below_then hb2 hb2.size hk; clear hk))
              go_ret
              exact ⟨by rw [EN.out, EC.out, H1.out, H2.out]; simp, hb2⟩
            | true =>
              subst h3
              go_wp2_with (first | ((with_reducible refine (CB.out _).mono ?_); rintro e w' ⟨rfl, rfl⟩) | ((with_reducible refine (CK.out _ HG2.out).mono ?_); rintro e w1 ⟨rfl, hk⟩; replace HG2 := Lib.hid (HG2.out.below hk); replace hit2 := (hk.block _ (Array.getElem?_eq_some_iff.1 hit2).1).trans hit2; replace hb2 := below_then hb2 hb2.size hk; clear hk) | ((with_reducible refine (CI.out _ HG2.out).mono ?_); rintro e w1 ⟨rfl, hk⟩; replace HG2 := Lib.hid (HG2.out.below hk); replace hit2 := (hk.block _ (Array.getElem?_eq_some_iff.1 hit2).1).trans hit2; replace hb2 := below_then hb2 hb2.size hk; clear hk))
              go_roundw
              case rel => exact ⟨pos + wd, wrap64 (k + 1), by go_num, hit2, hb2, by rw [EN.out, EC.out, H1.out, H2.out]; simp⟩
              case measure => simp only [World.iterPos, hit2, HIT.out]; omega
        | false =>
          have H1 := Lib.hid h1
          rw [h1] at hz0
          clear h1
          cases h3 : ib with
          | false =>
            subst h3
            go_wp2_with (first | ((with_reducible refine (CB.out _).mono ?_); rintro e w' ⟨rfl, rfl⟩) | ((with_reducible refine (CK.out _ HG2.out).mono ?_); rintro e w1 ⟨rfl, hk⟩; replace HG2 := Lib.hid (HG2.out.below hk); replace hit2 := (hk.block _ (Array.getElem?_eq_some_iff.1 hit2).1).trans hit2; replace hb2 := below_then hb2 hb2.size hk; clear hk) | ((with_reducible refine (CI.out _ HG2.out).mono ?_); rintro e w1 ⟨rfl, hk⟩; replace HG2 := Lib.hid (HG2.out.below hk); replace hit2 := (hk.block _ (Array.getElem?_eq_some_iff.1 hit2).1).trans hit2; replace hb2 := below_then hb2 hb2.size hk; clear hk))
            go_ret
            exact ⟨by rw [EN.out, EC.out, H1.out]; simp, hb2⟩
          | true =>
            subst h3
            go_wp2_with (first | ((with_reducible refine (CB.out _).mono ?_); rintro e w' ⟨rfl, rfl⟩) | ((with_reducible refine (CK.out _ HG2.out).mono ?_); rintro e w1 ⟨rfl, hk⟩; replace HG2 := Lib.hid (HG2.out.below hk); replace hit2 := (hk.block _ (Array.getElem?_eq_some_iff.1 hit2).1).trans hit2; replace hb2 := below_then hb2 hb2.size hk; clear hk) | ((with_reducible refine (CI.out _ HG2.out).mono ?_); rintro e w1 ⟨rfl, hk⟩; replace HG2 := Lib.hid (HG2.out.below hk); replace hit2 := (hk.block _ (Array.getElem?_eq_some_iff.1 hit2).1).trans hit2; replace hb2 := below_then hb2 hb2.size hk; clear hk))
            go_roundw
            case rel => exact ⟨pos + wd, wrap64 (k + 1), by go_num, hit2, hb2, by rw [EN.out, EC.out, H1.out]; simp⟩
            case measure => simp only [World.iterPos, hit2, HIT.out]; omega
    · have hnx : ∀ ty, (Instr.next (.pointer (some ⟨w.heap.size, 0, none⟩)) true ty).run Tryd.prog wr = _ := fun ty => Lib.run_next_end_at wr w.heap.size s pos ty hit hp
      have He2 : Hid (nameB s = (decide (1 ≤ k) && decide (k ≤ 16))) := Lib.hid (by rw [He.out, runesAt_end s pos hp]; rfl)
      by_cases h1 : 1 ≤ k <;> by_cases h2 : k ≤ 16 <;>
      · go_wp2
        go_ret
        exact ⟨by rw [He2.out]; simp [h1, h2], hb⟩
end Go.Proofs.YtacjjfoelhckcaaDoor
