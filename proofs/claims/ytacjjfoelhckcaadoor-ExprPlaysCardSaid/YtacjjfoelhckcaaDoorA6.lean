/- Contracts of the reference's Width, Rune, Name (sorrelref01), proved by walking. -/
import Derived.Test.YtacjjfoelhckcaaDoorA5
import Derived.WalkSpells
namespace Go.Proofs.YtacjjfoelhckcaaDoor
open Go.RowKit Go.Proofs.YtacjjfoelhckcaaDoorW.PrintWords

def widthZ (s : ByteArray) (at' : Int) : Int :=
  if at' < 0 ∨ (s.size : Int) ≤ at' then 0 else
  let t := s.extract at'.toNat s.size
  if (Utf8.decode t 0).1 = 65533 ∧ (t.size < 3 ∨ ¬ (s.extract at'.toNat (at'.toNat + 3)).toList = [239, 191, 189]) then 0 else (Utf8.decode t 0).2

theorem decode_fits (s : ByteArray) (pos : Nat) (h : pos < s.size) : pos + (Utf8.decode s pos).2 ≤ s.size := by
  unfold Utf8.decode
  simp only []
  repeat' split
  all_goals simp_all
  all_goals omega

set_option maxHeartbeats 2000000 in
theorem width_calls (s : ByteArray) (hs : s.size ≤ 9223372036854775800) (p : Int) (w : World) :
    Calls Tryd.prog 88 #[.string s, .int .i64 p] w fun e w' => e = .returned (.int .i64 (widthZ s p)) ∧ Below w.heap.size w w' := by
  by_cases h0 : p < 0
  · have Hd : Hid (widthZ s p = 0) := Lib.hid (if_pos (Or.inl h0))
    have h0' : decide (p < 0) = true := decide_eq_true h0
    go_enter Tryd.func88, Tryd.ntmps88
    go_wp2
    go_ret
    exact ⟨by rw [Hd.out]; rfl, Below.refl _ _⟩
  by_cases h1 : (s.size : Int) ≤ p
  · have Hd : Hid (widthZ s p = 0) := Lib.hid (if_pos (Or.inr h1))
    have h0' : decide (p < 0) = false := decide_eq_false h0
    have h1' : decide ((s.size : Int) ≤ p) = true := decide_eq_true h1
    go_enter Tryd.func88, Tryd.ntmps88
    go_wp2
    go_ret
    exact ⟨by rw [Hd.out]; rfl, Below.refl _ _⟩
  obtain ⟨q, rfl⟩ := Int.eq_ofNat_of_zero_le (show 0 ≤ p by omega)
  have hq : q < s.size := by omega
  have Hd : Hid (widthZ s q = if (Utf8.decode (s.extract q s.size) 0).1 = 65533 ∧ ((s.extract q s.size).size < 3 ∨ ¬ (s.extract q (q + 3)).toList = [239, 191, 189]) then 0 else ((Utf8.decode (s.extract q s.size) 0).2 : Int)) := Lib.hid (by rw [widthZ, if_neg (by omega)]; rfl)
  have hts : (s.extract q s.size).size = s.size - q := by rw [ByteArray.size_extract]; omega
  have h0' : decide ((q : Int) < 0) = false := decide_eq_false h0
  have h1' : decide ((s.size : Int) ≤ (q : Int)) = false := decide_eq_false h1
  go_enter Tryd.func88, Tryd.ntmps88
  go_wp2
  have hd2 : (Utf8.decode (s.extract q s.size) 0).2 ≤ (s.extract q s.size).size := by have := decode_fits (s.extract q s.size) 0 (by omega); omega
  generalize s.extract q s.size = t at *
  have hw1 : 1 ≤ (Utf8.decode t 0).2 := width_pos t 0 (by omega)
  generalize hwd : (Utf8.decode t 0).2 = wd at *
  generalize hrr : (Utf8.decode t 0).1 = r at *
  have HWD := Lib.hid hwd
  have HRR := Lib.hid hrr
  clear hwd hrr h0' h1' h0 h1
  have HTS := Lib.hid hts
  have hts' : t.size ≤ s.size - q ∧ s.size - q ≤ t.size := by omega
  clear hts
  go_loopw [] (fun wr => ∃ pos : Nat, wr.heap[w.heap.size]? = some (.stringIter t pos) ∧ Below w.heap.size w wr ∧ (pos = 0 ∨ pos = wd ∧ widthZ s q = wd)) (fun wr => t.size - wr.iterPos w.heap.size)
  case atStart => exact ⟨0, World.iter_heap w t 0, (Below.refl _ w).alloc (Nat.le_refl _) _, .inl rfl⟩
  case round =>
    obtain ⟨pos, hit, hb, he⟩ := hrel
    have HIT := Lib.hid hit
    rcases he with h | ⟨h, he⟩
    · obtain rfl := h
      have hp : 0 < t.size := by omega
      have hnx : ∀ ty, (Instr.next (.pointer (some ⟨w.heap.size, 0, none⟩)) true ty).run Tryd.prog wr = _ := fun ty => Lib.run_next_any_at wr w.heap.size t 0 ty hit hp
      rw [HWD.out, HRR.out, Nat.zero_add] at hnx
      have hit2 := Lib.iterAt_heap wr w.heap.size t 0 wd hit
      have hb2 := Lib.below_iterAt hb (k := w.heap.size) (by omega) t wd
      clear hit
      cases h1 : (r : Int) == 65533 with
      | false =>
        have Hd2 : Hid (widthZ s q = wd) := Lib.hid (Hd.out.trans (if_neg (by intro h; have : (r : Int) = 65533 := by omega
                                                                              rw [this] at h1; cases h1)))
        go_wp2
        go_roundw
        case rel => exact ⟨_, hit2, hb2, .inr ⟨rfl, Hd2.out⟩⟩
        case measure => simp only [World.iterPos, hit2, HIT.out]; omega
      | true =>
        have hr : r = 65533 := by have := beq_iff_eq.1 h1; omega
        have HR := Lib.hid hr
        clear hr
        by_cases h2 : s.size - q < 3
        · have Hd2 : Hid (widthZ s q = 0) := Lib.hid (Hd.out.trans (if_pos ⟨HR.out, .inl (by omega)⟩))
          have h2' : decide ((s.size : Int) - (q : Int) < 3) = true := decide_eq_true (by omega)
          go_wp2
          go_ret
          exact ⟨by rw [Hd2.out]; rfl, hb2⟩
        · have h2' : decide ((s.size : Int) - (q : Int) < 3) = false := decide_eq_false (by omega)
          have h3' : decide ((q : Int) + 3 ≤ (s.size : Int)) = true := decide_eq_true (by omega)
          by_cases h3 : (s.extract q (q + 3)).toList = [239, 191, 189]
          · have Hd2 : Hid (widthZ s q = wd) := Lib.hid (Hd.out.trans (if_neg (by rintro ⟨_, h | h⟩; · omega
                                                                                  · exact h h3)))
            have h3b : ((s.extract q (q + 3)).toList == [239, 191, 189]) = true := beq_iff_eq.2 h3
            have H3 := Lib.hid h3
            clear h3
            go_wp2
            go_roundw
            case rel => exact ⟨_, hit2, hb2, .inr ⟨rfl, Hd2.out⟩⟩
            case measure => simp only [World.iterPos, hit2, HIT.out]; omega
          · have Hd2 : Hid (widthZ s q = 0) := Lib.hid (Hd.out.trans (if_pos ⟨HR.out, .inr h3⟩))
            have h3b : ((s.extract q (q + 3)).toList == [239, 191, 189]) = false := beq_eq_false_iff_ne.2 h3
            have H3 := Lib.hid h3
            clear h3
            go_wp2
            go_ret
            exact ⟨by rw [Hd2.out]; rfl, hb2⟩
    · obtain rfl := h
      have He := Lib.hid he
      clear he
      by_cases hp : pos < t.size
      · have hnx : ∀ ty, (Instr.next (.pointer (some ⟨w.heap.size, 0, none⟩)) true ty).run Tryd.prog wr = _ := fun ty => Lib.run_next_any_at wr w.heap.size t pos ty hit hp
        have hb2 := Lib.below_iterAt hb (k := w.heap.size) (by omega) t (pos + (Utf8.decode t pos).2)
        have hp0 : decide (0 < pos) = true := decide_eq_true (by omega)
        have hp1 : decide (0 < (pos : Int)) = true := decide_eq_true (by omega)
        go_wp2
        go_ret
        exact ⟨by rw [He.out]; rfl, hb2⟩
      · have hnx : ∀ ty, (Instr.next (.pointer (some ⟨w.heap.size, 0, none⟩)) true ty).run Tryd.prog wr = _ := fun ty => Lib.run_next_end_at wr w.heap.size t pos ty hit hp
        go_wp2
        go_ret
        exact ⟨by rw [He.out]; show Ending.returned (Value.int .i64 ((s.size : Int) - (q : Int))) = _; have := HTS.out; congr 2; omega, hb⟩
theorem get_extract (s : ByteArray) (q k : Nat) (h : q ≤ s.size) : (s.extract q s.size).get! k = s.get! (q + k) := by
  have e : (s.extract q s.size).size = s.size - q := by rw [ByteArray.size_extract]; omega
  have e1 : (s.extract q s.size).data.size = s.size - q := e
  show (s.extract q s.size).data[k]! = s.data[q + k]!
  by_cases hk : q + k < s.size
  · have hk' : q + k < s.data.size := hk
    rw [getElem!_pos (s.extract q s.size).data k (by omega), getElem!_pos s.data (q + k) hk']
    simp [ByteArray.data_extract]
  · have hk' : ¬ q + k < s.data.size := hk
    rw [getElem!_neg (s.extract q s.size).data k (by omega), getElem!_neg s.data (q + k) hk']
theorem decode_extract (s : ByteArray) (q : Nat) (h : q ≤ s.size) : Utf8.decode (s.extract q s.size) 0 = Utf8.decode s q := by
  have e : (s.extract q s.size).size = s.size - q := by rw [ByteArray.size_extract]; omega
  have c : ∀ k, decide (0 + k < (s.extract q s.size).size) = decide (q + k < s.size) := fun k => by rw [decide_eq_decide]; omega
  have g : ∀ k, (s.extract q s.size).get! (0 + k) = s.get! (q + k) := fun k => by rw [Nat.zero_add]; exact get_extract s q k h
  unfold Utf8.decode
  simp only [c, g]

set_option maxHeartbeats 1000000 in
theorem rune_calls (s : ByteArray) (hs : s.size ≤ 9223372036854775800) (q : Nat) (hq : q < s.size) (w : World) :
    Calls Tryd.prog 85 #[.string s, .int .i64 q] w fun e w' => e = .returned (.int .i32 (if widthZ s q = 0 then -1 else ((Utf8.decode s q).1 : Int))) ∧ Below w.heap.size w w' := by
  have C : Hid (∀ W, Calls Tryd.prog 88 #[.string s, .int .i64 q] W fun e w' => e = .returned (.int .i64 (widthZ s q)) ∧ Below W.heap.size W w') := Lib.hid (fun W => width_calls s hs q W)
  rw [← decode_extract s q (by omega)]
  have ht : 0 < (s.extract q s.size).size := by rw [ByteArray.size_extract]; omega
  have ht2 : q ≤ s.size := by omega
  generalize widthZ s q = wz at C ⊢
  generalize hv : (if wz = 0 then (-1 : Int) else ((Utf8.decode (s.extract q s.size) 0).1 : Int)) = v
  have HV := Lib.hid hv
  clear hv
  cases h1 : wz == 0 with
  | true =>
    have H1 := Lib.hid (beq_iff_eq.1 h1)
    go_enter Tryd.func85, Tryd.ntmps85
    go_wp2_with (refine (C.out _).mono ?_; rintro e w1 ⟨rfl, hb⟩)
    go_ret
    exact ⟨by rw [← HV.out, if_pos H1.out]; rfl, hb⟩
  | false =>
    have H1 := Lib.hid (beq_eq_false_iff_ne.1 h1)
    go_enter Tryd.func85, Tryd.ntmps85
    go_wp2_with (refine (C.out _).mono ?_; rintro e w1 ⟨rfl, hb⟩)
    generalize s.extract q s.size = t at *
    go_loopw [] (fun wr => wr.heap[w1.heap.size]? = some (.stringIter t 0) ∧ Below w.heap.size w wr) (fun wr => 0)
    case atStart => exact ⟨World.iter_heap w1 t 0, hb.alloc hb.size _⟩
    case round =>
      obtain ⟨hit, hb1⟩ := hrel
      have hnx : ∀ ty, (Instr.next (.pointer (some ⟨w1.heap.size, 0, none⟩)) true ty).run Tryd.prog wr = _ := fun ty => Lib.run_next_any_at wr w1.heap.size t 0 ty hit ht
      have hb2 := Lib.below_iterAt hb1 (k := w1.heap.size) hb.size t (0 + (Utf8.decode t 0).2)
      rw [Nat.zero_add] at hnx hb2
      generalize ((Utf8.decode t 0).1 : Int) = R at *
      go_wp2
      go_ret
      exact ⟨by rw [← HV.out, if_neg H1.out]; rfl, hb2⟩

def refCharB (s : ByteArray) (n : Int) (p : Nat × Int) : Bool :=
  let r := if widthZ s p.1 = 0 then -1 else p.2
  !((n == 0 && !(refKindZ r == 1)) || !(refInB r))
def refNameFrom (s : ByteArray) (n : Int) (l : List (Nat × Int)) : Bool :=
  match l with
  | [] => decide (1 ≤ n) && decide (n ≤ 16)
  | p :: l => refCharB s n p && refNameFrom s (wrap64 (n + 1)) l
def refNameB (s : ByteArray) : Bool := refNameFrom s 0 (runesAt s 0)
theorem refInB_bad : refInB (-1) = false := by decide +kernel
theorem refCharB_bad (s : ByteArray) (n : Int) (p : Nat × Int) (h : widthZ s p.1 = 0) : refCharB s n p = false := by
  rw [refCharB]; simp only [if_pos h, refInB_bad]; simp
theorem widthZ_at (s : ByteArray) (q : Nat) (h : q < s.size) : widthZ s q = 0 ∨ widthZ s q = (Utf8.decode s q).2 := by
  rw [widthZ, if_neg (by omega)]
  simp only [Int.toNat_natCast, decode_extract s q (by omega)]
  split
  · exact .inl rfl
  · exact .inr rfl

set_option maxHeartbeats 2000000 in
theorem refName_calls (s : ByteArray) (hs : s.size ≤ 9223372036854775800) (w : World) :
    Calls Tryd.prog 33 #[.string s] w fun e w' => e = .returned (.bool (refNameB s)) ∧ Below w.heap.size w w' := by
  go_enter Tryd.func33, Tryd.ntmps33
  go_wp2
  go_loopw [3, 4] (fun n i wr => ∃ (pos : Nat) (k : Int), n = .int .i64 k ∧ i = .int .i64 pos ∧ pos ≤ s.size ∧ Below w.heap.size w wr ∧ refNameB s = refNameFrom s k (runesAt s pos)) (fun _ i _ => s.size - (intOf i).toNat)
  case atStart => exact ⟨0, 0, rfl, rfl, Nat.zero_le _, Below.refl _ w, rfl⟩
  case round =>
    obtain ⟨pos, k, rfl, rfl, hp, hb, he⟩ := hrel
    have He := Lib.hid he
    clear he
    by_cases hlt : pos < s.size
    · have hlt' : decide ((pos : Int) < (s.size : Int)) = true := decide_eq_true (by omega)
      have hw1 := width_pos s pos hlt
      have hfit := decode_fits s pos hlt
      have hwz := widthZ_at s pos hlt
      have Hc := Lib.hid (runesAt_cons s pos hlt)
      have CR : Hid (∀ W, Calls Tryd.prog 85 #[.string s, .int .i64 pos] W fun e w' => e = .returned (.int .i32 (if widthZ s pos = 0 then -1 else ((Utf8.decode s pos).1 : Int))) ∧ Below W.heap.size W w') := Lib.hid (fun W => rune_calls s hs pos hlt W)
      have CW : Hid (∀ W, Calls Tryd.prog 88 #[.string s, .int .i64 pos] W fun e w' => e = .returned (.int .i64 (widthZ s pos)) ∧ Below W.heap.size W w') := Lib.hid (fun W => width_calls s hs pos W)
      have EC : Hid (refCharB s k (pos, ((Utf8.decode s pos).1 : Int)) = !((k == 0 && !(refKindZ (if widthZ s pos = 0 then -1 else ((Utf8.decode s pos).1 : Int)) == 1)) || !(refInB (if widthZ s pos = 0 then -1 else ((Utf8.decode s pos).1 : Int))))) := Lib.hid rfl
      have EB : Hid (widthZ s pos = 0 → refCharB s k (pos, ((Utf8.decode s pos).1 : Int)) = false) := Lib.hid (fun h => refCharB_bad s k _ h)
      have EN : Hid (refNameB s = (refCharB s k (pos, ((Utf8.decode s pos).1 : Int)) && refNameFrom s (wrap64 (k + 1)) (runesAt s (pos + (Utf8.decode s pos).2)))) := Lib.hid (by rw [He.out, Hc.out]; rfl)
      generalize refCharB s k (pos, ((Utf8.decode s pos).1 : Int)) = cb at EC EB EN
      generalize (if widthZ s pos = 0 then -1 else ((Utf8.decode s pos).1 : Int)) = r at CR EC
      generalize (Utf8.decode s pos).2 = wd at *
      generalize widthZ s pos = wz at *
      have CK : Hid (∀ W, Calls Tryd.prog 86 #[.int .i32 r] W fun e w' => e = .returned (.int .i64 (refKindZ r)) ∧ Below W.heap.size W w') := Lib.hid (fun W => refKind_calls r W)
      have CI : Hid (∀ W, Calls Tryd.prog 87 #[.int .i32 r] W fun e w' => e = .returned (.bool (refInB r)) ∧ Below W.heap.size W w') := Lib.hid (fun W => behind_calls r W)
      generalize refKindZ r = kz at CK EC
      generalize refInB r = ib at CI EC
      clear Hc He
      cases h0 : cb with
      | false =>
        subst h0
        have EN2 : Hid (refNameB s = false) := Lib.hid (by rw [EN.out]; rfl)
        cases h1 : k == 0 <;> cases h2 : kz == 1 <;> cases h3 : ib
        all_goals
          have h2' : (kz != 1) = !(kz == 1) := rfl
          rw [h2] at h2'
          rw [h1, h2, h3] at EC
          first
            | exact absurd EC.out (by decide)
            | (subst h3
               clear EC h2
               go_wp2_with (first | ((with_reducible refine (CR.out _).mono ?_); rintro e w1 ⟨rfl, hk⟩; replace hb := below_then hb hb.size hk; clear hk) | ((with_reducible refine (CK.out _).mono ?_); rintro e w1 ⟨rfl, hk⟩; replace hb := below_then hb hb.size hk; clear hk) | ((with_reducible refine (CI.out _).mono ?_); rintro e w1 ⟨rfl, hk⟩; replace hb := below_then hb hb.size hk; clear hk))
               go_ret
               exact ⟨by rw [EN2.out]; rfl, hb⟩)
      | true =>
        subst h0
        have hwz2 : wz = wd := hwz.resolve_left (fun h => by have := EB.out h; cases this)
        subst hwz2
        have EN2 : Hid (refNameB s = refNameFrom s (wrap64 (k + 1)) (runesAt s (pos + wd))) := Lib.hid (by rw [EN.out]; rfl)
        clear hwz EN EB
        cases h1 : k == 0 <;> cases h2 : kz == 1 <;> cases h3 : ib
        all_goals
          have h2' : (kz != 1) = !(kz == 1) := rfl
          rw [h2] at h2'
          rw [h1, h2, h3] at EC
          first
            | exact absurd EC.out (by decide)
            | (subst h3
               clear EC h2
               go_wp2_with (first | ((with_reducible refine (CR.out _).mono ?_); rintro e w1 ⟨rfl, hk⟩; replace hb := below_then hb hb.size hk; clear hk) | ((with_reducible refine (CK.out _).mono ?_); rintro e w1 ⟨rfl, hk⟩; replace hb := below_then hb hb.size hk; clear hk) | ((with_reducible refine (CI.out _).mono ?_); rintro e w1 ⟨rfl, hk⟩; replace hb := below_then hb hb.size hk; clear hk) | ((with_reducible refine (CW.out _).mono ?_); rintro e w1 ⟨rfl, hk⟩; replace hb := below_then hb hb.size hk; clear hk))
               go_roundw
               case rel => exact ⟨pos + wd, wrap64 (k + 1), by go_num, by go_num, by omega, hb, by rw [EN2.out]⟩
               case measure => simp [intOf]; omega)
    · have hlt' : decide ((pos : Int) < (s.size : Int)) = false := decide_eq_false (by omega)
      have He2 : Hid (refNameB s = (decide (1 ≤ k) && decide (k ≤ 16))) := Lib.hid (by rw [He.out, runesAt_end s pos hlt]; rfl)
      by_cases h1 : 1 ≤ k <;> by_cases h2 : k ≤ 16 <;>
      · go_wp2
        go_ret
        exact ⟨by rw [He2.out]; simp [h1, h2], hb⟩
end Go.Proofs.YtacjjfoelhckcaaDoor
