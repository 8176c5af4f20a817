/- Plain laws: a name is told by its characters. -/
import Derived.Test.YtacjjfoelhckcaaDoorM4
namespace Go.Proofs.YtacjjfoelhckcaaDoor

def wd (c : Nat) : Nat := if c < 128 then 1 else if c < 2048 then 2 else if c < 65536 then 3 else 4
theorem wd_le (c : Nat) : wd c ≤ 4 := by
  unfold wd
  split
  · omega
  · split
    · omega
    · split <;> omega
def byteOf (c k : Nat) : Nat :=
  if c < 128 then c
  else if c < 2048 then (if k = 0 then 192 + c / 64 else 128 + c % 64)
  else if c < 65536 then (if k = 0 then 224 + c / 4096 else if k = 1 then 128 + c / 64 % 64 else 128 + c % 64)
  else (if k = 0 then 240 + c / 262144 else if k = 1 then 128 + c / 4096 % 64 else if k = 2 then 128 + c / 64 % 64 else 128 + c % 64)
theorem dec_bytes (s : ByteArray) (i c w : Nat) (h : Utf8.decode s i = (c, w)) (hne : c ≠ 65533) :
    w = wd c ∧ (s.get! (i + 0)).toNat = byteOf c 0 ∧ (2 ≤ w → (s.get! (i + 1)).toNat = byteOf c 1) ∧ (3 ≤ w → (s.get! (i + 2)).toNat = byteOf c 2) ∧ (4 ≤ w → (s.get! (i + 3)).toNat = byteOf c 3) := by
  unfold Utf8.decode at h
  dsimp only at h
  have h0 : (s.get! (i + 0)).toNat < 256 := UInt8.toNat_lt _
  have h1 : (s.get! (i + 1)).toNat < 256 := UInt8.toNat_lt _
  have h2 : (s.get! (i + 2)).toNat < 256 := UInt8.toNat_lt _
  have h3 : (s.get! (i + 3)).toNat < 256 := UInt8.toNat_lt _
  have bad : ∀ {p : Prop}, (Utf8.runeError, 1) = (c, w) → p := by
    intro p e
    exact absurd (Prod.mk.inj e).1.symm hne
  split at h
  · rename_i hb
    obtain ⟨rfl, rfl⟩ := Prod.mk.inj h
    have e : wd (s.get! (i + 0)).toNat = 1 := if_pos hb
    have e0 : byteOf (s.get! (i + 0)).toNat 0 = (s.get! (i + 0)).toNat := if_pos hb
    exact ⟨e.symm, e0.symm, fun h => absurd h (by omega), fun h => absurd h (by omega), fun h => absurd h (by omega)⟩
  · split at h
    · rename_i hb hc
      simp only [Bool.and_eq_true, beq_iff_eq, decide_eq_true_eq] at hc
      split at h
      · obtain ⟨rfl, rfl⟩ := Prod.mk.inj h
        rename_i hge
        refine ⟨?_, ?_, fun _ => ?_, fun h => absurd h (by omega), fun h => absurd h (by omega)⟩
        · rw [wd, if_neg (by omega), if_pos (by omega)]
        · rw [byteOf, if_neg (by omega), if_pos (by omega), if_pos rfl]; omega
        · rw [byteOf, if_neg (by omega), if_pos (by omega), if_neg (by omega)]; omega
      · exact bad h
    · split at h
      · rename_i hb hc0 hc
        simp only [Bool.and_eq_true, beq_iff_eq, decide_eq_true_eq] at hc
        split at h
        · obtain ⟨rfl, rfl⟩ := Prod.mk.inj h
          rename_i hge
          simp only [Bool.and_eq_true, decide_eq_true_eq] at hge
          have hge := hge.1
          refine ⟨?_, ?_, fun _ => ?_, fun _ => ?_, fun h => absurd h (by omega)⟩
          · rw [wd, if_neg (by omega), if_neg (by omega), if_pos (by omega)]
          · rw [byteOf, if_neg (by omega), if_neg (by omega), if_pos (by omega), if_pos rfl]; omega
          · rw [byteOf, if_neg (by omega), if_neg (by omega), if_pos (by omega), if_neg (by omega), if_pos rfl]; omega
          · rw [byteOf, if_neg (by omega), if_neg (by omega), if_pos (by omega), if_neg (by omega), if_neg (by omega)]; omega
        · exact bad h
      · split at h
        · rename_i hb hc0 hc1 hc
          simp only [Bool.and_eq_true, beq_iff_eq, decide_eq_true_eq] at hc
          split at h
          · obtain ⟨rfl, rfl⟩ := Prod.mk.inj h
            rename_i hge
            simp only [Bool.and_eq_true, decide_eq_true_eq] at hge
            have hge := hge.1
            refine ⟨?_, ?_, fun _ => ?_, fun _ => ?_, fun _ => ?_⟩
            · rw [wd, if_neg (by omega), if_neg (by omega), if_neg (by omega)]
            · rw [byteOf, if_neg (by omega), if_neg (by omega), if_neg (by omega), if_pos rfl]; omega
            · rw [byteOf, if_neg (by omega), if_neg (by omega), if_neg (by omega), if_neg (by omega), if_pos rfl]; omega
            · rw [byteOf, if_neg (by omega), if_neg (by omega), if_neg (by omega), if_neg (by omega), if_neg (by omega), if_pos rfl]; omega
            · rw [byteOf, if_neg (by omega), if_neg (by omega), if_neg (by omega), if_neg (by omega), if_neg (by omega), if_neg (by omega)]; omega
          · exact bad h
        · exact bad h
def runesL (s : ByteArray) : List Int := (runesAt s 0).map (·.2)
theorem inB_err : inB 65533 = false := by decide +kernel
theorem nameFrom_in (s : ByteArray) : ∀ (l : List (Nat × Int)) (n : Int), nameFrom s n l = true → ∀ p ∈ l, inB p.2 = true
  | [], _, _, p, hp => by cases hp
  | q :: l, n, h, p, hp => by
    rw [nameFrom, Bool.and_eq_true] at h
    rcases List.mem_cons.1 hp with rfl | hp
    · have := h.1
      unfold charB at this
      revert this
      cases inB p.2 <;> simp
    · exact nameFrom_in s l _ h.2 p hp
theorem get_data (s : ByteArray) (j : Nat) (h : j < s.size) : s.get! j = s.data[j]'h := by
  show (s.data)[j]! = _
  exact getElem!_pos s.data j h
theorem same_from (s t : ByteArray) : ∀ (n pos : Nat), s.size - pos ≤ n → pos ≤ s.size → pos ≤ t.size → (∀ p ∈ runesAt s pos, p.2 ≠ 65533) → (runesAt s pos).map (·.2) = (runesAt t pos).map (·.2) →
    s.size = t.size ∧ ∀ j, pos ≤ j → j < s.size → s.get! j = t.get! j := by
  intro n
  induction n with
  | zero =>
    intro pos h1 h2 h2' h3 h4
    rw [runesAt_end s pos (by omega)] at h4
    by_cases ht : pos < t.size
    · rw [runesAt_cons t pos ht] at h4; cases h4
    · exact ⟨by omega, fun j _ _ => by omega⟩
  | succ n ih =>
    intro pos h1 h2 h2' h3 h4
    by_cases hs : pos < s.size
    · by_cases ht : pos < t.size
      · rw [runesAt_cons s pos hs] at h3
        rw [runesAt_cons s pos hs, runesAt_cons t pos ht, List.map_cons, List.map_cons, List.cons.injEq] at h4
        obtain ⟨e1, e2⟩ := h4
        have hne := h3 _ (List.mem_cons_self ..)
        dsimp only at e1 hne
        have e1' : (Utf8.decode s pos).1 = (Utf8.decode t pos).1 := by omega
        have g1 : (Utf8.decode s pos).1 ≠ 65533 := by omega
        have g2 : (Utf8.decode t pos).1 ≠ 65533 := by omega
        obtain ⟨a1, a2, a3, a4, a5⟩ := dec_bytes s pos (Utf8.decode s pos).1 (Utf8.decode s pos).2 rfl g1
        obtain ⟨b1, b2, b3, b4, b5⟩ := dec_bytes t pos (Utf8.decode t pos).1 (Utf8.decode t pos).2 rfl g2
        rw [← e1'] at b1 b2 b3 b4 b5
        have ew : (Utf8.decode s pos).2 = (Utf8.decode t pos).2 := by rw [a1, b1]
        have f1 := decode_fits s pos hs
        have f2 := decode_fits t pos ht
        have hw := width_pos s pos hs
        rw [← ew] at e2 f2 b3 b4 b5
        obtain ⟨r1, r2⟩ := ih (pos + (Utf8.decode s pos).2) (by omega) f1 f2 (fun p hp => h3 p (List.mem_cons_of_mem _ hp)) e2
        refine ⟨r1, fun j hj1 hj2 => ?_⟩
        have hw4 : (Utf8.decode s pos).2 ≤ 4 := by rw [a1]; exact wd_le _
        by_cases hj : pos + (Utf8.decode s pos).2 ≤ j
        · exact r2 j hj hj2
        · have hj4 : j = pos + 0 ∨ (j = pos + 1 ∧ 2 ≤ (Utf8.decode s pos).2) ∨ (j = pos + 2 ∧ 3 ≤ (Utf8.decode s pos).2) ∨ (j = pos + 3 ∧ 4 ≤ (Utf8.decode s pos).2) := by omega
          apply UInt8.toNat_inj.1
          rcases hj4 with rfl | ⟨rfl, hk⟩ | ⟨rfl, hk⟩ | ⟨rfl, hk⟩
          · exact a2.trans b2.symm
          · rw [a3 hk, b3 hk]
          · rw [a4 hk, b4 hk]
          · rw [a5 hk, b5 hk]
      · rw [runesAt_cons s pos hs, runesAt_end t pos ht] at h4; cases h4
    · rw [runesAt_end s pos hs] at h4
      by_cases ht : pos < t.size
      · rw [runesAt_cons t pos ht] at h4; cases h4
      · exact ⟨by omega, fun j _ _ => by omega⟩
theorem bytes_ext {s t : ByteArray} (h : s.size = t.size) (h2 : ∀ j, j < s.size → s.get! j = t.get! j) : s = t := by
  cases s with
  | mk a =>
    cases t with
    | mk b =>
      congr 1
      refine Array.ext h fun j h1 h3 => ?_
      have := h2 j h1
      rw [get_data _ j h1, get_data _ j h3] at this
      exact this
theorem runesL_inj {s t : ByteArray} (hs : nameB s = true) (h : runesL s = runesL t) : s = t := by
  have hin := nameFrom_in s _ _ hs
  obtain ⟨h1, h2⟩ := same_from s t s.size 0 (by omega) (by omega) (by omega) (fun p hp e => by have := hin p hp; rw [e, inB_err] at this; cases this) h
  exact bytes_ext h1 fun j hj => h2 j (by omega) hj
end Go.Proofs.YtacjjfoelhckcaaDoor
