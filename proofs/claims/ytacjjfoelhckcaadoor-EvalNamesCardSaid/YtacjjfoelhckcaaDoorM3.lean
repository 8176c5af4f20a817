/- Plain laws of whole numbers of 64 bits: masks, complements, shifts one step at a time, long division. -/
import Derived.Test.YtacjjfoelhckcaaDoorM2
import Derived.Test.YtacjjfoelhckcaaDoorWMore
import Derived.Laws.BitsLemmas
namespace Go.Proofs.YtacjjfoelhckcaaDoor
open Go.RowKit Go.Proofs.YtacjjfoelhckcaaDoorW.PrintWords Go.Proofs.YtacjjfoelhckcaaDoorW.PrintMore

/-- In the range of 64 bits. -/
def inI (n : Int) : Prop := -9223372036854775808 ≤ n ∧ n ≤ 9223372036854775807
theorem i64_wrap (n : Int) : IntKind.i64.wrap n = wrap64 n := by rw [IntKind.wrap_i64, wrap64]
theorem u64_wrap (n : Int) : IntKind.u64.wrap n = n % 18446744073709551616 := by simp [IntKind.wrap, IntKind.bits, IntKind.signed]
theorem w64_in (n : Int) : inI (wrap64 n) := by unfold inI wrap64; omega
theorem and63 (a : Int) : bits .and .i64 a 63 = a % 64 := by
  have h : (BitVec.ofInt 64 a &&& BitVec.ofInt 64 63).toNat = (a % 18446744073709551616).toNat % 64 := by
    rw [BitVec.toNat_and, BitVec.toNat_ofInt, BitVec.toNat_ofInt]
    show ((a % 18446744073709551616).toNat &&& (2 ^ 6 - 1)) = _
    rw [Nat.and_two_pow_sub_one_eq_mod]
  show IntKind.i64.wrap ((BitVec.ofInt 64 a &&& BitVec.ofInt 64 63).toNat : Int) = _
  rw [h, i64_wrap, w64 _ (by omega)]
  omega
theorem uand63 (a : Int) : bits .and .u64 (IntKind.u64.wrap a) 63 = a % 64 := by
  have h := bits_mask .u64 64 (by decide) (fun n h0 h1 => by rw [u64_wrap]; omega) 6 (by decide) (IntKind.u64.wrap a) (by rw [u64_wrap]; omega) (by rw [u64_wrap]; omega)
  have e : ((2 : Int) ^ 6 - 1) = 63 := by decide
  rw [e] at h
  rw [h, u64_wrap]
  omega
theorem xorAll (a : Int) : bits .xor .i64 (-1) a = wrap64 (-1 - a) := by
  have h1 : BitVec.ofInt 64 (-1) = BitVec.allOnes 64 := by decide
  have h : ((BitVec.ofInt 64 (-1) ^^^ BitVec.ofInt 64 a).toNat : Int) = 18446744073709551615 - a % 18446744073709551616 := by
    rw [h1, BitVec.allOnes_xor, BitVec.toNat_not, BitVec.toNat_ofInt]
    show (((18446744073709551616 - 1 - (a % 18446744073709551616).toNat) : Nat) : Int) = _
    omega
  show IntKind.i64.wrap ((BitVec.ofInt 64 (-1) ^^^ BitVec.ofInt 64 a).toNat : Int) = _
  rw [h, i64_wrap]
  unfold wrap64
  omega
theorem bits_in (op : BinOp) (a b : Int) : inI (bits op .i64 a b) := by
  unfold bits
  rw [i64_wrap]
  exact w64_in _
theorem pow_pos2 (n : Nat) : (0 : Int) < 2 ^ n := Int.pow_pos (by decide)
/-! ### shifts, one step at a time -/
theorem wrap_double (x : Int) (n : Nat) : wrap64 (wrap64 (x + x) * 2 ^ n) = wrap64 (x * 2 ^ (n + 1)) := by
  have e : x * 2 ^ (n + 1) = (x + x) * 2 ^ n := by rw [Int.pow_succ, Int.mul_comm (2 ^ n) 2, ← Int.mul_assoc]; congr 1; omega
  rw [e]
  obtain ⟨q, hq⟩ : ∃ q, wrap64 (x + x) = (x + x) - 18446744073709551616 * q := ⟨(x + x + 9223372036854775808) / 18446744073709551616, by unfold wrap64; omega⟩
  rw [hq, Int.sub_mul, Int.mul_assoc]
  generalize (x + x) * 2 ^ n = y
  generalize q * 2 ^ n = z
  unfold wrap64
  omega
theorem tmod_le0 (x b : Int) (h : x ≤ 0) : Int.tmod x b ≤ 0 := by
  have e := Int.neg_tmod (a := -x) (b := b)
  rw [Int.neg_neg] at e
  have := Int.tmod_nonneg b (show 0 ≤ -x by omega)
  omega
theorem half (x : Int) (hx : inI x) : (if Int.tmod x 2 = -1 then wrap64 (Int.tdiv (wrap64 (x - 1)) 2) else wrap64 (Int.tdiv x 2)) = x / 2 := by
  unfold inI at hx
  have hm := Int.tmod_add_mul_tdiv x 2
  have h0 : 0 ≤ x → 0 ≤ Int.tmod x 2 := fun h => Int.tmod_nonneg 2 h
  have h1 : Int.tmod x 2 < 2 := Int.tmod_lt_of_pos x (by decide)
  have h2 : -2 < Int.tmod x 2 := by
    have := Int.lt_tmod_of_pos x (show (0 : Int) < 2 by decide)
    omega
  have h3 : x ≤ 0 → Int.tmod x 2 ≤ 0 := fun h => tmod_le0 _ _ h
  split
  · rename_i hc
    have hxm : -9223372036854775808 < x := by
      by_cases he : x = -9223372036854775808
      · subst he; exact absurd hc (by decide)
      · omega
    rw [w64 (x - 1) (by omega)]
    have hm' := Int.tmod_add_mul_tdiv (x - 1) 2
    have g3 : x - 1 ≤ 0 → Int.tmod (x - 1) 2 ≤ 0 := fun h => tmod_le0 _ _ h
    have g1 := Int.tmod_lt_of_pos (x - 1) (show (0 : Int) < 2 by decide)
    have g2 := Int.lt_tmod_of_pos (x - 1) (show (0 : Int) < 2 by decide)
    rw [w64 _ (by omega)]
    omega
  · rw [w64 _ (by omega)]
    omega
theorem halves (x : Int) (n : Nat) : x / 2 / 2 ^ n = x / 2 ^ (n + 1) := by
  rw [Int.ediv_ediv_of_nonneg (by decide), Int.pow_succ, Int.mul_comm]
/-! ### long division -/
theorem bit_at (x : Int) (i : Nat) : x / 2 ^ i = 2 * (x / 2 ^ (i + 1)) + x / 2 ^ i % 2 := by
  have h : x / 2 ^ (i + 1) = x / 2 ^ i / 2 := by
    rw [Int.ediv_ediv_of_nonneg (Int.le_of_lt (pow_pos2 i)), Int.pow_succ]
  rw [h]
  omega
theorem div_unique {x y q r : Int} (h : x = y * q + r) (h0 : 0 ≤ r) (h1 : r < y) : q = x / y ∧ r = x % y := by
  have hy : 0 < y := by omega
  constructor
  · rw [h, Int.mul_add_ediv_left _ _ (by omega), Int.ediv_eq_zero_of_lt h0 h1]; omega
  · rw [h, Int.mul_add_emod_self_left, Int.emod_eq_of_lt h0 h1]
end Go.Proofs.YtacjjfoelhckcaaDoor
