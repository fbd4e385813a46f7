/- CsrPlays: what the two files' sums on words come to. -/
import Derived.Test.YtcaohimipkoapaaCsrPlaysOrc
namespace Go.Proofs.Ytcaohimipkoapaa.Ab.CP
open Go Go.RowKit
set_option linter.unusedVariables false
set_option linter.unusedSimpArgs false
theorem wrap_nat (w : BitVec 32) : IntKind.u32.wrap (w.toNat : Int) = (w.toNat : Int) := by
  rw [IntKind.wrap_u32]; have := w.isLt; omega
theorem and_w (x y : Int) : bits .and .u32 x y = ((BitVec.ofInt 32 x &&& BitVec.ofInt 32 y).toNat : Int) := wrap_nat (BitVec.ofInt 32 x &&& BitVec.ofInt 32 y)
theorem andNot_w (x y : Int) : bits .andNot .u32 x y = ((BitVec.ofInt 32 x &&& ~~~ BitVec.ofInt 32 y).toNat : Int) := wrap_nat (BitVec.ofInt 32 x &&& ~~~ BitVec.ofInt 32 y)
theorem bit7 (w : BitVec 32) : w &&& BitVec.ofInt 32 128 = 0#32 ∨ w &&& BitVec.ofInt 32 128 = 128#32 := by
  rw [show BitVec.ofInt 32 128 = BitVec.twoPow 32 7 by decide, BitVec.and_twoPow]
  cases w.getLsbD 7
  · exact .inl (by decide)
  · exact .inr (by decide)
theorem bit3 (w : BitVec 32) : w &&& BitVec.ofInt 32 8 = 0#32 ∨ w &&& BitVec.ofInt 32 8 = 8#32 := by
  rw [show BitVec.ofInt 32 8 = BitVec.twoPow 32 3 by decide, BitVec.and_twoPow]
  cases w.getLsbD 3
  · exact .inl (by decide)
  · exact .inr (by decide)
/-- What a return keeps of the status. -/
theorem ret_bits (v : Int) : (bits .and .u32 v 128 != 0) = true ∧ bits .or .u32 ((bits .and .u32 v 128).fdiv 16) 128 = 136 ∨ (bits .and .u32 v 128 != 0) = false ∧ bits .or .u32 ((bits .and .u32 v 128).fdiv 16) 128 = 128 := by
  rw [and_w]
  rcases bit7 (BitVec.ofInt 32 v) with h | h <;> rw [h]
  · exact .inr (by decide)
  · exact .inl (by decide)
/-- What a trap keeps of the status. -/
theorem trap_bits (v : Int) : (bits .and .u32 v 8 != 0) = true ∧ bits .or .u32 (IntKind.u32.wrap (bits .and .u32 v 8 * 16)) 6144 = 6272 ∧ bits .or .u32 (IntKind.u32.wrap (bits .and .u32 v 8 * 16)) 0 = 128 ∨
    (bits .and .u32 v 8 != 0) = false ∧ bits .or .u32 (IntKind.u32.wrap (bits .and .u32 v 8 * 16)) 6144 = 6144 ∧ bits .or .u32 (IntKind.u32.wrap (bits .and .u32 v 8 * 16)) 0 = 0 := by
  rw [and_w]
  rcases bit3 (BitVec.ofInt 32 v) with h | h <;> rw [h]
  · exact .inr (by decide)
  · exact .inl (by decide)
theorem aligned (v : Int) : bits .and .u32 v 4294967292 = bits .andNot .u32 v 3 := by
  rw [and_w, andNot_w]; rfl
theorem low2 (v : Int) : BitVec.ofInt 32 (v.fdiv 2048) &&& BitVec.ofInt 32 3 = (BitVec.ofInt 32 v >>> 11) &&& BitVec.ofInt 32 3 := by
  apply BitVec.eq_of_toNat_eq
  rw [BitVec.toNat_and, BitVec.toNat_and, show (BitVec.ofInt 32 3).toNat = 2 ^ 2 - 1 by decide, Nat.and_two_pow_sub_one_eq_mod, Nat.and_two_pow_sub_one_eq_mod, BitVec.toNat_ushiftRight, Nat.shiftRight_eq_div_pow, BitVec.toNat_ofInt, BitVec.toNat_ofInt,
    Int.fdiv_eq_ediv_of_nonneg _ (by decide)]
  omega
/-- The mode before, told by two bits or by a mask. -/
theorem top (v : Int) : (bits .and .u32 (v.fdiv 2048) 3 == 3) = (bits .and .u32 v 6144 == 6144) := by
  rw [and_w, and_w, low2]
  generalize BitVec.ofInt 32 v = w
  have e1 : w &&& BitVec.ofInt 32 6144 = (if w.getLsbD 11 = true then BitVec.twoPow 32 11 else 0#32) ||| (if w.getLsbD 12 = true then BitVec.twoPow 32 12 else 0#32) := by
    rw [show BitVec.ofInt 32 6144 = BitVec.twoPow 32 11 ||| BitVec.twoPow 32 12 by decide, BitVec.and_or_distrib_left, BitVec.and_twoPow, BitVec.and_twoPow]
  have e2 : (w >>> 11) &&& BitVec.ofInt 32 3 = (if w.getLsbD 11 = true then BitVec.twoPow 32 0 else 0#32) ||| (if w.getLsbD 12 = true then BitVec.twoPow 32 1 else 0#32) := by
    rw [show BitVec.ofInt 32 3 = BitVec.twoPow 32 0 ||| BitVec.twoPow 32 1 by decide, BitVec.and_or_distrib_left, BitVec.and_twoPow, BitVec.and_twoPow, BitVec.getLsbD_ushiftRight, BitVec.getLsbD_ushiftRight]
  rw [e1, e2]
  cases w.getLsbD 11 <;> cases w.getLsbD 12 <;> decide
theorem top' (v : Int) : (bits .and .u32 (v.fdiv 2048) 3 != 3) = !(bits .and .u32 v 6144 == 6144) := by
  rw [← top]; rfl
theorem ne_not (a b : Int) : (a != b) = !(a == b) := rfl
end Go.Proofs.Ytcaohimipkoapaa.Ab.CP
