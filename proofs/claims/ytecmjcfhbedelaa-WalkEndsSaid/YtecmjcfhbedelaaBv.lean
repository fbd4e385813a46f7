/- Words of 32 bits as bit vectors, for the printed functions' whole numbers: each operation on u32, told as one on BitVec 32. -/
import Derived.Test.YtecmjcfhbedelaaWMore
import Derived.Laws.BitsLemmas
namespace Go.Proofs.Ytecmjcfhbedelaa.Bv
open Go.RowKit Go.Proofs.YtecmjcfhbedelaaW.PrintWords Go.Proofs.YtecmjcfhbedelaaW.PrintLast Go.Proofs.YtecmjcfhbedelaaW.PrintMore
def U (w : BitVec 32) : Int := (w.toNat : Int)
theorem U_nonneg (w : BitVec 32) : 0 ≤ U w := Int.natCast_nonneg _
theorem U_lt (w : BitVec 32) : U w < 4294967296 := by have := w.isLt; unfold U; omega
theorem U_of {x : Int} (h0 : 0 ≤ x) (h1 : x < 4294967296) : ∃ w : BitVec 32, x = U w :=
  ⟨BitVec.ofInt 32 x, by unfold U; rw [BitVec.toNat_ofInt]; omega⟩
theorem wf_u32 {x : Int} (h : (Lit.int .u32 x).wf = true) : ∃ w : BitVec 32, x = U w := by
  have : 0 ≤ x ∧ x ≤ 4294967295 := by
    simpa [Lit.wf, IntKind.min, IntKind.max, IntKind.bits, IntKind.signed] using h
  exact U_of this.1 (by omega)
theorem wf_i64 {x : Int} (h : (Lit.int .i64 x).wf = true) : -9223372036854775808 ≤ x ∧ x ≤ 9223372036854775807 := by
  simpa [Lit.wf, IntKind.min, IntKind.max, IntKind.bits, IntKind.signed] using h
theorem ofInt_U (w : BitVec 32) : BitVec.ofInt 32 (U w) = w := by
  apply BitVec.eq_of_toNat_eq; rw [BitVec.toNat_ofInt]; have := w.isLt; unfold U; omega
theorem U_inj (a b : BitVec 32) : U a = U b ↔ a = b := ⟨fun h => by rw [← ofInt_U a, h, ofInt_U], fun h => by rw [h]⟩
theorem wrap_U (x : Int) : IntKind.u32.wrap x = U (BitVec.ofInt 32 x) := by
  rw [IntKind.wrap_u32]; unfold U; rw [BitVec.toNat_ofInt]; omega
theorem wrapU (w : BitVec 32) : IntKind.u32.wrap (U w) = U w := by rw [wrap_U, ofInt_U]
theorem mod_U (x : Int) : x % 4294967296 = U (BitVec.ofInt 32 x) := by
  unfold U; rw [BitVec.toNat_ofInt]; omega
theorem and_U (x y : Int) : bits .and .u32 x y = U (BitVec.ofInt 32 x &&& BitVec.ofInt 32 y) :=
  wrapU (BitVec.ofInt 32 x &&& BitVec.ofInt 32 y)
theorem or_U (x y : Int) : bits .or .u32 x y = U (BitVec.ofInt 32 x ||| BitVec.ofInt 32 y) :=
  wrapU (BitVec.ofInt 32 x ||| BitVec.ofInt 32 y)
theorem xor_U (x y : Int) : bits .xor .u32 x y = U (BitVec.ofInt 32 x ^^^ BitVec.ofInt 32 y) :=
  wrapU (BitVec.ofInt 32 x ^^^ BitVec.ofInt 32 y)
theorem andNot_U (x y : Int) : bits .andNot .u32 x y = U (BitVec.ofInt 32 x &&& ~~~ BitVec.ofInt 32 y) :=
  wrapU (BitVec.ofInt 32 x &&& ~~~ BitVec.ofInt 32 y)
theorem lt_U (a b : BitVec 32) : U a < U b ↔ a < b := by unfold U; rw [BitVec.lt_def]; omega
theorem le_U (a b : BitVec 32) : U a ≤ U b ↔ a ≤ b := by unfold U; rw [BitVec.le_def]; omega
theorem div_U (a : BitVec 32) (n : Nat) : U a / ((2 : Int) ^ n) = U (a >>> n) := by
  unfold U; rw [BitVec.toNat_ushiftRight, Nat.shiftRight_eq_div_pow]; simp
theorem mul_pow (x : Int) (n : Nat) : BitVec.ofInt 32 (x * (2 : Int) ^ n) = BitVec.ofInt 32 x <<< n := by
  rw [BitVec.ofInt_mul, BitVec.shiftLeft_eq_mul_twoPow]
  congr 1
  apply BitVec.eq_of_toNat_eq
  rw [BitVec.toNat_ofInt, BitVec.toNat_twoPow]
  have : ((2 : Int) ^ n) = ((2 ^ n : Nat) : Int) := by simp
  rw [this]; omega
theorem shl_U (x y : Int) : shl .u32 x y = U (BitVec.ofInt 32 x <<< y.toNat) := by
  unfold shl
  rw [wrap_U, mul_pow]
  show U (BitVec.ofInt 32 x <<< min y.toNat 32) = _
  by_cases h : y.toNat ≤ 32
  · rw [Nat.min_eq_left h]
  · rw [Nat.min_eq_right (by omega), BitVec.shiftLeft_eq_zero (Nat.le_refl _), BitVec.shiftLeft_eq_zero (by omega)]
theorem shr_U (w : BitVec 32) (y : Int) : shr .u32 (U w) y = U (w >>> y.toNat) := by
  unfold shr
  rw [div_U]
  show U (w >>> min y.toNat 32) = _
  by_cases h : y.toNat ≤ 32
  · rw [Nat.min_eq_left h]
  · rw [Nat.min_eq_right (by omega), BitVec.ushiftRight_eq_zero (Nat.le_refl _), BitVec.ushiftRight_eq_zero (by omega)]
/-- A word's number with its sign. -/
theorem wrap32_U (w : BitVec 32) : wrap32 (U w) = w.toInt := by
  unfold wrap32 U; rw [BitVec.toInt_eq_toNat_cond]; have := w.isLt; split <;> omega
theorem ofInt_wrap32 (x : Int) : BitVec.ofInt 32 (wrap32 x) = BitVec.ofInt 32 x := by
  apply BitVec.eq_of_toNat_eq; rw [BitVec.toNat_ofInt, BitVec.toNat_ofInt]; unfold wrap32; omega
theorem sar_U (w : BitVec 32) (y : Int) (h : y ≤ 32) : shr .i32 (w.toInt) y % 4294967296 = U (w.sshiftRight y.toNat) := by
  rw [mod_U]; congr 1
  unfold shr
  have : min y.toNat IntKind.i32.bits = y.toNat := by show min y.toNat 32 = _; omega
  have hp : ((2 : Int) ^ y.toNat) = ((2 ^ y.toNat : Nat) : Int) := by simp
  rw [this, hp, ← Int.shiftRight_eq_div_pow, ← BitVec.toInt_sshiftRight, BitVec.ofInt_toInt]
theorem and31 (x : Int) : bits .and .i64 x 31 = x % 32 := by
  have hx : bits .and .i64 x 31 = IntKind.i64.wrap ((BitVec.ofInt 64 x &&& BitVec.ofInt 64 31).toNat : Int) := rfl
  rw [hx, IntKind.wrap_i64, BitVec.toNat_and, BitVec.toNat_ofInt, BitVec.toNat_ofInt]
  have h31 : ((31 : Int) % ((2 ^ 64 : Nat) : Int)).toNat = 2 ^ 5 - 1 := by decide
  rw [h31, Nat.and_two_pow_sub_one_eq_mod]; omega
theorem and15 (x : Int) : bits .and .i64 x 15 = x % 16 := by
  have hx : bits .and .i64 x 15 = IntKind.i64.wrap ((BitVec.ofInt 64 x &&& BitVec.ofInt 64 15).toNat : Int) := rfl
  rw [hx, IntKind.wrap_i64, BitVec.toNat_and, BitVec.toNat_ofInt, BitVec.toNat_ofInt]
  have h31 : ((15 : Int) % ((2 ^ 64 : Nat) : Int)).toNat = 2 ^ 4 - 1 := by decide
  rw [h31, Nat.and_two_pow_sub_one_eq_mod]; omega
theorem and7 (x : Int) : bits .and .i64 x 7 = x % 8 := by
  have hx : bits .and .i64 x 7 = IntKind.i64.wrap ((BitVec.ofInt 64 x &&& BitVec.ofInt 64 7).toNat : Int) := rfl
  rw [hx, IntKind.wrap_i64, BitVec.toNat_and, BitVec.toNat_ofInt, BitVec.toNat_ofInt]
  have h31 : ((7 : Int) % ((2 ^ 64 : Nat) : Int)).toNat = 2 ^ 3 - 1 := by decide
  rw [h31, Nat.and_two_pow_sub_one_eq_mod]; omega
theorem ofInt_sub (x y : Int) : BitVec.ofInt 32 (x - y) = BitVec.ofInt 32 x - BitVec.ofInt 32 y := by
  rw [Int.sub_eq_add_neg, BitVec.ofInt_add, BitVec.ofInt_neg, BitVec.sub_eq_add_neg]
/-- One bit of a word asked for. -/
theorem and_bit (w : BitVec 32) (i : Nat) (hi : i < 32) : U (w &&& BitVec.twoPow 32 i) = 0 ↔ w.getLsbD i = false := by
  have h0 : (0 : Int) = U 0#32 := rfl
  rw [h0, U_inj]
  constructor
  · intro h
    have := congrArg (fun v => v.getLsbD i) h
    simpa [BitVec.getLsbD_twoPow, hi] using this
  · intro h
    apply BitVec.eq_of_getLsbD_eq
    intro j hj
    rw [BitVec.getLsbD_and, BitVec.getLsbD_twoPow]
    by_cases e : i = j
    · subst e; simp [h]
    · simp [e]
theorem or_zero (a b : BitVec 32) : U (a ||| b) = 0 ↔ U a = 0 ∧ U b = 0 := by
  have h0 : (0 : Int) = U 0#32 := rfl
  rw [h0, U_inj, U_inj, U_inj]
  constructor
  · intro h
    refine ⟨BitVec.eq_of_getLsbD_eq fun i hi => ?_, BitVec.eq_of_getLsbD_eq fun i hi => ?_⟩ <;>
    · have := congrArg (fun v => v.getLsbD i) h
      simp at this
      simp [this]
  · rintro ⟨rfl, rfl⟩; rfl
/-- The lowest n bits. -/
def maskB (n : Int) : BitVec 32 := if n ≥ 32 then 4294967295#32 else (1#32 <<< n.toNat) - 1#32
theorem maskB_bit (n : Int) (i : Nat) : (maskB n).getLsbD i = (decide (i < 32) && decide ((i : Int) < n)) := by
  unfold maskB
  split
  · rename_i h
    have : 4294967295#32 = BitVec.allOnes 32 := by decide
    rw [this, BitVec.getLsbD_allOnes]
    by_cases hi : i < 32
    · have : (i : Int) < n := by omega
      simp [hi, this]
    · simp [hi]
  · rename_i h
    have hn : n.toNat < 32 := by omega
    have hp : 2 ^ n.toNat < 2 ^ 32 := Nat.pow_lt_pow_right (by decide) hn
    have e : ((1#32 <<< n.toNat) - 1#32) = BitVec.ofNat 32 (2 ^ n.toNat - 1) := by
      apply BitVec.eq_of_toNat_eq
      rw [BitVec.toNat_sub, BitVec.toNat_shiftLeft, Nat.shiftLeft_eq, BitVec.toNat_ofNat, BitVec.toNat_ofNat]
      have := Nat.two_pow_pos n.toNat
      simp only [Nat.reducePow] at *
      omega
    rw [e, BitVec.getLsbD_ofNat, Nat.testBit_two_pow_sub_one]
    congr 1
    apply decide_eq_decide.2
    omega
end Go.Proofs.Ytecmjcfhbedelaa.Bv
