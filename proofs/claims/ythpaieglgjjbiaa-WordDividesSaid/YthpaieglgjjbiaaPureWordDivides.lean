/- A word is its quotient times the other one and the rest, which is smaller, and has its sign; the whole product's upper half is that of the halves' products: for every two words. -/
import Derived.Test.YthpaieglgjjbiaaQWordDividesx2
import Derived.Test.YthpaieglgjjbiaaBv
set_option linter.unusedSimpArgs false
set_option linter.unusedVariables false
namespace Go.Proofs.Ythpaieglgjjbiaa.Pure
open Go.RowKit Go.Proofs.Ythpaieglgjjbiaa.QWordDivides Go.Proofs.YthpaieglgjjbiaaW.PrintWords Go.Proofs.YthpaieglgjjbiaaW.PrintLast Go.Proofs.YthpaieglgjjbiaaW.PrintMore Go.Proofs.Ythpaieglgjjbiaa.Bv
namespace WordDividesP
theorem less_eq (a b : BitVec 32) : word_Less.f (U a) (U b) false = some (decide (a < b)) := by
  unfold word_Less.f
  rw [if_neg (by decide)]
  congr 1; exact decide_eq_decide.2 (lt_U a b)
theorem lessS_eq (a b : BitVec 32) : word_Less.f (U a) (U b) true = some (decide (a.toInt < b.toInt)) := by
  unfold word_Less.f
  rw [if_pos rfl, wrap32_U, wrap32_U]

theorem first_true : corrallaw1_first.f 60 = some true := by decide +kernel
theorem wrap_u64 (n : Int) : IntKind.u64.wrap n = n % 18446744073709551616 := by
  simp [IntKind.wrap, IntKind.bits, IntKind.signed]
def X (s : Bool) (w : BitVec 32) : Int := if s = true then w.toInt else U w
theorem X_bd (s : Bool) (w : BitVec 32) : -2147483648 ≤ X s w ∧ X s w < 4294967296 := by
  unfold X U
  have := w.isLt
  split
  · rw [BitVec.toInt_eq_toNat_cond]; split <;> omega
  · omega
theorem wide_eq (s : Bool) (w : BitVec 32) : word_wide.f (U w) s = some (X s w % 18446744073709551616) := by
  unfold word_wide.f
  cases s with
  | true =>
    rw [if_pos rfl, wrap32_U, wrap_u64]
    have e : wrap64 w.toInt = w.toInt := by have := X_bd true w; unfold X at this; rw [if_pos rfl] at this; unfold wrap64; omega
    rw [e]; rfl
  | false => rw [if_neg (by decide), wrap_u64]; rfl
def hi (x y : Int) : Int := x * y % 18446744073709551616 / 4294967296 % 4294967296
theorem high_eq (a b : BitVec 32) (s t : Bool) : word_High.f (U a) (U b) s t = some (hi (X s a) (X t b)) := by
  unfold word_High.f hi
  simp only [wide_eq, Option.bind_some, wrap_u64, ← Int.mul_emod]
/-- The quotient and the rest, with signs. -/
def quoB (x y : BitVec 32) : BitVec 32 := if y = 0#32 then 4294967295#32 else BitVec.ofInt 32 (x.toInt.tdiv y.toInt)
def remB (x y : BitVec 32) : BitVec 32 := if y = 0#32 then x else x.srem y
theorem U_zero (y : BitVec 32) : U y = 0 ↔ y = 0#32 := by
  have : (0 : Int) = U 0#32 := rfl
  rw [this, U_inj]
theorem U_ones (y : BitVec 32) : U y = 4294967295 ↔ y = 4294967295#32 := by
  have : (4294967295 : Int) = U 4294967295#32 := rfl
  rw [this, U_inj]
theorem srem_ofInt (x y : BitVec 32) : BitVec.ofInt 32 (x.toInt.tmod y.toInt) = x.srem y := by
  rw [← BitVec.toInt_srem, BitVec.ofInt_toInt]
theorem toInt_ne (y : BitVec 32) (h : ¬ y = 0#32) : ¬ y.toInt = 0 := by
  intro e
  apply h
  apply BitVec.eq_of_toInt_eq
  rw [e]; rfl
theorem divS_eq (x y : BitVec 32) (k : Nat) : word_Div.f (k + 1) (U x) (U y) true = some (U (quoB x y)) := by
  unfold word_Div.f quoB
  by_cases h : y = 0#32
  · rw [if_pos ((U_zero y).2 h), if_pos h]; rfl
  rw [if_neg (fun e => h ((U_zero y).1 e)), if_neg h, if_pos rfl]
  simp only [word_Div.j0]
  by_cases c : y = 4294967295#32
  · have e : (U y == 4294967295) = true := beq_iff_eq.2 ((U_ones y).2 c)
    have e2 : (4294967295#32).toInt = -1 := by decide
    rw [e, if_pos rfl, c, e2, mod_U, Int.tdiv_neg, Int.tdiv_one, BitVec.ofInt_neg, BitVec.ofInt_neg, ofInt_U, BitVec.ofInt_toInt]
  · have e : (U y == 4294967295) = false := beq_eq_false_iff_ne.2 (fun e => c ((U_ones y).1 e))
    rw [e, if_neg (by decide), if_pos trivial, wrap32_U, wrap32_U, if_neg (toInt_ne y h), mod_U, ofInt_wrap32]
theorem remS_eq (x y : BitVec 32) (k : Nat) : word_Rem.f (k + 1) (U x) (U y) true = some (U (remB x y)) := by
  unfold word_Rem.f remB
  by_cases h : y = 0#32
  · rw [if_pos ((U_zero y).2 h), if_pos h]
  rw [if_neg (fun e => h ((U_zero y).1 e)), if_neg h, if_pos rfl]
  simp only [word_Rem.j0]
  by_cases c : y = 4294967295#32
  · have e : (U y == 4294967295) = true := beq_iff_eq.2 ((U_ones y).2 c)
    have e2 : (4294967295#32).toInt = -1 := by decide
    rw [e, if_pos rfl, ← srem_ofInt, c, e2, Int.tmod_neg, Int.tmod_one]; rfl
  · have e : (U y == 4294967295) = false := beq_eq_false_iff_ne.2 (fun e => c ((U_ones y).1 e))
    rw [e, if_neg (by decide), if_pos trivial, wrap32_U, wrap32_U, if_neg (toInt_ne y h), mod_U, srem_ofInt]
theorem divU_eq (x y : BitVec 32) (k : Nat) : word_Div.f (k + 1) (U x) (U y) false = some (if U y = 0 then 4294967295 else U x / U y) := by
  unfold word_Div.f
  by_cases h : U y = 0
  · rw [if_pos h, if_pos h]
  rw [if_neg h, if_neg h, if_neg (by decide)]
  simp only [word_Div.j0]
  rw [if_neg (by decide), if_neg (by decide), if_neg h, Int.tdiv_eq_ediv_of_nonneg (U_nonneg x)]
  have h0 := U_nonneg x
  have h1 := U_lt x
  have h2 := U_nonneg y
  have h3 : 0 ≤ U x / U y := Int.ediv_nonneg h0 h2
  have h4 : U x / U y ≤ U x := Int.ediv_le_self _ h0
  congr 1; omega
theorem remU_eq (x y : BitVec 32) (k : Nat) : word_Rem.f (k + 1) (U x) (U y) false = some (if U y = 0 then U x else U x % U y) := by
  unfold word_Rem.f
  by_cases h : U y = 0
  · rw [if_pos h, if_pos h]
  rw [if_neg h, if_neg h, if_neg (by decide)]
  simp only [word_Rem.j0]
  rw [if_neg (by decide), if_neg (by decide), if_neg h, Int.tmod_eq_emod_of_nonneg (U_nonneg x)]
theorem backU (x y : BitVec 32) (h : ¬ U y = 0) : (U x / U y * U y + U x % U y) % 4294967296 = U x := by
  have := Int.mul_ediv_add_emod (U x) (U y)
  have h1 := U_lt x
  have h0 := U_nonneg x
  rw [Int.mul_comm] at this
  rw [this]; omega
theorem backS (x y : BitVec 32) (h : ¬ y = 0#32) : (U (quoB x y) * U y + U (remB x y)) % 4294967296 = U x := by
  unfold quoB remB
  rw [if_neg h, if_neg h, mod_U, BitVec.ofInt_add, BitVec.ofInt_mul, ofInt_U, ofInt_U, ofInt_U, ← srem_ofInt]
  congr 1
  have e : y = BitVec.ofInt 32 y.toInt := (BitVec.ofInt_toInt).symm
  have := Int.mul_tdiv_add_tmod x.toInt y.toInt
  rw [Int.mul_comm] at this
  calc BitVec.ofInt 32 (x.toInt.tdiv y.toInt) * y + BitVec.ofInt 32 (x.toInt.tmod y.toInt)
      = BitVec.ofInt 32 (x.toInt.tdiv y.toInt) * BitVec.ofInt 32 y.toInt + BitVec.ofInt 32 (x.toInt.tmod y.toInt) := by rw [← e]
    _ = x := by rw [← BitVec.ofInt_mul, ← BitVec.ofInt_add, this, BitVec.ofInt_toInt]
theorem z0 : (0#32).toInt = 0 := by decide
theorem rem_sign (x y : BitVec 32) (h : ¬ y = 0#32) (hn : ¬ remB x y = 0#32) : decide ((remB x y).toInt < (0#32).toInt) = decide (x.toInt < (0#32).toInt) := by
  have hr : (remB x y).toInt = x.toInt.tmod y.toInt := by unfold remB; rw [if_neg h, BitVec.toInt_srem]
  have hne := toInt_ne _ hn
  rw [hr] at hne
  rw [hr, z0]
  apply decide_eq_decide.2
  by_cases c : 0 ≤ x.toInt
  · have := Int.tmod_nonneg y.toInt c
    omega
  · have := Int.tmod_nonneg y.toInt (a := -x.toInt) (by omega)
    rw [Int.neg_tmod] at this
    omega
theorem wraps_u32 (n : Int) (h₀ : 0 ≤ n) (h₁ : n < 2 ^ 32) : IntKind.u32.wrap n = n := by rw [IntKind.wrap_u32]; omega
theorem and_low (x : Int) (h0 : 0 ≤ x) (h1 : x < 4294967296) : Go.bits .and .u32 x 65535 = x % 65536 :=
  bits_mask .u32 32 (by decide) wraps_u32 16 (by decide) x h0 h1
theorem prod_bd {p q : Int} (h0 : 0 ≤ p) (h1 : p ≤ 65535) (h2 : 0 ≤ q) (h3 : q ≤ 65535) : 0 ≤ p * q ∧ p * q ≤ 4294836225 := by
  refine ⟨Int.mul_nonneg h0 h2, ?_⟩
  have := Int.mul_le_mul h1 h3 h2 (by decide : (0 : Int) ≤ 65535)
  omega
/-- The product's upper half, by halves. -/
theorem sum_val (x0 x1 : Int) (h0 : 0 ≤ x0) (h1 : x0 < 4294967296) (h2 : 0 ≤ x1) (h3 : x1 < 4294967296) :
    ((((x0 / 65536) * (x1 / 65536)) + (((((x0 / 65536) * (Go.bits .and .u32 x1 65535)) + ((((Go.bits .and .u32 x0 65535) * (Go.bits .and .u32 x1 65535)) % 4294967296) / 65536)) % 4294967296) / 65536)) + ((((Go.bits .and .u32 ((((x0 / 65536) * (Go.bits .and .u32 x1 65535)) + ((((Go.bits .and .u32 x0 65535) * (Go.bits .and .u32 x1 65535)) % 4294967296) / 65536)) % 4294967296) 65535) + ((Go.bits .and .u32 x0 65535) * (x1 / 65536))) % 4294967296) / 65536)) = x0 * x1 / 4294967296 := by
  rw [and_low x0 h0 h1, and_low x1 h2 h3, and_low _ (by omega) (by omega)]
  have e : x0 * x1 = 4294967296 * ((x0 / 65536) * (x1 / 65536)) + 65536 * ((x0 / 65536) * (x1 % 65536)) + 65536 * ((x0 % 65536) * (x1 / 65536)) + (x0 % 65536) * (x1 % 65536) := by
    have ea : x0 = 65536 * (x0 / 65536) + x0 % 65536 := by omega
    have eb : x1 = 65536 * (x1 / 65536) + x1 % 65536 := by omega
    generalize x0 / 65536 = ah at *
    generalize x0 % 65536 = al at *
    generalize x1 / 65536 = bh at *
    generalize x1 % 65536 = bl at *
    rw [ea, eb]
    grind
  have b1 := prod_bd (p := x0 / 65536) (q := x1 / 65536) (by omega) (by omega) (by omega) (by omega)
  have b2 := prod_bd (p := x0 / 65536) (q := x1 % 65536) (by omega) (by omega) (by omega) (by omega)
  have b3 := prod_bd (p := x0 % 65536) (q := x1 / 65536) (by omega) (by omega) (by omega) (by omega)
  have b4 := prod_bd (p := x0 % 65536) (q := x1 % 65536) (by omega) (by omega) (by omega) (by omega)
  rw [e]
  generalize (x0 / 65536) * (x1 / 65536) = p1 at *
  generalize (x0 / 65536) * (x1 % 65536) = p2 at *
  generalize (x0 % 65536) * (x1 / 65536) = p3 at *
  generalize (x0 % 65536) * (x1 % 65536) = p4 at *
  clear e
  omega
theorem prod32 (x y : BitVec 32) : 0 ≤ U x * U y ∧ U x * U y < 18446744073709551616 := by
  have h0 := U_nonneg x
  have h1 := U_lt x
  have h2 := U_nonneg y
  have h3 := U_lt y
  refine ⟨Int.mul_nonneg h0 h2, ?_⟩
  have := Int.mul_le_mul (a := U x) (b := U y) (c := 4294967295) (d := 4294967295) (by omega) (by omega) h2 (by decide)
  omega
theorem toInt_U (x : BitVec 32) : x.toInt = if x.toInt < 0 then U x - 4294967296 else U x := by
  have := x.isLt
  unfold U
  rw [BitVec.toInt_eq_toNat_cond]
  split <;> split <;> omega
theorem hi_ff (x y : BitVec 32) : hi (X false x) (X false y) = U x * U y / 4294967296 := by
  have := prod32 x y
  unfold hi X
  rw [if_neg (by decide), if_neg (by decide)]
  omega
theorem hi_tf (x y : BitVec 32) : hi (X true x) (X false y) = (if x.toInt < 0 then U x * U y / 4294967296 - U y else U x * U y / 4294967296) % 4294967296 := by
  have := prod32 x y
  have ex := toInt_U x
  unfold hi X
  rw [if_pos rfl, if_neg (by decide)]
  by_cases c : x.toInt < 0
  · rw [if_pos c] at ex ⊢
    rw [ex, Int.sub_mul]; omega
  · rw [if_neg c] at ex ⊢
    rw [ex]; omega
theorem hi_tt (x y : BitVec 32) : hi (X true x) (X true y) = ((if x.toInt < 0 then U x * U y / 4294967296 - U y else U x * U y / 4294967296) - (if y.toInt < 0 then U x else 0)) % 4294967296 := by
  have := prod32 x y
  have ex := toInt_U x
  have ey := toInt_U y
  unfold hi X
  rw [if_pos rfl, if_pos rfl]
  by_cases c : x.toInt < 0 <;> by_cases d : y.toInt < 0
  · rw [if_pos c] at ex ⊢
    rw [if_pos d] at ey ⊢
    have e : (U x - 4294967296) * (U y - 4294967296) = U x * U y - 4294967296 * U y - 4294967296 * U x + 18446744073709551616 := by grind
    rw [ex, ey, e]; omega
  · rw [if_pos c] at ex ⊢
    rw [if_neg d] at ey ⊢
    rw [ex, ey, Int.sub_mul]; omega
  · rw [if_neg c] at ex ⊢
    rw [if_pos d] at ey ⊢
    rw [ex, ey, Int.mul_sub]; omega
  · rw [if_neg c] at ex ⊢
    rw [if_neg d] at ey ⊢
    rw [ex, ey]; omega
theorem j1_eq (x y : BitVec 32) (k : Nat) : corrallaw1_WordDivides.j1 (k + 2) (U x) (U y) true false = some true := by
  have z : (0 : Int) = U 0#32 := rfl
  have hp := prod32 x y
  have hs := sum_val (U x) (U y) (U_nonneg x) (U_lt x) (U_nonneg y) (U_lt y)
  have hl : ∀ w : BitVec 32, word_Less.f (U w) 0 true = some (decide (w.toInt < 0)) := by
    intro w; have := lessS_eq w 0#32; rw [z0] at this; exact this
  have hj : ∀ p q : Int, p = U x * U y / 4294967296 → q = (if x.toInt < 0 then U x * U y / 4294967296 - U y else U x * U y / 4294967296) % 4294967296 → corrallaw1_WordDivides.j2 (k + 1) (U x) (U y) true p q = some true := by
    intro p q hp' hq'
    have hq2 : hi (X true x) (X false y) = q := by rw [hi_tf, hq']
    have ht : hi (X true x) (X true y) = (if y.toInt < 0 then (q - U x) % 4294967296 else q) := by
      rw [hi_tt, hq']; split <;> split <;> omega
    simp only [corrallaw1_WordDivides.j2, hl, Option.bind_some, high_eq, hi_ff, hq2, ht, ← hp']
    by_cases c : y.toInt < 0 <;> simp [c]
  simp only [corrallaw1_WordDivides.j1]
  rw [if_neg (by decide), hl]
  simp only [Option.bind_some]
  by_cases c : x.toInt < 0
  · rw [if_pos (decide_eq_true c)]
    apply hj
    · rw [hs]; omega
    · rw [hs, if_pos c]
  · rw [if_neg (by simp [c])]
    apply hj
    · rw [hs]; omega
    · rw [hs, if_neg c]
theorem j0_eq (x y : BitVec 32) (k : Nat) :
    corrallaw1_WordDivides.j0 (k + 3) (U x) (U y) true (if U y = 0 then 4294967295 else U x / U y) (if U y = 0 then U x else U x % U y) (U (quoB x y)) (U (remB x y)) false = some true := by
  have hj := j1_eq x y k
  have hl : ∀ w : BitVec 32, word_Less.f (U w) 0 true = some (decide (w.toInt < (0#32).toInt)) := fun w => lessS_eq w 0#32
  simp only [corrallaw1_WordDivides.j0]
  rw [if_neg (by decide)]
  by_cases h : U y = 0
  · have h' := (U_zero y).1 h
    have e1 : quoB x y = 4294967295#32 := by unfold quoB; rw [if_pos h']
    have e2 : remB x y = x := by unfold remB; rw [if_pos h']
    have e3 : U 4294967295#32 = 4294967295 := rfl
    rw [if_pos h, if_pos h, if_pos h, e1, e2, e3]
    simp
  · have h' : ¬ y = 0#32 := fun e => h ((U_zero y).2 e)
    have hlt : U x % U y < U y := Int.emod_lt_of_pos _ (by have := U_nonneg y; omega)
    rw [if_neg h, if_neg h, if_neg (by omega)]
    by_cases c : U (remB x y) = 0
    · rw [if_pos c]; exact hj
    · rw [if_neg c, hl, hl]
      have c' : ¬ remB x y = 0#32 := fun e => c ((U_zero _).2 e)
      simp only [Option.bind_some, rem_sign x y h' c', bne_self_eq_false]
      exact hj
theorem main (x y : BitVec 32) (k : Nat) (h : corrallaw1_first.f (k + 3) = some true) : corrallaw1_WordDivides.f (k + 3) (U x) (U y) = some true := by
  have hj := j0_eq x y k
  unfold corrallaw1_WordDivides.f
  rw [h]
  simp only [Option.bind_some, if_true, divS_eq, remS_eq, divU_eq, remU_eq]
  by_cases c : U y = 0
  · have eb : (U y != 0) = false := by rw [c]; rfl
    rw [if_pos c, if_pos c] at hj
    simp only [eb, if_pos c, hj, ite_self]
  · have c' : ¬ y = 0#32 := fun e => c ((U_zero y).2 e)
    rw [if_neg c, if_neg c] at hj ⊢
    rw [backU x y c, backS x y c', if_pos rfl, if_pos rfl]
    exact hj
end WordDividesP
theorem WordDivides : corrallaw1_WordDivides.Pure := by
  intro a0 a1 h0 h1
  obtain ⟨a, rfl⟩ := wf_u32 h0
  obtain ⟨b, rfl⟩ := wf_u32 h1
  exact ⟨60, WordDividesP.main a b 57 WordDividesP.first_true⟩

end Go.Proofs.Ythpaieglgjjbiaa.Pure
