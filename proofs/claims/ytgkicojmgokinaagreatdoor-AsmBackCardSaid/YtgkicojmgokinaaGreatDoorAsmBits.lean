/- Words of 32 bits, put together of parts: or-ed parts that do not meet are added. -/
import Derived.Laws.BitsLemmas
import Derived.Lib.EndianBits
namespace Go.Proofs.YtgkicojmgokinaaGreatDoor.Ab
open Go
set_option linter.unusedVariables false
set_option linter.unusedSimpArgs false
theorem or_add_nat (a : Nat) : ∀ b : Nat, a &&& b = 0 → a ||| b = a + b := by
  induction a using Nat.strongRecOn with
  | ind a ih =>
    intro b h
    by_cases h0 : a = 0
    · subst h0; simp
    · have hd : (a / 2) &&& (b / 2) = 0 := by rw [← Nat.and_div_two, h]
      have ih' := ih (a / 2) (by omega) (b / 2) hd
      have e1 : (a ||| b) / 2 = a / 2 + b / 2 := by rw [Nat.or_div_two, ih']
      have ha := Nat.mod_two_eq_zero_or_one a
      have hb := Nat.mod_two_eq_zero_or_one b
      have hor := Nat.or_mod_two_eq_one (a := a) (b := b)
      have hand := Nat.and_mod_two_eq_one (a := a) (b := b)
      rw [h] at hand
      have hz : ¬ (a % 2 = 1 ∧ b % 2 = 1) := fun hh => by have := hand.2 hh; omega
      have hc := Nat.mod_two_eq_zero_or_one (a ||| b)
      have e2 : (a ||| b) % 2 = a % 2 + b % 2 := by
        rcases ha with ha | ha <;> rcases hb with hb | hb
        · have : ¬ (a ||| b) % 2 = 1 := fun hh => by have := hor.1 hh; omega
          omega
        · have := hor.2 (.inr hb); omega
        · have := hor.2 (.inl ha); omega
        · exact absurd ⟨ha, hb⟩ hz
      omega
/-- A word whose bits are among those of m. -/
structure In (x : Int) (m : Nat) : Prop where
  lo : 0 ≤ x
  hi : x < 4294967296
  sub : x.toNat &&& m = x.toNat
theorem In.zero (m : Nat) : In 0 m := ⟨by omega, by omega, by simp⟩
theorem In.wrap {x : Int} {m : Nat} (h : In x m) : IntKind.u32.wrap x = x := by rw [IntKind.wrap_u32]; have := h.lo; have := h.hi; omega
theorem In.field {c d : Int} {m : Nat} (n k : Nat) (hd : d = 2 ^ k) (hm : m = (2 ^ n - 1) * 2 ^ k) (h : n + k ≤ 32) (h0 : 0 ≤ c) (h1 : c < 2 ^ n) : In (c * d) m := by
  obtain ⟨a, rfl⟩ := Int.eq_ofNat_of_zero_le h0
  have ha : a < 2 ^ n := by exact_mod_cast h1
  have e : ((a : Int) * d) = ((a * 2 ^ k : Nat) : Int) := by rw [hd]; simp
  have hlt : a * 2 ^ k < 2 ^ 32 := by
    have h2 : a * 2 ^ k < 2 ^ n * 2 ^ k := Nat.mul_lt_mul_of_pos_right ha (Nat.two_pow_pos k)
    have h3 : 2 ^ n * 2 ^ k ≤ 2 ^ 32 := by rw [← Nat.pow_add]; exact Nat.pow_le_pow_right (by decide) h
    omega
  refine ⟨by rw [e]; omega, by rw [e]; omega, ?_⟩
  rw [e, hm, Int.toNat_natCast, ← Nat.shiftLeft_eq, ← Nat.shiftLeft_eq, ← Nat.shiftLeft_and_distrib, Nat.and_two_pow_sub_one_eq_mod, Nat.mod_eq_of_lt ha]
theorem In.or {x y : Int} {m m' : Nat} (hx : In x m) (hy : In y m') (h : m &&& m' = 0) : bits .or .u32 x y = x + y ∧ In (x + y) (m ||| m') := by
  obtain ⟨x0, x1, xs⟩ := hx
  obtain ⟨y0, y1, ys⟩ := hy
  obtain ⟨a, rfl⟩ := Int.eq_ofNat_of_zero_le x0
  obtain ⟨b, rfl⟩ := Int.eq_ofNat_of_zero_le y0
  rw [Int.toNat_natCast] at xs ys
  have ha : a < 2 ^ 32 := by omega
  have hb : b < 2 ^ 32 := by omega
  have hz : a &&& b = 0 := by
    rw [← xs, ← ys, show a &&& m &&& (b &&& m') = (a &&& b) &&& (m &&& m') by
      rw [Nat.and_assoc, ← Nat.and_assoc m b m', Nat.and_comm m b, Nat.and_assoc b m m', ← Nat.and_assoc], h, Nat.and_zero]
  have e := or_add_nat a b hz
  have hl := Nat.or_lt_two_pow ha hb
  refine ⟨?_, by omega, by rw [← Int.natCast_add, ← e]; omega, ?_⟩
  · rw [(bits_nat .u32 32 (by decide) wraps_u32 a b ha hb).2, e, Int.natCast_add]
  · rw [← Int.natCast_add, Int.toNat_natCast, ← e]
    apply Nat.eq_of_testBit_eq
    intro i
    have t1 := congrArg (fun n => Nat.testBit n i) xs
    have t2 := congrArg (fun n => Nat.testBit n i) ys
    simp only [Nat.testBit_and, Nat.testBit_or] at t1 t2 ⊢
    revert t1 t2
    cases a.testBit i <;> cases b.testBit i <;> cases m.testBit i <;> cases m'.testBit i <;> simp
theorem and_mask {x d m : Int} (n : Nat) (hm : m = 2 ^ n - 1) (hn : n ≤ 32) (hd : 0 < d) (h0 : 0 ≤ x) (h1 : x < 4294967296) : bits .and .u32 (x.fdiv d) m = x / d % 2 ^ n := by
  have e : x.fdiv d = x / d := Int.fdiv_eq_ediv_of_nonneg _ (by omega)
  have g0 : 0 ≤ x / d := Int.ediv_nonneg h0 (by omega)
  have g1 : x / d ≤ x := Int.ediv_le_self _ h0
  rw [e, hm, bits_mask .u32 32 (by decide) wraps_u32 n hn _ g0 (by omega)]
end Go.Proofs.YtgkicojmgokinaaGreatDoor.Ab
