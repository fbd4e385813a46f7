/- A word is of a row of the document just where it is of the program's row. Written by gen_same.py. -/
import Derived.Test.YtgkicojmgokinaaGreatDoorAsmRefDec
namespace Go.Proofs.YtgkicojmgokinaaGreatDoor.Ab
open Go Go.RowKit
set_option linter.unusedVariables false
set_option linter.unusedSimpArgs false
set_option maxRecDepth 100000
theorem rsg_eq {X : Int} (n : Nat) {m h o : Int} (hn : n ≤ 31) (hX : 0 ≤ X ∧ X < 2 ^ n * 2) (hm : m = 2 ^ (n + 1) - 1) (hh : h = 2 ^ n) (ho : o = 4294967296 - 2 ^ (n + 1)) : rsg X m h o = if X < h then X else X + o := by
  have hp : (2 : Int) ^ (n + 1) = 2 ^ n * 2 := Int.pow_succ ..
  have hb : (2 : Int) ^ n ≤ 2147483648 := by
    have : (2 : Nat) ^ n ≤ 2 ^ 31 := Nat.pow_le_pow_right (by decide) hn
    have h2 : ((2 ^ n : Nat) : Int) ≤ ((2 ^ 31 : Nat) : Int) := by exact_mod_cast this
    simpa using h2
  have hpos : (0 : Int) < 2 ^ n := by exact_mod_cast Nat.two_pow_pos n
  have e : bits .and .u32 X m = X := by
    rw [and_lit (n + 1) ⟨hX.1, by omega⟩ hm (by omega), hp]
    exact Int.emod_eq_of_lt hX.1 hX.2
  unfold rsg
  rw [e, Int.fdiv_eq_ediv_of_nonneg _ (by omega)]
  by_cases hlt : X < h
  · rw [if_pos hlt]
    have : X / h = 0 := Int.ediv_eq_zero_of_lt hX.1 hlt
    rw [this]; rfl
  · rw [if_neg hlt]
    have : X / h = 1 := by
      have h1 : X / h < 2 := Int.ediv_lt_of_lt_mul (by omega) (by omega)
      have h2 : 1 ≤ X / h := Int.le_ediv_of_mul_le (by omega) (by omega)
      omega
    rw [this]
    show bits .or .u32 X o = X + o
    obtain ⟨a, ha⟩ := Int.eq_ofNat_of_zero_le hX.1
    have hx : In X (2 ^ (n + 1) - 1) := by
      have := In.field (c := X) (d := 1) (m := 2 ^ (n + 1) - 1) (n + 1) 0 rfl (by omega) (by omega) hX.1 (by omega)
      rwa [Int.mul_one] at this
    have hoo : In o ((2 ^ (31 - n) - 1) * 2 ^ (n + 1)) := by
      have hpw : (2 : Int) ^ (31 - n) * 2 ^ (n + 1) = 4294967296 := by
        rw [← Int.pow_add, show 31 - n + (n + 1) = 32 by omega]; rfl
      have hq : (0 : Int) < 2 ^ (31 - n) := by exact_mod_cast Nat.two_pow_pos (31 - n)
      have := In.field (c := 2 ^ (31 - n) - 1) (d := 2 ^ (n + 1)) (m := (2 ^ (31 - n) - 1) * 2 ^ (n + 1)) (31 - n) (n + 1) rfl rfl (by omega) (by omega) (by omega)
      rw [Int.sub_mul, hpw, Int.one_mul, ← ho] at this
      exact this
    refine (In.or hx hoo ?_).1
    apply Nat.eq_of_testBit_eq
    intro i
    rw [Nat.testBit_and, Nat.testBit_two_pow_sub_one, ← Nat.shiftLeft_eq, Nat.testBit_shiftLeft, Nat.zero_testBit]
    by_cases hi : i < n + 1
    · have : ¬ (n + 1 ≤ i) := by omega
      simp [this]
    · simp [hi]
theorem rimI_eq {w : Int} (h : W32 w) : rimI bitV w = valI w := by
  have h0 := h.1
  have h1 := h.2
  unfold rimI
  rw [(bitV_lit (x := w) (lo := 20) (n := 12) (d := 1048576) (M := 4096) h (by decide) (by decide) (by decide) (by decide))]
  have a0 : In (w / 1048576 % 4096) 4095 := by
    have := In.part (x := w / 1048576) (M := 4096) (d := 1) (m := 4095) 12 0 (by decide) (by decide) (by decide) (by decide)
    rwa [Int.mul_one] at this
  rw [show w / 1048576 % 4096 = sumI w by unfold sumI; omega]
  rw [rsg_eq 11 (by decide) (by unfold sumI; omega) (by decide) (by decide) (by decide)]
  rfl
theorem rimS_eq {w : Int} (h : W32 w) : rimS bitV w = valS w := by
  have h0 := h.1
  have h1 := h.2
  unfold rimS
  rw [(bitV_lit (x := w) (lo := 25) (n := 7) (d := 33554432) (M := 128) h (by decide) (by decide) (by decide) (by decide)), (bitV_lit (x := w) (lo := 7) (n := 5) (d := 128) (M := 32) h (by decide) (by decide) (by decide) (by decide))]
  have a0 : In (w / 33554432 % 128 * 32) 4064 := In.part 7 5 (by decide) (by decide) (by decide) (by decide)
  have a1 : In (w / 128 % 32) 31 := by
    have := In.part (x := w / 128) (M := 32) (d := 1) (m := 31) 5 0 (by decide) (by decide) (by decide) (by decide)
    rwa [Int.mul_one] at this
  have o1 := In.or a0 a1 (by decide)
  rw [a0.wrap, o1.1]
  rw [show w / 33554432 % 128 * 32 + w / 128 % 32 = sumS w by unfold sumS; omega]
  rw [rsg_eq 11 (by decide) (by unfold sumS; omega) (by decide) (by decide) (by decide)]
  rfl
theorem rimB_eq {w : Int} (h : W32 w) : rimB bitV w = valB w := by
  have h0 := h.1
  have h1 := h.2
  unfold rimB
  rw [(bitV_lit (x := w) (lo := 31) (n := 1) (d := 2147483648) (M := 2) h (by decide) (by decide) (by decide) (by decide)), (bitV_lit (x := w) (lo := 7) (n := 1) (d := 128) (M := 2) h (by decide) (by decide) (by decide) (by decide)), (bitV_lit (x := w) (lo := 25) (n := 6) (d := 33554432) (M := 64) h (by decide) (by decide) (by decide) (by decide)), (bitV_lit (x := w) (lo := 8) (n := 4) (d := 256) (M := 16) h (by decide) (by decide) (by decide) (by decide))]
  have a0 : In (w / 2147483648 % 2 * 4096) 4096 := In.part 1 12 (by decide) (by decide) (by decide) (by decide)
  have a1 : In (w / 128 % 2 * 2048) 2048 := In.part 1 11 (by decide) (by decide) (by decide) (by decide)
  have o1 := In.or a0 a1 (by decide)
  have a2 : In (w / 33554432 % 64 * 32) 2016 := In.part 6 5 (by decide) (by decide) (by decide) (by decide)
  have o2 := In.or o1.2 a2 (by decide)
  have a3 : In (w / 256 % 16 * 2) 30 := In.part 4 1 (by decide) (by decide) (by decide) (by decide)
  have o3 := In.or o2.2 a3 (by decide)
  rw [a0.wrap, a1.wrap, a2.wrap, a3.wrap, o1.1, o2.1, o3.1]
  rw [show w / 2147483648 % 2 * 4096 + w / 128 % 2 * 2048 + w / 33554432 % 64 * 32 + w / 256 % 16 * 2 = sumB w by unfold sumB; omega]
  rw [rsg_eq 12 (by decide) (by unfold sumB; omega) (by decide) (by decide) (by decide)]
  rfl
theorem rimU_eq {w : Int} (h : W32 w) : rimU bitV w = valU w := by
  have h0 := h.1
  have h1 := h.2
  unfold rimU
  rw [(bitV_lit (x := w) (lo := 12) (n := 20) (d := 4096) (M := 1048576) h (by decide) (by decide) (by decide) (by decide))]
  have a0 : In (w / 4096 % 1048576 * 4096) 4294963200 := In.part 20 12 (by decide) (by decide) (by decide) (by decide)
  rw [a0.wrap]
  rfl
theorem rimJ_eq {w : Int} (h : W32 w) : rimJ bitV w = valJ w := by
  have h0 := h.1
  have h1 := h.2
  unfold rimJ
  rw [(bitV_lit (x := w) (lo := 31) (n := 1) (d := 2147483648) (M := 2) h (by decide) (by decide) (by decide) (by decide)), (bitV_lit (x := w) (lo := 12) (n := 8) (d := 4096) (M := 256) h (by decide) (by decide) (by decide) (by decide)), (bitV_lit (x := w) (lo := 20) (n := 1) (d := 1048576) (M := 2) h (by decide) (by decide) (by decide) (by decide)), (bitV_lit (x := w) (lo := 21) (n := 10) (d := 2097152) (M := 1024) h (by decide) (by decide) (by decide) (by decide))]
  have a0 : In (w / 2147483648 % 2 * 1048576) 1048576 := In.part 1 20 (by decide) (by decide) (by decide) (by decide)
  have a1 : In (w / 4096 % 256 * 4096) 1044480 := In.part 8 12 (by decide) (by decide) (by decide) (by decide)
  have o1 := In.or a0 a1 (by decide)
  have a2 : In (w / 1048576 % 2 * 2048) 2048 := In.part 1 11 (by decide) (by decide) (by decide) (by decide)
  have o2 := In.or o1.2 a2 (by decide)
  have a3 : In (w / 2097152 % 1024 * 2) 2046 := In.part 10 1 (by decide) (by decide) (by decide) (by decide)
  have o3 := In.or o2.2 a3 (by decide)
  rw [a0.wrap, a1.wrap, a2.wrap, a3.wrap, o1.1, o2.1, o3.1]
  rw [show w / 2147483648 % 2 * 1048576 + w / 4096 % 256 * 4096 + w / 1048576 % 2 * 2048 + w / 2097152 % 1024 * 2 = sumJ w by unfold sumJ; omega]
  rw [rsg_eq 20 (by decide) (by unfold sumJ; omega) (by decide) (by decide) (by decide)]
  rfl
theorem rlyI_eq {x : Int} (h : W32 x) : rlyI bitV x = lsumI x := by
  have h0 := h.1
  have h1 := h.2
  unfold rlyI
  have b0 : bitV x 0 12 = x / 1 % 4096 := (bitV_lit (x := x) (lo := 0) (n := 12) (d := 1) (M := 4096) h (by decide) (by decide) (by decide) (by decide))
  have a0 : In (x / 1 % 4096 * 1048576) 4293918720 := In.part 12 20 (by decide) (by decide) (by decide) (by decide)
  rw [b0, a0.wrap]
  unfold lsumI
  simp only [Int.ediv_one]
theorem rlyS_eq {x : Int} (h : W32 x) : rlyS bitV x = lsumS x := by
  have h0 := h.1
  have h1 := h.2
  unfold rlyS
  have b0 : bitV (x.fdiv 32) 0 7 = x / 32 / 1 % 128 := by
    rw [Int.fdiv_eq_ediv_of_nonneg _ (by decide)]
    exact (bitV_lit (x := x / 32) (lo := 0) (n := 7) (d := 1) (M := 128) ⟨by omega, by omega⟩ (by decide) (by decide) (by decide) (by decide))
  have a0 : In (x / 32 / 1 % 128 * 33554432) 4261412864 := In.part 7 25 (by decide) (by decide) (by decide) (by decide)
  have b1 : bitV x 0 5 = x / 1 % 32 := (bitV_lit (x := x) (lo := 0) (n := 5) (d := 1) (M := 32) h (by decide) (by decide) (by decide) (by decide))
  have a1 : In (x / 1 % 32 * 128) 3968 := In.part 5 7 (by decide) (by decide) (by decide) (by decide)
  have o1 := In.or a0 a1 (by decide)
  rw [b0, b1, a0.wrap, a1.wrap, o1.1]
  unfold lsumS
  simp only [Int.ediv_one]
theorem rlyB_eq {x : Int} (h : W32 x) : rlyB bitV x = lsumB x := by
  have h0 := h.1
  have h1 := h.2
  unfold rlyB
  have b0 : bitV (x.fdiv 4096) 0 1 = x / 4096 / 1 % 2 := by
    rw [Int.fdiv_eq_ediv_of_nonneg _ (by decide)]
    exact (bitV_lit (x := x / 4096) (lo := 0) (n := 1) (d := 1) (M := 2) ⟨by omega, by omega⟩ (by decide) (by decide) (by decide) (by decide))
  have a0 : In (x / 4096 / 1 % 2 * 2147483648) 2147483648 := In.part 1 31 (by decide) (by decide) (by decide) (by decide)
  have b1 : bitV (x.fdiv 2048) 0 1 = x / 2048 / 1 % 2 := by
    rw [Int.fdiv_eq_ediv_of_nonneg _ (by decide)]
    exact (bitV_lit (x := x / 2048) (lo := 0) (n := 1) (d := 1) (M := 2) ⟨by omega, by omega⟩ (by decide) (by decide) (by decide) (by decide))
  have a1 : In (x / 2048 / 1 % 2 * 128) 128 := In.part 1 7 (by decide) (by decide) (by decide) (by decide)
  have o1 := In.or a0 a1 (by decide)
  have b2 : bitV (x.fdiv 32) 0 6 = x / 32 / 1 % 64 := by
    rw [Int.fdiv_eq_ediv_of_nonneg _ (by decide)]
    exact (bitV_lit (x := x / 32) (lo := 0) (n := 6) (d := 1) (M := 64) ⟨by omega, by omega⟩ (by decide) (by decide) (by decide) (by decide))
  have a2 : In (x / 32 / 1 % 64 * 33554432) 2113929216 := In.part 6 25 (by decide) (by decide) (by decide) (by decide)
  have o2 := In.or o1.2 a2 (by decide)
  have b3 : bitV (x.fdiv 2) 0 4 = x / 2 / 1 % 16 := by
    rw [Int.fdiv_eq_ediv_of_nonneg _ (by decide)]
    exact (bitV_lit (x := x / 2) (lo := 0) (n := 4) (d := 1) (M := 16) ⟨by omega, by omega⟩ (by decide) (by decide) (by decide) (by decide))
  have a3 : In (x / 2 / 1 % 16 * 256) 3840 := In.part 4 8 (by decide) (by decide) (by decide) (by decide)
  have o3 := In.or o2.2 a3 (by decide)
  rw [b0, b1, b2, b3, a0.wrap, a1.wrap, a2.wrap, a3.wrap, o1.1, o2.1, o3.1]
  unfold lsumB
  simp only [Int.ediv_one]
theorem rlyU_eq {x : Int} (h : W32 x) : rlyU bitV x = lsumU x := by
  have h0 := h.1
  have h1 := h.2
  unfold rlyU
  have b0 : bitV (x.fdiv 4096) 0 20 = x / 4096 / 1 % 1048576 := by
    rw [Int.fdiv_eq_ediv_of_nonneg _ (by decide)]
    exact (bitV_lit (x := x / 4096) (lo := 0) (n := 20) (d := 1) (M := 1048576) ⟨by omega, by omega⟩ (by decide) (by decide) (by decide) (by decide))
  have a0 : In (x / 4096 / 1 % 1048576 * 4096) 4294963200 := In.part 20 12 (by decide) (by decide) (by decide) (by decide)
  rw [b0, a0.wrap]
  unfold lsumU
  simp only [Int.ediv_one]
theorem rlyJ_eq {x : Int} (h : W32 x) : rlyJ bitV x = lsumJ x := by
  have h0 := h.1
  have h1 := h.2
  unfold rlyJ
  have b0 : bitV (x.fdiv 1048576) 0 1 = x / 1048576 / 1 % 2 := by
    rw [Int.fdiv_eq_ediv_of_nonneg _ (by decide)]
    exact (bitV_lit (x := x / 1048576) (lo := 0) (n := 1) (d := 1) (M := 2) ⟨by omega, by omega⟩ (by decide) (by decide) (by decide) (by decide))
  have a0 : In (x / 1048576 / 1 % 2 * 2147483648) 2147483648 := In.part 1 31 (by decide) (by decide) (by decide) (by decide)
  have b1 : bitV (x.fdiv 4096) 0 8 = x / 4096 / 1 % 256 := by
    rw [Int.fdiv_eq_ediv_of_nonneg _ (by decide)]
    exact (bitV_lit (x := x / 4096) (lo := 0) (n := 8) (d := 1) (M := 256) ⟨by omega, by omega⟩ (by decide) (by decide) (by decide) (by decide))
  have a1 : In (x / 4096 / 1 % 256 * 4096) 1044480 := In.part 8 12 (by decide) (by decide) (by decide) (by decide)
  have o1 := In.or a0 a1 (by decide)
  have b2 : bitV (x.fdiv 2048) 0 1 = x / 2048 / 1 % 2 := by
    rw [Int.fdiv_eq_ediv_of_nonneg _ (by decide)]
    exact (bitV_lit (x := x / 2048) (lo := 0) (n := 1) (d := 1) (M := 2) ⟨by omega, by omega⟩ (by decide) (by decide) (by decide) (by decide))
  have a2 : In (x / 2048 / 1 % 2 * 1048576) 1048576 := In.part 1 20 (by decide) (by decide) (by decide) (by decide)
  have o2 := In.or o1.2 a2 (by decide)
  have b3 : bitV (x.fdiv 2) 0 10 = x / 2 / 1 % 1024 := by
    rw [Int.fdiv_eq_ediv_of_nonneg _ (by decide)]
    exact (bitV_lit (x := x / 2) (lo := 0) (n := 10) (d := 1) (M := 1024) ⟨by omega, by omega⟩ (by decide) (by decide) (by decide) (by decide))
  have a3 : In (x / 2 / 1 % 1024 * 2097152) 2145386496 := In.part 10 21 (by decide) (by decide) (by decide) (by decide)
  have o3 := In.or o2.2 a3 (by decide)
  rw [b0, b1, b2, b3, a0.wrap, a1.wrap, a2.wrap, a3.wrap, o1.1, o2.1, o3.1]
  unfold lsumJ
  simp only [Int.ediv_one]
theorem rvW_I {w : Int} (h : W32 w) : W32 (valI w) := by
  have h0 := h.1
  have h1 := h.2
  unfold W32 valI sumI; split <;> omega
theorem rimA_I {w : Int} (h : W32 w) : rimA 73 w = valI w := by
  rw [show rimA 73 w = rimI bitV w by simp [rimA, rimV]]; exact rimI_eq h
theorem rlyV_I {x : Int} (h : W32 x) : rlyV 73 x = (bif valI (lsumI x) != x then (0, false) else (lsumI x, true)) := by
  rw [show rlyV 73 x = rlpI bitV rimV x by simp [rlyV]]
  unfold rlpI
  have hl := (layI_eq h).2
  rw [rlyI_eq h, show rimV 73 (lsumI x) = rimI bitV (lsumI x) by simp [rimV], rimI_eq ⟨hl.lo, hl.hi⟩]
theorem layV_I {x : Int} (h : W32 x) : layV 73 x = (bif valI (lsumI x) != x then (0, false) else (lsumI x, true)) := by
  have ei : ∀ w, immV 73 w = immI bitV w := fun w => by simp [immV]
  have el : ∀ x, layW 73 x = layI bitV x := fun x => by simp [layW]
  have hl := (layI_eq h).2
  unfold layV
  rw [el, (layI_eq h).1, ei, immI_eq ⟨hl.lo, hl.hi⟩]
theorem rly_I {w : Int} (h : W32 w) : rlyV 73 (rimA 73 w) = (partI w, true) := by
  have ei : ∀ w, immV 73 w = immI bitV w := fun w => by simp [immV]
  rw [rimA_I h, rlyV_I (rvW_I h), ← layV_I (rvW_I h), ← immI_eq h, ← ei w]
  exact (layI_imm h).1
theorem rvW_S {w : Int} (h : W32 w) : W32 (valS w) := by
  have h0 := h.1
  have h1 := h.2
  unfold W32 valS sumS; split <;> omega
theorem rimA_S {w : Int} (h : W32 w) : rimA 83 w = valS w := by
  rw [show rimA 83 w = rimS bitV w by simp [rimA, rimV]]; exact rimS_eq h
theorem rlyV_S {x : Int} (h : W32 x) : rlyV 83 x = (bif valS (lsumS x) != x then (0, false) else (lsumS x, true)) := by
  rw [show rlyV 83 x = rlpS bitV rimV x by simp [rlyV]]
  unfold rlpS
  have hl := (layS_eq h).2
  rw [rlyS_eq h, show rimV 83 (lsumS x) = rimS bitV (lsumS x) by simp [rimV], rimS_eq ⟨hl.lo, hl.hi⟩]
theorem layV_S {x : Int} (h : W32 x) : layV 83 x = (bif valS (lsumS x) != x then (0, false) else (lsumS x, true)) := by
  have ei : ∀ w, immV 83 w = immS bitV w := fun w => by simp [immV]
  have el : ∀ x, layW 83 x = layS bitV x := fun x => by simp [layW]
  have hl := (layS_eq h).2
  unfold layV
  rw [el, (layS_eq h).1, ei, immS_eq ⟨hl.lo, hl.hi⟩]
theorem rly_S {w : Int} (h : W32 w) : rlyV 83 (rimA 83 w) = (partS w, true) := by
  have ei : ∀ w, immV 83 w = immS bitV w := fun w => by simp [immV]
  rw [rimA_S h, rlyV_S (rvW_S h), ← layV_S (rvW_S h), ← immS_eq h, ← ei w]
  exact (layS_imm h).1
theorem rvW_B {w : Int} (h : W32 w) : W32 (valB w) := by
  have h0 := h.1
  have h1 := h.2
  unfold W32 valB sumB; split <;> omega
theorem rimA_B {w : Int} (h : W32 w) : rimA 66 w = valB w := by
  rw [show rimA 66 w = rimB bitV w by simp [rimA, rimV]]; exact rimB_eq h
theorem rlyV_B {x : Int} (h : W32 x) : rlyV 66 x = (bif valB (lsumB x) != x then (0, false) else (lsumB x, true)) := by
  rw [show rlyV 66 x = rlpB bitV rimV x by simp [rlyV]]
  unfold rlpB
  have hl := (layB_eq h).2
  rw [rlyB_eq h, show rimV 66 (lsumB x) = rimB bitV (lsumB x) by simp [rimV], rimB_eq ⟨hl.lo, hl.hi⟩]
theorem layV_B {x : Int} (h : W32 x) : layV 66 x = (bif valB (lsumB x) != x then (0, false) else (lsumB x, true)) := by
  have ei : ∀ w, immV 66 w = immB bitV w := fun w => by simp [immV]
  have el : ∀ x, layW 66 x = layB bitV x := fun x => by simp [layW]
  have hl := (layB_eq h).2
  unfold layV
  rw [el, (layB_eq h).1, ei, immB_eq ⟨hl.lo, hl.hi⟩]
theorem rly_B {w : Int} (h : W32 w) : rlyV 66 (rimA 66 w) = (partB w, true) := by
  have ei : ∀ w, immV 66 w = immB bitV w := fun w => by simp [immV]
  rw [rimA_B h, rlyV_B (rvW_B h), ← layV_B (rvW_B h), ← immB_eq h, ← ei w]
  exact (layB_imm h).1
theorem rvW_U {w : Int} (h : W32 w) : W32 (valU w) := by
  have h0 := h.1
  have h1 := h.2
  unfold W32 valU sumU; omega
theorem rimA_U {w : Int} (h : W32 w) : rimA 85 w = valU w := by
  rw [show rimA 85 w = rimU bitV w by simp [rimA, rimV]]; exact rimU_eq h
theorem rlyV_U {x : Int} (h : W32 x) : rlyV 85 x = (bif valU (lsumU x) != x then (0, false) else (lsumU x, true)) := by
  rw [show rlyV 85 x = rlpU bitV rimV x by simp [rlyV]]
  unfold rlpU
  have hl := (layU_eq h).2
  rw [rlyU_eq h, show rimV 85 (lsumU x) = rimU bitV (lsumU x) by simp [rimV], rimU_eq ⟨hl.lo, hl.hi⟩]
theorem layV_U {x : Int} (h : W32 x) : layV 85 x = (bif valU (lsumU x) != x then (0, false) else (lsumU x, true)) := by
  have ei : ∀ w, immV 85 w = immU bitV w := fun w => by simp [immV]
  have el : ∀ x, layW 85 x = layU bitV x := fun x => by simp [layW]
  have hl := (layU_eq h).2
  unfold layV
  rw [el, (layU_eq h).1, ei, immU_eq ⟨hl.lo, hl.hi⟩]
theorem rly_U {w : Int} (h : W32 w) : rlyV 85 (rimA 85 w) = (partU w, true) := by
  have ei : ∀ w, immV 85 w = immU bitV w := fun w => by simp [immV]
  rw [rimA_U h, rlyV_U (rvW_U h), ← layV_U (rvW_U h), ← immU_eq h, ← ei w]
  exact (layU_imm h).1
theorem rvW_J {w : Int} (h : W32 w) : W32 (valJ w) := by
  have h0 := h.1
  have h1 := h.2
  unfold W32 valJ sumJ; split <;> omega
theorem rimA_J {w : Int} (h : W32 w) : rimA 74 w = valJ w := by
  rw [show rimA 74 w = rimJ bitV w by simp [rimA, rimV]]; exact rimJ_eq h
theorem rlyV_J {x : Int} (h : W32 x) : rlyV 74 x = (bif valJ (lsumJ x) != x then (0, false) else (lsumJ x, true)) := by
  rw [show rlyV 74 x = rlpJ bitV rimV x by simp [rlyV]]
  unfold rlpJ
  have hl := (layJ_eq h).2
  rw [rlyJ_eq h, show rimV 74 (lsumJ x) = rimJ bitV (lsumJ x) by simp [rimV], rimJ_eq ⟨hl.lo, hl.hi⟩]
theorem layV_J {x : Int} (h : W32 x) : layV 74 x = (bif valJ (lsumJ x) != x then (0, false) else (lsumJ x, true)) := by
  have ei : ∀ w, immV 74 w = immJ bitV w := fun w => by simp [immV]
  have el : ∀ x, layW 74 x = layJ bitV x := fun x => by simp [layW]
  have hl := (layJ_eq h).2
  unfold layV
  rw [el, (layJ_eq h).1, ei, immJ_eq ⟨hl.lo, hl.hi⟩]
theorem rly_J {w : Int} (h : W32 w) : rlyV 74 (rimA 74 w) = (partJ w, true) := by
  have ei : ∀ w, immV 74 w = immJ bitV w := fun w => by simp [immV]
  rw [rimA_J h, rlyV_J (rvW_J h), ← layV_J (rvW_J h), ← immJ_eq h, ← ei w]
  exact (layJ_imm h).1
theorem rfit_f0 {op opc w : Int} {nm : ByteArray} {h3 h7 : Bool} (h : W32 w) (ho : 0 ≤ opc ∧ opc < 128) : rfit w ⟨op, nm, opc, 0, 0, h3, h7, 85, true, false, false, false, 0, false⟩ = Isa.fitsB 0 opc 0 0 w := by
  have hw0 := h.1
  have hw1 := h.2
  unfold rfit rdI
  simp only [bne_self_eq_false, cond_false, cond_true, Bool.true_and, Bool.false_and]
  unfold rwV rwT rw0
  simp only [bne_self_eq_false, cond_false, cond_true]
  rw [rly_U h]
  have al := (layU_imm h).2
  have ed : IntKind.u32.wrap (IntKind.i64.wrap (bitV w 7 5)) = w / 128 % 32 := by
    rw [(bitV_lit (x := w) (lo := 7) (n := 5) (d := 128) (M := 32) h (by decide) (by decide) (by decide) (by decide)), i64_id (x := w / 128 % 32) (by omega)]; exact u32_id (by omega)
  have ad : In (w / 128 % 32 * 128) 3968 := In.part 5 7 (by decide) (by decide) (by decide) (by decide)
  rw [ed, ad.wrap]
  have aa : In 0 0 := In.zero 0
  have ab : In 0 0 := In.zero 0
  have ac : In 0 0 := In.zero 0
  try rw [show IntKind.u32.wrap (IntKind.u32.wrap 0 * 32768) = 0 from rfl]
  try rw [show IntKind.u32.wrap (IntKind.u32.wrap 0 * 1048576) = 0 from rfl]
  have ao : In (opc * 1) 127 := In.field 7 0 (by decide) (by decide) (by decide) ho.1 ho.2
  rw [Int.mul_one] at ao
  have a3 : In 0 0 := In.zero 0
  rw [show IntKind.u32.wrap (0 * 4096) = 0 from rfl]
  obtain ⟨e0, e3, e7, erd, ers1, ers2, e28, _, _, _, _⟩ := fl_all h
  simp only [Isa.fitsB, e0, e3, e7, erd, ers1, ers2, e28]
  clear e0 e3 e7 erd ers1 ers2 e28
  have a7 : In 0 0 := In.zero 0
  rw [show IntKind.u32.wrap (0 * 33554432) = 0 from rfl]
  have o0 := In.or ao a3 (by decide)
  have o1 := In.or o0.2 a7 (by decide)
  have o2 := In.or o1.2 al (by decide)
  have o3 := In.or o2.2 ad (by decide)
  have o4 := In.or o3.2 aa (by decide)
  have o5 := In.or o4.2 ab (by decide)
  have o6 := In.or o5.2 ac (by decide)
  rw [o0.1, o1.1, o2.1, o3.1, o4.1, o5.1, o6.1]
  clear o6 o5 o4 o3 o2 o1 o0
  clear ao a3 a7 al ad aa ab ac
  unfold partU
  rw [Bool.eq_iff_iff]
  simp only [beq_iff_eq, Bool.and_eq_true]
  omega
theorem rfit_f1 {op opc w : Int} {nm : ByteArray} {h3 h7 : Bool} (h : W32 w) (ho : 0 ≤ opc ∧ opc < 128) : rfit w ⟨op, nm, opc, 0, 0, h3, h7, 74, true, false, false, false, 0, false⟩ = Isa.fitsB 1 opc 0 0 w := by
  have hw0 := h.1
  have hw1 := h.2
  unfold rfit rdI
  simp only [bne_self_eq_false, cond_false, cond_true, Bool.true_and, Bool.false_and]
  unfold rwV rwT rw0
  simp only [bne_self_eq_false, cond_false, cond_true]
  rw [rly_J h]
  have al := (layJ_imm h).2
  have ed : IntKind.u32.wrap (IntKind.i64.wrap (bitV w 7 5)) = w / 128 % 32 := by
    rw [(bitV_lit (x := w) (lo := 7) (n := 5) (d := 128) (M := 32) h (by decide) (by decide) (by decide) (by decide)), i64_id (x := w / 128 % 32) (by omega)]; exact u32_id (by omega)
  have ad : In (w / 128 % 32 * 128) 3968 := In.part 5 7 (by decide) (by decide) (by decide) (by decide)
  rw [ed, ad.wrap]
  have aa : In 0 0 := In.zero 0
  have ab : In 0 0 := In.zero 0
  have ac : In 0 0 := In.zero 0
  try rw [show IntKind.u32.wrap (IntKind.u32.wrap 0 * 32768) = 0 from rfl]
  try rw [show IntKind.u32.wrap (IntKind.u32.wrap 0 * 1048576) = 0 from rfl]
  have ao : In (opc * 1) 127 := In.field 7 0 (by decide) (by decide) (by decide) ho.1 ho.2
  rw [Int.mul_one] at ao
  have a3 : In 0 0 := In.zero 0
  rw [show IntKind.u32.wrap (0 * 4096) = 0 from rfl]
  obtain ⟨e0, e3, e7, erd, ers1, ers2, e28, _, _, _, _⟩ := fl_all h
  simp only [Isa.fitsB, e0, e3, e7, erd, ers1, ers2, e28]
  clear e0 e3 e7 erd ers1 ers2 e28
  have a7 : In 0 0 := In.zero 0
  rw [show IntKind.u32.wrap (0 * 33554432) = 0 from rfl]
  have o0 := In.or ao a3 (by decide)
  have o1 := In.or o0.2 a7 (by decide)
  have o2 := In.or o1.2 al (by decide)
  have o3 := In.or o2.2 ad (by decide)
  have o4 := In.or o3.2 aa (by decide)
  have o5 := In.or o4.2 ab (by decide)
  have o6 := In.or o5.2 ac (by decide)
  rw [o0.1, o1.1, o2.1, o3.1, o4.1, o5.1, o6.1]
  clear o6 o5 o4 o3 o2 o1 o0
  clear ao a3 a7 al ad aa ab ac
  unfold partJ
  rw [Bool.eq_iff_iff]
  simp only [beq_iff_eq, Bool.and_eq_true]
  omega
theorem rfit_f2 {op opc f3 w : Int} {nm : ByteArray} {h3 h7 : Bool} (h : W32 w) (ho : 0 ≤ opc ∧ opc < 128) (hb3 : 0 ≤ f3 ∧ f3 < 8) : rfit w ⟨op, nm, opc, f3, 0, h3, h7, 73, true, true, false, false, 0, false⟩ = Isa.fitsB 2 opc f3 0 w := by
  have hw0 := h.1
  have hw1 := h.2
  unfold rfit rdI
  simp only [bne_self_eq_false, cond_false, cond_true, Bool.true_and, Bool.false_and]
  unfold rwV rwT rw0
  simp only [bne_self_eq_false, cond_false, cond_true]
  rw [rly_I h]
  have al := (layI_imm h).2
  have ed : IntKind.u32.wrap (IntKind.i64.wrap (bitV w 7 5)) = w / 128 % 32 := by
    rw [(bitV_lit (x := w) (lo := 7) (n := 5) (d := 128) (M := 32) h (by decide) (by decide) (by decide) (by decide)), i64_id (x := w / 128 % 32) (by omega)]; exact u32_id (by omega)
  have ad : In (w / 128 % 32 * 128) 3968 := In.part 5 7 (by decide) (by decide) (by decide) (by decide)
  rw [ed, ad.wrap]
  have ea : IntKind.u32.wrap (IntKind.i64.wrap (bitV w 15 5)) = w / 32768 % 32 := by
    rw [(bitV_lit (x := w) (lo := 15) (n := 5) (d := 32768) (M := 32) h (by decide) (by decide) (by decide) (by decide)), i64_id (x := w / 32768 % 32) (by omega)]; exact u32_id (by omega)
  have aa : In (w / 32768 % 32 * 32768) 1015808 := In.part 5 15 (by decide) (by decide) (by decide) (by decide)
  rw [ea, aa.wrap]
  have ab : In 0 0 := In.zero 0
  have ac : In 0 0 := In.zero 0
  try rw [show IntKind.u32.wrap (IntKind.u32.wrap 0 * 1048576) = 0 from rfl]
  have ao : In (opc * 1) 127 := In.field 7 0 (by decide) (by decide) (by decide) ho.1 ho.2
  rw [Int.mul_one] at ao
  have a3 : In (f3 * 4096) 28672 := In.field 3 12 (by decide) (by decide) (by decide) hb3.1 hb3.2
  try rw [a3.wrap]
  obtain ⟨e0, e3, e7, erd, ers1, ers2, e28, _, _, _, _⟩ := fl_all h
  simp only [Isa.fitsB, e0, e3, e7, erd, ers1, ers2, e28]
  clear e0 e3 e7 erd ers1 ers2 e28
  have a7 : In 0 0 := In.zero 0
  rw [show IntKind.u32.wrap (0 * 33554432) = 0 from rfl]
  have o0 := In.or ao a3 (by decide)
  have o1 := In.or o0.2 a7 (by decide)
  have o2 := In.or o1.2 al (by decide)
  have o3 := In.or o2.2 ad (by decide)
  have o4 := In.or o3.2 aa (by decide)
  have o5 := In.or o4.2 ab (by decide)
  have o6 := In.or o5.2 ac (by decide)
  rw [o0.1, o1.1, o2.1, o3.1, o4.1, o5.1, o6.1]
  clear o6 o5 o4 o3 o2 o1 o0
  clear ao a3 a7 al ad aa ab ac
  unfold partI
  rw [Bool.eq_iff_iff]
  simp only [beq_iff_eq, Bool.and_eq_true]
  omega
theorem rfit_f3 {op opc f3 w : Int} {nm : ByteArray} {h3 h7 : Bool} (h : W32 w) (ho : 0 ≤ opc ∧ opc < 128) (hb3 : 0 ≤ f3 ∧ f3 < 8) : rfit w ⟨op, nm, opc, f3, 0, h3, h7, 66, false, true, true, false, 0, false⟩ = Isa.fitsB 3 opc f3 0 w := by
  have hw0 := h.1
  have hw1 := h.2
  unfold rfit rdI
  simp only [bne_self_eq_false, cond_false, cond_true, Bool.true_and, Bool.false_and]
  unfold rwV rwT rw0
  simp only [bne_self_eq_false, cond_false, cond_true]
  rw [rly_B h]
  have al := (layB_imm h).2
  have ad : In 0 0 := In.zero 0
  have ea : IntKind.u32.wrap (IntKind.i64.wrap (bitV w 15 5)) = w / 32768 % 32 := by
    rw [(bitV_lit (x := w) (lo := 15) (n := 5) (d := 32768) (M := 32) h (by decide) (by decide) (by decide) (by decide)), i64_id (x := w / 32768 % 32) (by omega)]; exact u32_id (by omega)
  have aa : In (w / 32768 % 32 * 32768) 1015808 := In.part 5 15 (by decide) (by decide) (by decide) (by decide)
  rw [ea, aa.wrap]
  have eb : IntKind.u32.wrap (IntKind.i64.wrap (bitV w 20 5)) = w / 1048576 % 32 := by
    rw [(bitV_lit (x := w) (lo := 20) (n := 5) (d := 1048576) (M := 32) h (by decide) (by decide) (by decide) (by decide)), i64_id (x := w / 1048576 % 32) (by omega)]; exact u32_id (by omega)
  have ab : In (w / 1048576 % 32 * 1048576) 32505856 := In.part 5 20 (by decide) (by decide) (by decide) (by decide)
  rw [eb, ab.wrap]
  have ac : In 0 0 := In.zero 0
  try rw [show IntKind.u32.wrap (IntKind.u32.wrap 0 * 128) = 0 from rfl]
  try rw [show IntKind.u32.wrap (IntKind.u32.wrap 0 * 1048576) = 0 from rfl]
  have ao : In (opc * 1) 127 := In.field 7 0 (by decide) (by decide) (by decide) ho.1 ho.2
  rw [Int.mul_one] at ao
  have a3 : In (f3 * 4096) 28672 := In.field 3 12 (by decide) (by decide) (by decide) hb3.1 hb3.2
  try rw [a3.wrap]
  obtain ⟨e0, e3, e7, erd, ers1, ers2, e28, _, _, _, _⟩ := fl_all h
  simp only [Isa.fitsB, e0, e3, e7, erd, ers1, ers2, e28]
  clear e0 e3 e7 erd ers1 ers2 e28
  have a7 : In 0 0 := In.zero 0
  rw [show IntKind.u32.wrap (0 * 33554432) = 0 from rfl]
  have o0 := In.or ao a3 (by decide)
  have o1 := In.or o0.2 a7 (by decide)
  have o2 := In.or o1.2 al (by decide)
  have o3 := In.or o2.2 ad (by decide)
  have o4 := In.or o3.2 aa (by decide)
  have o5 := In.or o4.2 ab (by decide)
  have o6 := In.or o5.2 ac (by decide)
  rw [o0.1, o1.1, o2.1, o3.1, o4.1, o5.1, o6.1]
  clear o6 o5 o4 o3 o2 o1 o0
  clear ao a3 a7 al ad aa ab ac
  unfold partB
  rw [Bool.eq_iff_iff]
  simp only [beq_iff_eq, Bool.and_eq_true]
  omega
theorem rfit_f4 {op opc f3 w : Int} {nm : ByteArray} {h3 h7 : Bool} (h : W32 w) (ho : 0 ≤ opc ∧ opc < 128) (hb3 : 0 ≤ f3 ∧ f3 < 8) : rfit w ⟨op, nm, opc, f3, 0, h3, h7, 83, false, true, true, false, 0, false⟩ = Isa.fitsB 4 opc f3 0 w := by
  have hw0 := h.1
  have hw1 := h.2
  unfold rfit rdI
  simp only [bne_self_eq_false, cond_false, cond_true, Bool.true_and, Bool.false_and]
  unfold rwV rwT rw0
  simp only [bne_self_eq_false, cond_false, cond_true]
  rw [rly_S h]
  have al := (layS_imm h).2
  have ad : In 0 0 := In.zero 0
  have ea : IntKind.u32.wrap (IntKind.i64.wrap (bitV w 15 5)) = w / 32768 % 32 := by
    rw [(bitV_lit (x := w) (lo := 15) (n := 5) (d := 32768) (M := 32) h (by decide) (by decide) (by decide) (by decide)), i64_id (x := w / 32768 % 32) (by omega)]; exact u32_id (by omega)
  have aa : In (w / 32768 % 32 * 32768) 1015808 := In.part 5 15 (by decide) (by decide) (by decide) (by decide)
  rw [ea, aa.wrap]
  have eb : IntKind.u32.wrap (IntKind.i64.wrap (bitV w 20 5)) = w / 1048576 % 32 := by
    rw [(bitV_lit (x := w) (lo := 20) (n := 5) (d := 1048576) (M := 32) h (by decide) (by decide) (by decide) (by decide)), i64_id (x := w / 1048576 % 32) (by omega)]; exact u32_id (by omega)
  have ab : In (w / 1048576 % 32 * 1048576) 32505856 := In.part 5 20 (by decide) (by decide) (by decide) (by decide)
  rw [eb, ab.wrap]
  have ac : In 0 0 := In.zero 0
  try rw [show IntKind.u32.wrap (IntKind.u32.wrap 0 * 128) = 0 from rfl]
  try rw [show IntKind.u32.wrap (IntKind.u32.wrap 0 * 1048576) = 0 from rfl]
  have ao : In (opc * 1) 127 := In.field 7 0 (by decide) (by decide) (by decide) ho.1 ho.2
  rw [Int.mul_one] at ao
  have a3 : In (f3 * 4096) 28672 := In.field 3 12 (by decide) (by decide) (by decide) hb3.1 hb3.2
  try rw [a3.wrap]
  obtain ⟨e0, e3, e7, erd, ers1, ers2, e28, _, _, _, _⟩ := fl_all h
  simp only [Isa.fitsB, e0, e3, e7, erd, ers1, ers2, e28]
  clear e0 e3 e7 erd ers1 ers2 e28
  have a7 : In 0 0 := In.zero 0
  rw [show IntKind.u32.wrap (0 * 33554432) = 0 from rfl]
  have o0 := In.or ao a3 (by decide)
  have o1 := In.or o0.2 a7 (by decide)
  have o2 := In.or o1.2 al (by decide)
  have o3 := In.or o2.2 ad (by decide)
  have o4 := In.or o3.2 aa (by decide)
  have o5 := In.or o4.2 ab (by decide)
  have o6 := In.or o5.2 ac (by decide)
  rw [o0.1, o1.1, o2.1, o3.1, o4.1, o5.1, o6.1]
  clear o6 o5 o4 o3 o2 o1 o0
  clear ao a3 a7 al ad aa ab ac
  unfold partS
  rw [Bool.eq_iff_iff]
  simp only [beq_iff_eq, Bool.and_eq_true]
  omega
theorem rfit_f5 {op opc f3 f7 w : Int} {nm : ByteArray} {h3 h7 : Bool} (h : W32 w) (ho : 0 ≤ opc ∧ opc < 128) (hb3 : 0 ≤ f3 ∧ f3 < 8) (hb7 : 0 ≤ f7 ∧ f7 < 128) : rfit w ⟨op, nm, opc, f3, f7, h3, h7, 90, true, true, false, false, 0, false⟩ = Isa.fitsB 5 opc f3 f7 w := by
  have hw0 := h.1
  have hw1 := h.2
  unfold rfit rdI
  simp only [bne_self_eq_false, cond_false, cond_true, Bool.true_and, Bool.false_and]
  unfold rwV rwT rw0
  simp only [bne_self_eq_false, cond_false, cond_true]
  have el : (rlyV 90 (rimA 90 w)).1 = w / 1048576 % 32 * 1048576 := by
    have al : In (w / 1048576 % 32 * 1048576) 32505856 := In.part 5 20 (by decide) (by decide) (by decide) (by decide)
    rw [show rimA 90 w = bitV w 20 5 by simp [rimA], (bitV_lit (x := w) (lo := 20) (n := 5) (d := 1048576) (M := 32) h (by decide) (by decide) (by decide) (by decide))]
    show (IntKind.u32.wrap (w / 1048576 % 32 * 1048576)) = _
    exact al.wrap
  rw [el]
  have al : In (w / 1048576 % 32 * 1048576) 32505856 := In.part 5 20 (by decide) (by decide) (by decide) (by decide)
  have ed : IntKind.u32.wrap (IntKind.i64.wrap (bitV w 7 5)) = w / 128 % 32 := by
    rw [(bitV_lit (x := w) (lo := 7) (n := 5) (d := 128) (M := 32) h (by decide) (by decide) (by decide) (by decide)), i64_id (x := w / 128 % 32) (by omega)]; exact u32_id (by omega)
  have ad : In (w / 128 % 32 * 128) 3968 := In.part 5 7 (by decide) (by decide) (by decide) (by decide)
  rw [ed, ad.wrap]
  have ea : IntKind.u32.wrap (IntKind.i64.wrap (bitV w 15 5)) = w / 32768 % 32 := by
    rw [(bitV_lit (x := w) (lo := 15) (n := 5) (d := 32768) (M := 32) h (by decide) (by decide) (by decide) (by decide)), i64_id (x := w / 32768 % 32) (by omega)]; exact u32_id (by omega)
  have aa : In (w / 32768 % 32 * 32768) 1015808 := In.part 5 15 (by decide) (by decide) (by decide) (by decide)
  rw [ea, aa.wrap]
  have ab : In 0 0 := In.zero 0
  have ac : In 0 0 := In.zero 0
  try rw [show IntKind.u32.wrap (IntKind.u32.wrap 0 * 1048576) = 0 from rfl]
  have ao : In (opc * 1) 127 := In.field 7 0 (by decide) (by decide) (by decide) ho.1 ho.2
  rw [Int.mul_one] at ao
  have a3 : In (f3 * 4096) 28672 := In.field 3 12 (by decide) (by decide) (by decide) hb3.1 hb3.2
  try rw [a3.wrap]
  obtain ⟨e0, e3, e7, erd, ers1, ers2, e28, _, _, _, _⟩ := fl_all h
  simp only [Isa.fitsB, e0, e3, e7, erd, ers1, ers2, e28]
  clear e0 e3 e7 erd ers1 ers2 e28
  have a7 : In (f7 * 33554432) 4261412864 := In.field 7 25 (by decide) (by decide) (by decide) hb7.1 hb7.2
  rw [a7.wrap]
  have o0 := In.or ao a3 (by decide)
  have o1 := In.or o0.2 a7 (by decide)
  have o2 := In.or o1.2 al (by decide)
  have o3 := In.or o2.2 ad (by decide)
  have o4 := In.or o3.2 aa (by decide)
  have o5 := In.or o4.2 ab (by decide)
  have o6 := In.or o5.2 ac (by decide)
  rw [o0.1, o1.1, o2.1, o3.1, o4.1, o5.1, o6.1]
  clear o6 o5 o4 o3 o2 o1 o0
  clear ao a3 a7 al ad aa ab ac
  rw [Bool.eq_iff_iff]
  simp only [beq_iff_eq, Bool.and_eq_true]
  omega
theorem rfit_f6 {op opc f3 f7 w : Int} {nm : ByteArray} {h3 h7 : Bool} (h : W32 w) (ho : 0 ≤ opc ∧ opc < 128) (hb3 : 0 ≤ f3 ∧ f3 < 8) (hb7 : 0 ≤ f7 ∧ f7 < 128) : rfit w ⟨op, nm, opc, f3, f7, h3, h7, 0, true, true, true, false, 0, false⟩ = Isa.fitsB 6 opc f3 f7 w := by
  have hw0 := h.1
  have hw1 := h.2
  unfold rfit rdI
  simp only [bne_self_eq_false, cond_false, cond_true, Bool.true_and, Bool.false_and]
  unfold rwV rwT rw0
  simp only [bne_self_eq_false, cond_false, cond_true]
  rw [show (rlyV 0 (rimA 0 w)).1 = 0 from rfl]
  have al : In 0 0 := In.zero 0
  have ed : IntKind.u32.wrap (IntKind.i64.wrap (bitV w 7 5)) = w / 128 % 32 := by
    rw [(bitV_lit (x := w) (lo := 7) (n := 5) (d := 128) (M := 32) h (by decide) (by decide) (by decide) (by decide)), i64_id (x := w / 128 % 32) (by omega)]; exact u32_id (by omega)
  have ad : In (w / 128 % 32 * 128) 3968 := In.part 5 7 (by decide) (by decide) (by decide) (by decide)
  rw [ed, ad.wrap]
  have ea : IntKind.u32.wrap (IntKind.i64.wrap (bitV w 15 5)) = w / 32768 % 32 := by
    rw [(bitV_lit (x := w) (lo := 15) (n := 5) (d := 32768) (M := 32) h (by decide) (by decide) (by decide) (by decide)), i64_id (x := w / 32768 % 32) (by omega)]; exact u32_id (by omega)
  have aa : In (w / 32768 % 32 * 32768) 1015808 := In.part 5 15 (by decide) (by decide) (by decide) (by decide)
  rw [ea, aa.wrap]
  have eb : IntKind.u32.wrap (IntKind.i64.wrap (bitV w 20 5)) = w / 1048576 % 32 := by
    rw [(bitV_lit (x := w) (lo := 20) (n := 5) (d := 1048576) (M := 32) h (by decide) (by decide) (by decide) (by decide)), i64_id (x := w / 1048576 % 32) (by omega)]; exact u32_id (by omega)
  have ab : In (w / 1048576 % 32 * 1048576) 32505856 := In.part 5 20 (by decide) (by decide) (by decide) (by decide)
  rw [eb, ab.wrap]
  have ac : In 0 0 := In.zero 0
  try rw [show IntKind.u32.wrap (IntKind.u32.wrap 0 * 1048576) = 0 from rfl]
  have ao : In (opc * 1) 127 := In.field 7 0 (by decide) (by decide) (by decide) ho.1 ho.2
  rw [Int.mul_one] at ao
  have a3 : In (f3 * 4096) 28672 := In.field 3 12 (by decide) (by decide) (by decide) hb3.1 hb3.2
  try rw [a3.wrap]
  obtain ⟨e0, e3, e7, erd, ers1, ers2, e28, _, _, _, _⟩ := fl_all h
  simp only [Isa.fitsB, e0, e3, e7, erd, ers1, ers2, e28]
  clear e0 e3 e7 erd ers1 ers2 e28
  have a7 : In (f7 * 33554432) 4261412864 := In.field 7 25 (by decide) (by decide) (by decide) hb7.1 hb7.2
  rw [a7.wrap]
  have o0 := In.or ao a3 (by decide)
  have o1 := In.or o0.2 a7 (by decide)
  have o2 := In.or o1.2 al (by decide)
  have o3 := In.or o2.2 ad (by decide)
  have o4 := In.or o3.2 aa (by decide)
  have o5 := In.or o4.2 ab (by decide)
  have o6 := In.or o5.2 ac (by decide)
  rw [o0.1, o1.1, o2.1, o3.1, o4.1, o5.1, o6.1]
  clear o6 o5 o4 o3 o2 o1 o0
  clear ao a3 a7 al ad aa ab ac
  rw [Bool.eq_iff_iff]
  simp only [beq_iff_eq, Bool.and_eq_true]
  omega
theorem rfit_f7 {op opc f3 w : Int} {nm : ByteArray} {h3 h7 : Bool} (h : W32 w) (ho : 0 ≤ opc ∧ opc < 128) (hb3 : 0 ≤ f3 ∧ f3 < 8) : rfit w ⟨op, nm, opc, f3, 0, h3, h7, 70, false, false, false, false, 0, false⟩ = Isa.fitsB 7 opc f3 0 w := by
  have hw0 := h.1
  have hw1 := h.2
  unfold rfit rdI
  simp only [bne_self_eq_false, cond_false, cond_true, Bool.true_and, Bool.false_and]
  unfold rwV rwT rw0
  simp only [bne_self_eq_false, cond_false, cond_true]
  have el : (rlyV 70 (rimA 70 w)).1 = w / 1048576 % 256 * 1048576 := by
    have al : In (w / 1048576 % 256 * 1048576) 267386880 := In.part 8 20 (by decide) (by decide) (by decide) (by decide)
    rw [show rimA 70 w = bitV w 20 8 by simp [rimA], (bitV_lit (x := w) (lo := 20) (n := 8) (d := 1048576) (M := 256) h (by decide) (by decide) (by decide) (by decide))]
    show (IntKind.u32.wrap (w / 1048576 % 256 * 1048576)) = _
    exact al.wrap
  rw [el]
  have al : In (w / 1048576 % 256 * 1048576) 267386880 := In.part 8 20 (by decide) (by decide) (by decide) (by decide)
  have ad : In 0 0 := In.zero 0
  have aa : In 0 0 := In.zero 0
  have ab : In 0 0 := In.zero 0
  have ac : In 0 0 := In.zero 0
  try rw [show IntKind.u32.wrap (IntKind.u32.wrap 0 * 128) = 0 from rfl]
  try rw [show IntKind.u32.wrap (IntKind.u32.wrap 0 * 32768) = 0 from rfl]
  try rw [show IntKind.u32.wrap (IntKind.u32.wrap 0 * 1048576) = 0 from rfl]
  have ao : In (opc * 1) 127 := In.field 7 0 (by decide) (by decide) (by decide) ho.1 ho.2
  rw [Int.mul_one] at ao
  have a3 : In (f3 * 4096) 28672 := In.field 3 12 (by decide) (by decide) (by decide) hb3.1 hb3.2
  try rw [a3.wrap]
  obtain ⟨e0, e3, e7, erd, ers1, ers2, e28, _, _, _, _⟩ := fl_all h
  simp only [Isa.fitsB, e0, e3, e7, erd, ers1, ers2, e28]
  clear e0 e3 e7 erd ers1 ers2 e28
  have a7 : In 0 0 := In.zero 0
  rw [show IntKind.u32.wrap (0 * 33554432) = 0 from rfl]
  have o0 := In.or ao a3 (by decide)
  have o1 := In.or o0.2 a7 (by decide)
  have o2 := In.or o1.2 al (by decide)
  have o3 := In.or o2.2 ad (by decide)
  have o4 := In.or o3.2 aa (by decide)
  have o5 := In.or o4.2 ab (by decide)
  have o6 := In.or o5.2 ac (by decide)
  rw [o0.1, o1.1, o2.1, o3.1, o4.1, o5.1, o6.1]
  clear o6 o5 o4 o3 o2 o1 o0
  clear ao a3 a7 al ad aa ab ac
  rw [Bool.eq_iff_iff]
  simp only [beq_iff_eq, Bool.and_eq_true]
  omega
theorem rfit_f9 {op opc f3 f7 w : Int} {nm : ByteArray} {h3 h7 : Bool} (h : W32 w) (ho : 0 ≤ opc ∧ opc < 128) (hb3 : 0 ≤ f3 ∧ f3 < 8) (hb7 : 0 ≤ f7 ∧ f7 < 128) : rfit w ⟨op, nm, opc, f3, f7, h3, h7, 0, false, true, true, false, 0, false⟩ = Isa.fitsB 9 opc f3 f7 w := by
  have hw0 := h.1
  have hw1 := h.2
  unfold rfit rdI
  simp only [bne_self_eq_false, cond_false, cond_true, Bool.true_and, Bool.false_and]
  unfold rwV rwT rw0
  simp only [bne_self_eq_false, cond_false, cond_true]
  rw [show (rlyV 0 (rimA 0 w)).1 = 0 from rfl]
  have al : In 0 0 := In.zero 0
  have ad : In 0 0 := In.zero 0
  have ea : IntKind.u32.wrap (IntKind.i64.wrap (bitV w 15 5)) = w / 32768 % 32 := by
    rw [(bitV_lit (x := w) (lo := 15) (n := 5) (d := 32768) (M := 32) h (by decide) (by decide) (by decide) (by decide)), i64_id (x := w / 32768 % 32) (by omega)]; exact u32_id (by omega)
  have aa : In (w / 32768 % 32 * 32768) 1015808 := In.part 5 15 (by decide) (by decide) (by decide) (by decide)
  rw [ea, aa.wrap]
  have eb : IntKind.u32.wrap (IntKind.i64.wrap (bitV w 20 5)) = w / 1048576 % 32 := by
    rw [(bitV_lit (x := w) (lo := 20) (n := 5) (d := 1048576) (M := 32) h (by decide) (by decide) (by decide) (by decide)), i64_id (x := w / 1048576 % 32) (by omega)]; exact u32_id (by omega)
  have ab : In (w / 1048576 % 32 * 1048576) 32505856 := In.part 5 20 (by decide) (by decide) (by decide) (by decide)
  rw [eb, ab.wrap]
  have ac : In 0 0 := In.zero 0
  try rw [show IntKind.u32.wrap (IntKind.u32.wrap 0 * 128) = 0 from rfl]
  try rw [show IntKind.u32.wrap (IntKind.u32.wrap 0 * 1048576) = 0 from rfl]
  have ao : In (opc * 1) 127 := In.field 7 0 (by decide) (by decide) (by decide) ho.1 ho.2
  rw [Int.mul_one] at ao
  have a3 : In (f3 * 4096) 28672 := In.field 3 12 (by decide) (by decide) (by decide) hb3.1 hb3.2
  try rw [a3.wrap]
  obtain ⟨e0, e3, e7, erd, ers1, ers2, e28, _, _, _, _⟩ := fl_all h
  simp only [Isa.fitsB, e0, e3, e7, erd, ers1, ers2, e28]
  clear e0 e3 e7 erd ers1 ers2 e28
  have a7 : In (f7 * 33554432) 4261412864 := In.field 7 25 (by decide) (by decide) (by decide) hb7.1 hb7.2
  rw [a7.wrap]
  have o0 := In.or ao a3 (by decide)
  have o1 := In.or o0.2 a7 (by decide)
  have o2 := In.or o1.2 al (by decide)
  have o3 := In.or o2.2 ad (by decide)
  have o4 := In.or o3.2 aa (by decide)
  have o5 := In.or o4.2 ab (by decide)
  have o6 := In.or o5.2 ac (by decide)
  rw [o0.1, o1.1, o2.1, o3.1, o4.1, o5.1, o6.1]
  clear o6 o5 o4 o3 o2 o1 o0
  clear ao a3 a7 al ad aa ab ac
  rw [Bool.eq_iff_iff]
  simp only [beq_iff_eq, Bool.and_eq_true]
  omega
theorem rfit_f10 {op opc f3 w : Int} {nm : ByteArray} {h3 h7 : Bool} (h : W32 w) (ho : 0 ≤ opc ∧ opc < 128) (hb3 : 0 ≤ f3 ∧ f3 < 8) : rfit w ⟨op, nm, opc, f3, 0, h3, h7, 0, true, true, false, true, 0, false⟩ = Isa.fitsB 10 opc f3 0 w := by
  have hw0 := h.1
  have hw1 := h.2
  unfold rfit rdI
  simp only [bne_self_eq_false, cond_false, cond_true, Bool.true_and, Bool.false_and]
  unfold rwV rwT rw0
  simp only [bne_self_eq_false, cond_false, cond_true]
  rw [show (rlyV 0 (rimA 0 w)).1 = 0 from rfl]
  have al : In 0 0 := In.zero 0
  have ed : IntKind.u32.wrap (IntKind.i64.wrap (bitV w 7 5)) = w / 128 % 32 := by
    rw [(bitV_lit (x := w) (lo := 7) (n := 5) (d := 128) (M := 32) h (by decide) (by decide) (by decide) (by decide)), i64_id (x := w / 128 % 32) (by omega)]; exact u32_id (by omega)
  have ad : In (w / 128 % 32 * 128) 3968 := In.part 5 7 (by decide) (by decide) (by decide) (by decide)
  rw [ed, ad.wrap]
  have ea : IntKind.u32.wrap (IntKind.i64.wrap (bitV w 15 5)) = w / 32768 % 32 := by
    rw [(bitV_lit (x := w) (lo := 15) (n := 5) (d := 32768) (M := 32) h (by decide) (by decide) (by decide) (by decide)), i64_id (x := w / 32768 % 32) (by omega)]; exact u32_id (by omega)
  have aa : In (w / 32768 % 32 * 32768) 1015808 := In.part 5 15 (by decide) (by decide) (by decide) (by decide)
  rw [ea, aa.wrap]
  have ab : In 0 0 := In.zero 0
  have ec : IntKind.u32.wrap (IntKind.i64.wrap (bitV w 20 12)) = w / 1048576 % 4096 := by
    rw [(bitV_lit (x := w) (lo := 20) (n := 12) (d := 1048576) (M := 4096) h (by decide) (by decide) (by decide) (by decide)), i64_id (x := w / 1048576 % 4096) (by omega)]; exact u32_id (by omega)
  have ac : In (w / 1048576 % 4096 * 1048576) 4293918720 := In.part 12 20 (by decide) (by decide) (by decide) (by decide)
  rw [ec, ac.wrap]
  try rw [show IntKind.u32.wrap (IntKind.u32.wrap 0 * 1048576) = 0 from rfl]
  have ao : In (opc * 1) 127 := In.field 7 0 (by decide) (by decide) (by decide) ho.1 ho.2
  rw [Int.mul_one] at ao
  have a3 : In (f3 * 4096) 28672 := In.field 3 12 (by decide) (by decide) (by decide) hb3.1 hb3.2
  try rw [a3.wrap]
  obtain ⟨e0, e3, e7, erd, ers1, ers2, e28, _, _, _, _⟩ := fl_all h
  simp only [Isa.fitsB, e0, e3, e7, erd, ers1, ers2, e28]
  clear e0 e3 e7 erd ers1 ers2 e28
  have a7 : In 0 0 := In.zero 0
  rw [show IntKind.u32.wrap (0 * 33554432) = 0 from rfl]
  have o0 := In.or ao a3 (by decide)
  have o1 := In.or o0.2 a7 (by decide)
  have o2 := In.or o1.2 al (by decide)
  have o3 := In.or o2.2 ad (by decide)
  have o4 := In.or o3.2 aa (by decide)
  have o5 := In.or o4.2 ab (by decide)
  have o6 := In.or o5.2 ac (by decide)
  rw [o0.1, o1.1, o2.1, o3.1, o4.1, o5.1, o6.1]
  clear o6 o5 o4 o3 o2 o1 o0
  clear ao a3 a7 al ad aa ab ac
  rw [Bool.eq_iff_iff]
  simp only [beq_iff_eq, Bool.and_eq_true]
  omega
theorem rfit_f11 {op opc f3 w : Int} {nm : ByteArray} {h3 h7 : Bool} (h : W32 w) (ho : 0 ≤ opc ∧ opc < 128) (hb3 : 0 ≤ f3 ∧ f3 < 8) : rfit w ⟨op, nm, opc, f3, 0, h3, h7, 67, true, false, false, true, 0, false⟩ = Isa.fitsB 11 opc f3 0 w := by
  have hw0 := h.1
  have hw1 := h.2
  unfold rfit rdI
  simp only [bne_self_eq_false, cond_false, cond_true, Bool.true_and, Bool.false_and]
  unfold rwV rwT rw0
  simp only [bne_self_eq_false, cond_false, cond_true]
  have el : (rlyV 67 (rimA 67 w)).1 = w / 32768 % 32 * 32768 := by
    have al : In (w / 32768 % 32 * 32768) 1015808 := In.part 5 15 (by decide) (by decide) (by decide) (by decide)
    rw [show rimA 67 w = bitV w 15 5 by simp [rimA], (bitV_lit (x := w) (lo := 15) (n := 5) (d := 32768) (M := 32) h (by decide) (by decide) (by decide) (by decide))]
    show (IntKind.u32.wrap (w / 32768 % 32 * 32768)) = _
    exact al.wrap
  rw [el]
  have al : In (w / 32768 % 32 * 32768) 1015808 := In.part 5 15 (by decide) (by decide) (by decide) (by decide)
  have ed : IntKind.u32.wrap (IntKind.i64.wrap (bitV w 7 5)) = w / 128 % 32 := by
    rw [(bitV_lit (x := w) (lo := 7) (n := 5) (d := 128) (M := 32) h (by decide) (by decide) (by decide) (by decide)), i64_id (x := w / 128 % 32) (by omega)]; exact u32_id (by omega)
  have ad : In (w / 128 % 32 * 128) 3968 := In.part 5 7 (by decide) (by decide) (by decide) (by decide)
  rw [ed, ad.wrap]
  have aa : In 0 0 := In.zero 0
  have ab : In 0 0 := In.zero 0
  have ec : IntKind.u32.wrap (IntKind.i64.wrap (bitV w 20 12)) = w / 1048576 % 4096 := by
    rw [(bitV_lit (x := w) (lo := 20) (n := 12) (d := 1048576) (M := 4096) h (by decide) (by decide) (by decide) (by decide)), i64_id (x := w / 1048576 % 4096) (by omega)]; exact u32_id (by omega)
  have ac : In (w / 1048576 % 4096 * 1048576) 4293918720 := In.part 12 20 (by decide) (by decide) (by decide) (by decide)
  rw [ec, ac.wrap]
  try rw [show IntKind.u32.wrap (IntKind.u32.wrap 0 * 32768) = 0 from rfl]
  try rw [show IntKind.u32.wrap (IntKind.u32.wrap 0 * 1048576) = 0 from rfl]
  have ao : In (opc * 1) 127 := In.field 7 0 (by decide) (by decide) (by decide) ho.1 ho.2
  rw [Int.mul_one] at ao
  have a3 : In (f3 * 4096) 28672 := In.field 3 12 (by decide) (by decide) (by decide) hb3.1 hb3.2
  try rw [a3.wrap]
  obtain ⟨e0, e3, e7, erd, ers1, ers2, e28, _, _, _, _⟩ := fl_all h
  simp only [Isa.fitsB, e0, e3, e7, erd, ers1, ers2, e28]
  clear e0 e3 e7 erd ers1 ers2 e28
  have a7 : In 0 0 := In.zero 0
  rw [show IntKind.u32.wrap (0 * 33554432) = 0 from rfl]
  have o0 := In.or ao a3 (by decide)
  have o1 := In.or o0.2 a7 (by decide)
  have o2 := In.or o1.2 al (by decide)
  have o3 := In.or o2.2 ad (by decide)
  have o4 := In.or o3.2 aa (by decide)
  have o5 := In.or o4.2 ab (by decide)
  have o6 := In.or o5.2 ac (by decide)
  rw [o0.1, o1.1, o2.1, o3.1, o4.1, o5.1, o6.1]
  clear o6 o5 o4 o3 o2 o1 o0
  clear ao a3 a7 al ad aa ab ac
  rw [Bool.eq_iff_iff]
  simp only [beq_iff_eq, Bool.and_eq_true]
  omega
theorem rfit_f12 {op opc f3 f7 w : Int} {nm : ByteArray} {h3 h7 : Bool} (h : W32 w) (ho : 0 ≤ opc ∧ opc < 128) (hb3 : 0 ≤ f3 ∧ f3 < 8) (hb7 : 0 ≤ f7 ∧ f7 < 32) : rfit w ⟨op, nm, opc, f3, f7, h3, h7, 0, true, true, false, false, 0, true⟩ = Isa.fitsB 12 opc f3 f7 w := by
  have hw0 := h.1
  have hw1 := h.2
  unfold rfit rdI
  simp only [bne_self_eq_false, cond_false, cond_true, Bool.true_and, Bool.false_and]
  unfold rwV rwT rw0
  simp only [bne_self_eq_false, cond_false, cond_true]
  rw [show (rlyV 0 (rimA 0 w)).1 = 0 from rfl]
  have al : In 0 0 := In.zero 0
  have ed : IntKind.u32.wrap (IntKind.i64.wrap (bitV w 7 5)) = w / 128 % 32 := by
    rw [(bitV_lit (x := w) (lo := 7) (n := 5) (d := 128) (M := 32) h (by decide) (by decide) (by decide) (by decide)), i64_id (x := w / 128 % 32) (by omega)]; exact u32_id (by omega)
  have ad : In (w / 128 % 32 * 128) 3968 := In.part 5 7 (by decide) (by decide) (by decide) (by decide)
  rw [ed, ad.wrap]
  have ea : IntKind.u32.wrap (IntKind.i64.wrap (bitV w 15 5)) = w / 32768 % 32 := by
    rw [(bitV_lit (x := w) (lo := 15) (n := 5) (d := 32768) (M := 32) h (by decide) (by decide) (by decide) (by decide)), i64_id (x := w / 32768 % 32) (by omega)]; exact u32_id (by omega)
  have aa : In (w / 32768 % 32 * 32768) 1015808 := In.part 5 15 (by decide) (by decide) (by decide) (by decide)
  rw [ea, aa.wrap]
  have ab : In 0 0 := In.zero 0
  have ac : In 0 0 := In.zero 0
  try rw [show IntKind.u32.wrap (IntKind.u32.wrap 0 * 1048576) = 0 from rfl]
  have ao : In (opc * 1) 127 := In.field 7 0 (by decide) (by decide) (by decide) ho.1 ho.2
  rw [Int.mul_one] at ao
  have a3 : In (f3 * 4096) 28672 := In.field 3 12 (by decide) (by decide) (by decide) hb3.1 hb3.2
  try rw [a3.wrap]
  obtain ⟨e0, e3, e7, erd, ers1, ers2, e28, _, _, _, _⟩ := fl_all h
  simp only [Isa.fitsB, e0, e3, e7, erd, ers1, ers2, e28]
  clear e0 e3 e7 erd ers1 ers2 e28
  have a7 : In (f7 * 134217728) 4160749568 := In.field 5 27 (by decide) (by decide) (by decide) hb7.1 hb7.2
  have aq : In 67108864 67108864 := ⟨by decide, by decide, by decide⟩
  have ar : In 33554432 33554432 := ⟨by decide, by decide, by decide⟩
  have q1 : bitV w 26 1 = w / 67108864 % 2 := (bitV_lit (x := w) (lo := 26) (n := 1) (d := 67108864) (M := 2) h (by decide) (by decide) (by decide) (by decide))
  have q2 : bitV w 25 1 = w / 33554432 % 2 := (bitV_lit (x := w) (lo := 25) (n := 1) (d := 33554432) (M := 2) h (by decide) (by decide) (by decide) (by decide))
  unfold rwP rw0
  simp only [q1, q2, a7.wrap, a3.wrap]
  rw [Int.fdiv_eq_ediv_of_nonneg _ (by decide)]
  have c1 : w / 67108864 % 2 = 0 ∨ w / 67108864 % 2 = 1 := by omega
  have c2 : w / 33554432 % 2 = 0 ∨ w / 33554432 % 2 = 1 := by omega
  have o0 := In.or ao a3 (by decide)
  have o1 := In.or o0.2 a7 (by decide)
  have oq := In.or o1.2 aq (by decide)
  have or1 := In.or o1.2 ar (by decide)
  have oqr := In.or oq.2 ar (by decide)
  rcases c1 with c1 | c1 <;> rcases c2 with c2 | c2
  · rw [c1, c2]
    simp only [show ((0 : Int) == 1) = false from rfl, show ((1 : Int) == 1) = true from rfl, cond_true, cond_false]
    have p0 := In.or o1.2 al (by decide)
    have p1 := In.or p0.2 ad (by decide)
    have p2 := In.or p1.2 aa (by decide)
    have p3 := In.or p2.2 ab (by decide)
    have p4 := In.or p3.2 ac (by decide)
    rw [o0.1, o1.1, p0.1, p1.1, p2.1, p3.1, p4.1]
    clear p4 p3 p2 p1 p0 oqr or1 oq o1 o0 ar aq a7 ao a3 al ad aa ab ac q1 q2
    rw [Bool.eq_iff_iff]
    simp only [beq_iff_eq, Bool.and_eq_true]
    omega
  · rw [c1, c2]
    simp only [show ((0 : Int) == 1) = false from rfl, show ((1 : Int) == 1) = true from rfl, cond_true, cond_false]
    have p0 := In.or or1.2 al (by decide)
    have p1 := In.or p0.2 ad (by decide)
    have p2 := In.or p1.2 aa (by decide)
    have p3 := In.or p2.2 ab (by decide)
    have p4 := In.or p3.2 ac (by decide)
    rw [o0.1, o1.1, or1.1, p0.1, p1.1, p2.1, p3.1, p4.1]
    clear p4 p3 p2 p1 p0 oqr or1 oq o1 o0 ar aq a7 ao a3 al ad aa ab ac q1 q2
    rw [Bool.eq_iff_iff]
    simp only [beq_iff_eq, Bool.and_eq_true]
    omega
  · rw [c1, c2]
    simp only [show ((0 : Int) == 1) = false from rfl, show ((1 : Int) == 1) = true from rfl, cond_true, cond_false]
    have p0 := In.or oq.2 al (by decide)
    have p1 := In.or p0.2 ad (by decide)
    have p2 := In.or p1.2 aa (by decide)
    have p3 := In.or p2.2 ab (by decide)
    have p4 := In.or p3.2 ac (by decide)
    rw [o0.1, o1.1, oq.1, p0.1, p1.1, p2.1, p3.1, p4.1]
    clear p4 p3 p2 p1 p0 oqr or1 oq o1 o0 ar aq a7 ao a3 al ad aa ab ac q1 q2
    rw [Bool.eq_iff_iff]
    simp only [beq_iff_eq, Bool.and_eq_true]
    omega
  · rw [c1, c2]
    simp only [show ((0 : Int) == 1) = false from rfl, show ((1 : Int) == 1) = true from rfl, cond_true, cond_false]
    have p0 := In.or oqr.2 al (by decide)
    have p1 := In.or p0.2 ad (by decide)
    have p2 := In.or p1.2 aa (by decide)
    have p3 := In.or p2.2 ab (by decide)
    have p4 := In.or p3.2 ac (by decide)
    rw [o0.1, o1.1, oq.1, oqr.1, p0.1, p1.1, p2.1, p3.1, p4.1]
    clear p4 p3 p2 p1 p0 oqr or1 oq o1 o0 ar aq a7 ao a3 al ad aa ab ac q1 q2
    rw [Bool.eq_iff_iff]
    simp only [beq_iff_eq, Bool.and_eq_true]
    omega
theorem rfit_f13 {op opc f3 f7 w : Int} {nm : ByteArray} {h3 h7 : Bool} (h : W32 w) (ho : 0 ≤ opc ∧ opc < 128) (hb3 : 0 ≤ f3 ∧ f3 < 8) (hb7 : 0 ≤ f7 ∧ f7 < 32) : rfit w ⟨op, nm, opc, f3, f7, h3, h7, 0, true, true, true, false, 0, true⟩ = Isa.fitsB 13 opc f3 f7 w := by
  have hw0 := h.1
  have hw1 := h.2
  unfold rfit rdI
  simp only [bne_self_eq_false, cond_false, cond_true, Bool.true_and, Bool.false_and]
  unfold rwV rwT rw0
  simp only [bne_self_eq_false, cond_false, cond_true]
  rw [show (rlyV 0 (rimA 0 w)).1 = 0 from rfl]
  have al : In 0 0 := In.zero 0
  have ed : IntKind.u32.wrap (IntKind.i64.wrap (bitV w 7 5)) = w / 128 % 32 := by
    rw [(bitV_lit (x := w) (lo := 7) (n := 5) (d := 128) (M := 32) h (by decide) (by decide) (by decide) (by decide)), i64_id (x := w / 128 % 32) (by omega)]; exact u32_id (by omega)
  have ad : In (w / 128 % 32 * 128) 3968 := In.part 5 7 (by decide) (by decide) (by decide) (by decide)
  rw [ed, ad.wrap]
  have ea : IntKind.u32.wrap (IntKind.i64.wrap (bitV w 15 5)) = w / 32768 % 32 := by
    rw [(bitV_lit (x := w) (lo := 15) (n := 5) (d := 32768) (M := 32) h (by decide) (by decide) (by decide) (by decide)), i64_id (x := w / 32768 % 32) (by omega)]; exact u32_id (by omega)
  have aa : In (w / 32768 % 32 * 32768) 1015808 := In.part 5 15 (by decide) (by decide) (by decide) (by decide)
  rw [ea, aa.wrap]
  have eb : IntKind.u32.wrap (IntKind.i64.wrap (bitV w 20 5)) = w / 1048576 % 32 := by
    rw [(bitV_lit (x := w) (lo := 20) (n := 5) (d := 1048576) (M := 32) h (by decide) (by decide) (by decide) (by decide)), i64_id (x := w / 1048576 % 32) (by omega)]; exact u32_id (by omega)
  have ab : In (w / 1048576 % 32 * 1048576) 32505856 := In.part 5 20 (by decide) (by decide) (by decide) (by decide)
  rw [eb, ab.wrap]
  have ac : In 0 0 := In.zero 0
  try rw [show IntKind.u32.wrap (IntKind.u32.wrap 0 * 1048576) = 0 from rfl]
  have ao : In (opc * 1) 127 := In.field 7 0 (by decide) (by decide) (by decide) ho.1 ho.2
  rw [Int.mul_one] at ao
  have a3 : In (f3 * 4096) 28672 := In.field 3 12 (by decide) (by decide) (by decide) hb3.1 hb3.2
  try rw [a3.wrap]
  obtain ⟨e0, e3, e7, erd, ers1, ers2, e28, _, _, _, _⟩ := fl_all h
  simp only [Isa.fitsB, e0, e3, e7, erd, ers1, ers2, e28]
  clear e0 e3 e7 erd ers1 ers2 e28
  have a7 : In (f7 * 134217728) 4160749568 := In.field 5 27 (by decide) (by decide) (by decide) hb7.1 hb7.2
  have aq : In 67108864 67108864 := ⟨by decide, by decide, by decide⟩
  have ar : In 33554432 33554432 := ⟨by decide, by decide, by decide⟩
  have q1 : bitV w 26 1 = w / 67108864 % 2 := (bitV_lit (x := w) (lo := 26) (n := 1) (d := 67108864) (M := 2) h (by decide) (by decide) (by decide) (by decide))
  have q2 : bitV w 25 1 = w / 33554432 % 2 := (bitV_lit (x := w) (lo := 25) (n := 1) (d := 33554432) (M := 2) h (by decide) (by decide) (by decide) (by decide))
  unfold rwP rw0
  simp only [q1, q2, a7.wrap, a3.wrap]
  rw [Int.fdiv_eq_ediv_of_nonneg _ (by decide)]
  have c1 : w / 67108864 % 2 = 0 ∨ w / 67108864 % 2 = 1 := by omega
  have c2 : w / 33554432 % 2 = 0 ∨ w / 33554432 % 2 = 1 := by omega
  have o0 := In.or ao a3 (by decide)
  have o1 := In.or o0.2 a7 (by decide)
  have oq := In.or o1.2 aq (by decide)
  have or1 := In.or o1.2 ar (by decide)
  have oqr := In.or oq.2 ar (by decide)
  rcases c1 with c1 | c1 <;> rcases c2 with c2 | c2
  · rw [c1, c2]
    simp only [show ((0 : Int) == 1) = false from rfl, show ((1 : Int) == 1) = true from rfl, cond_true, cond_false]
    have p0 := In.or o1.2 al (by decide)
    have p1 := In.or p0.2 ad (by decide)
    have p2 := In.or p1.2 aa (by decide)
    have p3 := In.or p2.2 ab (by decide)
    have p4 := In.or p3.2 ac (by decide)
    rw [o0.1, o1.1, p0.1, p1.1, p2.1, p3.1, p4.1]
    clear p4 p3 p2 p1 p0 oqr or1 oq o1 o0 ar aq a7 ao a3 al ad aa ab ac q1 q2
    rw [Bool.eq_iff_iff]
    simp only [beq_iff_eq, Bool.and_eq_true]
    omega
  · rw [c1, c2]
    simp only [show ((0 : Int) == 1) = false from rfl, show ((1 : Int) == 1) = true from rfl, cond_true, cond_false]
    have p0 := In.or or1.2 al (by decide)
    have p1 := In.or p0.2 ad (by decide)
    have p2 := In.or p1.2 aa (by decide)
    have p3 := In.or p2.2 ab (by decide)
    have p4 := In.or p3.2 ac (by decide)
    rw [o0.1, o1.1, or1.1, p0.1, p1.1, p2.1, p3.1, p4.1]
    clear p4 p3 p2 p1 p0 oqr or1 oq o1 o0 ar aq a7 ao a3 al ad aa ab ac q1 q2
    rw [Bool.eq_iff_iff]
    simp only [beq_iff_eq, Bool.and_eq_true]
    omega
  · rw [c1, c2]
    simp only [show ((0 : Int) == 1) = false from rfl, show ((1 : Int) == 1) = true from rfl, cond_true, cond_false]
    have p0 := In.or oq.2 al (by decide)
    have p1 := In.or p0.2 ad (by decide)
    have p2 := In.or p1.2 aa (by decide)
    have p3 := In.or p2.2 ab (by decide)
    have p4 := In.or p3.2 ac (by decide)
    rw [o0.1, o1.1, oq.1, p0.1, p1.1, p2.1, p3.1, p4.1]
    clear p4 p3 p2 p1 p0 oqr or1 oq o1 o0 ar aq a7 ao a3 al ad aa ab ac q1 q2
    rw [Bool.eq_iff_iff]
    simp only [beq_iff_eq, Bool.and_eq_true]
    omega
  · rw [c1, c2]
    simp only [show ((0 : Int) == 1) = false from rfl, show ((1 : Int) == 1) = true from rfl, cond_true, cond_false]
    have p0 := In.or oqr.2 al (by decide)
    have p1 := In.or p0.2 ad (by decide)
    have p2 := In.or p1.2 aa (by decide)
    have p3 := In.or p2.2 ab (by decide)
    have p4 := In.or p3.2 ac (by decide)
    rw [o0.1, o1.1, oq.1, oqr.1, p0.1, p1.1, p2.1, p3.1, p4.1]
    clear p4 p3 p2 p1 p0 oqr or1 oq o1 o0 ar aq a7 ao a3 al ad aa ab ac q1 q2
    rw [Bool.eq_iff_iff]
    simp only [beq_iff_eq, Bool.and_eq_true]
    omega
theorem rfit_f8 {op opc w : Int} {nm : ByteArray} {f3 f7 : Int} (hn : opc ≠ 0) : rfit w ⟨op, nm, 0, 0, 0, false, false, 0, false, false, false, false, opc, false⟩ = Isa.fitsB 8 opc f3 f7 w := by
  unfold rfit
  rw [show (opc != 0) = true by simpa using hn]
  rfl
/-- Row by row. -/
theorem rfit_all {w : Int} (h : W32 w) : ∀ k : Nat, k < 69 → rfit w (rrowAt k) = Isa.fitAt w k
  | 0, _ => rfit_f0 h (by decide)
  | 1, _ => rfit_f0 h (by decide)
  | 2, _ => rfit_f1 h (by decide)
  | 3, _ => rfit_f2 h (by decide) (by decide)
  | 4, _ => rfit_f3 h (by decide) (by decide)
  | 5, _ => rfit_f3 h (by decide) (by decide)
  | 6, _ => rfit_f3 h (by decide) (by decide)
  | 7, _ => rfit_f3 h (by decide) (by decide)
  | 8, _ => rfit_f3 h (by decide) (by decide)
  | 9, _ => rfit_f3 h (by decide) (by decide)
  | 10, _ => rfit_f2 h (by decide) (by decide)
  | 11, _ => rfit_f2 h (by decide) (by decide)
  | 12, _ => rfit_f2 h (by decide) (by decide)
  | 13, _ => rfit_f2 h (by decide) (by decide)
  | 14, _ => rfit_f2 h (by decide) (by decide)
  | 15, _ => rfit_f4 h (by decide) (by decide)
  | 16, _ => rfit_f4 h (by decide) (by decide)
  | 17, _ => rfit_f4 h (by decide) (by decide)
  | 18, _ => rfit_f2 h (by decide) (by decide)
  | 19, _ => rfit_f2 h (by decide) (by decide)
  | 20, _ => rfit_f2 h (by decide) (by decide)
  | 21, _ => rfit_f2 h (by decide) (by decide)
  | 22, _ => rfit_f2 h (by decide) (by decide)
  | 23, _ => rfit_f2 h (by decide) (by decide)
  | 24, _ => rfit_f5 h (by decide) (by decide) (by decide)
  | 25, _ => rfit_f5 h (by decide) (by decide) (by decide)
  | 26, _ => rfit_f5 h (by decide) (by decide) (by decide)
  | 27, _ => rfit_f6 h (by decide) (by decide) (by decide)
  | 28, _ => rfit_f6 h (by decide) (by decide) (by decide)
  | 29, _ => rfit_f6 h (by decide) (by decide) (by decide)
  | 30, _ => rfit_f6 h (by decide) (by decide) (by decide)
  | 31, _ => rfit_f6 h (by decide) (by decide) (by decide)
  | 32, _ => rfit_f6 h (by decide) (by decide) (by decide)
  | 33, _ => rfit_f6 h (by decide) (by decide) (by decide)
  | 34, _ => rfit_f6 h (by decide) (by decide) (by decide)
  | 35, _ => rfit_f6 h (by decide) (by decide) (by decide)
  | 36, _ => rfit_f6 h (by decide) (by decide) (by decide)
  | 37, _ => rfit_f7 h (by decide) (by decide)
  | 38, _ => rfit_f8 (by decide)
  | 39, _ => rfit_f8 (by decide)
  | 40, _ => rfit_f8 (by decide)
  | 41, _ => rfit_f8 (by decide)
  | 42, _ => rfit_f8 (by decide)
  | 43, _ => rfit_f9 h (by decide) (by decide) (by decide)
  | 44, _ => rfit_f10 h (by decide) (by decide)
  | 45, _ => rfit_f10 h (by decide) (by decide)
  | 46, _ => rfit_f10 h (by decide) (by decide)
  | 47, _ => rfit_f11 h (by decide) (by decide)
  | 48, _ => rfit_f11 h (by decide) (by decide)
  | 49, _ => rfit_f11 h (by decide) (by decide)
  | 50, _ => rfit_f6 h (by decide) (by decide) (by decide)
  | 51, _ => rfit_f6 h (by decide) (by decide) (by decide)
  | 52, _ => rfit_f6 h (by decide) (by decide) (by decide)
  | 53, _ => rfit_f6 h (by decide) (by decide) (by decide)
  | 54, _ => rfit_f6 h (by decide) (by decide) (by decide)
  | 55, _ => rfit_f6 h (by decide) (by decide) (by decide)
  | 56, _ => rfit_f6 h (by decide) (by decide) (by decide)
  | 57, _ => rfit_f6 h (by decide) (by decide) (by decide)
  | 58, _ => rfit_f12 h (by decide) (by decide) (by decide)
  | 59, _ => rfit_f13 h (by decide) (by decide) (by decide)
  | 60, _ => rfit_f13 h (by decide) (by decide) (by decide)
  | 61, _ => rfit_f13 h (by decide) (by decide) (by decide)
  | 62, _ => rfit_f13 h (by decide) (by decide) (by decide)
  | 63, _ => rfit_f13 h (by decide) (by decide) (by decide)
  | 64, _ => rfit_f13 h (by decide) (by decide) (by decide)
  | 65, _ => rfit_f13 h (by decide) (by decide) (by decide)
  | 66, _ => rfit_f13 h (by decide) (by decide) (by decide)
  | 67, _ => rfit_f13 h (by decide) (by decide) (by decide)
  | 68, _ => rfit_f13 h (by decide) (by decide) (by decide)
  | n + 69, h => absurd h (by omega)
/-- The document takes a word for an instruction just where the program does. -/
theorem rdec_is {w : Int} (h : W32 w) : (rdec w).2 = (Isa.dec w).2 := by
  obtain ⟨m, h1, h2, h3⟩ := Isa.first (fun k => rfit w (rrowAt k)) 69
  have e1 : rdec w = if m < 69 then (rins w (rrowAt m), true) else (noInst, false) := rdecL_find w rtable m h1 h2 h3
  have e2 : Isa.dec w = if m < 69 then (Isa.decI (Isa.table.getD m ⟨0, 0, 0, 0, 0, 0⟩).form (Isa.table.getD m ⟨0, 0, 0, 0, 0, 0⟩).op w, true) else (noInst, false) :=
    Isa.decL_find w Isa.table m h1 (fun k hk => (rfit_all h k (by omega)).symm.trans (h2 k hk)) (fun hm => (rfit_all h m hm).symm.trans (h3 hm))
  rw [e1, e2]
  by_cases hm : m < 69
  · rw [if_pos hm, if_pos hm]
  · rw [if_neg hm, if_neg hm]
end Go.Proofs.YtgkicojmgokinaaGreatDoor.Ab
