/- Trimmed: AsmSame, AsmProgRuns, AsmProg, AsmLines -/
import Derived.Test.YtgkicojmgokinaaGreatDoorAsmFirst0
namespace Go.Proofs.YtgkicojmgokinaaGreatDoor.Ab
open Go Go.RowKit
set_option linter.unusedVariables false
set_option linter.unusedSimpArgs false
set_option maxRecDepth 100000
theorem rsg_eq {X : Int} (n : Nat) {m h o : Int} (hn : n ≤ 31) (hX : 0 ≤ X ∧ X < 2 ^ n * 2) (hm : m = 2 ^ (n + 1) - 1) (hh : h = 2 ^ n) (ho : o = 4294967296 - 2 ^ (n + 1)) : rsg X m h o = if X < h then X else X + o := by
  have hp : (2 : Int) ^ (n + 1) = 2 ^ n * 2 := Int.pow_succ ..
  have hb : (2 : Int) ^ n ≤ 2147483648 := by
    have : (2 : Nat) ^ n ≤ 2 ^ 31 := Nat.pow_le_pow_right (by decide) hn
    have h2 : ((2 ^ n : Nat) : Int) ≤ ((2 ^ 31 : Nat) : Int) := by exact_mod_cast this
    simpa using h2
  have hpos : (0 : Int) < 2 ^ n := by exact_mod_cast Nat.two_pow_pos n
  have e : bits .and .u32 X m = X := by
    rw [and_lit (n + 1) ⟨hX.1, by omega⟩ hm (by omega), hp]
    exact Int.emod_eq_of_lt hX.1 hX.2
  unfold rsg
  rw [e, Int.fdiv_eq_ediv_of_nonneg _ (by omega)]
  by_cases hlt : X < h
  · rw [if_pos hlt]
    have : X / h = 0 := Int.ediv_eq_zero_of_lt hX.1 hlt
    rw [this]; rfl
  · rw [if_neg hlt]
    have : X / h = 1 := by
      have h1 : X / h < 2 := Int.ediv_lt_of_lt_mul (by omega) (by omega)
      have h2 : 1 ≤ X / h := Int.le_ediv_of_mul_le (by omega) (by omega)
      omega
    rw [this]
    show bits .or .u32 X o = X + o
    obtain ⟨a, ha⟩ := Int.eq_ofNat_of_zero_le hX.1
    have hx : In X (2 ^ (n + 1) - 1) := by
      have := In.field (c := X) (d := 1) (m := 2 ^ (n + 1) - 1) (n + 1) 0 rfl (by omega) (by omega) hX.1 (by omega)
      rwa [Int.mul_one] at this
    have hoo : In o ((2 ^ (31 - n) - 1) * 2 ^ (n + 1)) := by
      have hpw : (2 : Int) ^ (31 - n) * 2 ^ (n + 1) = 4294967296 := by
        rw [← Int.pow_add, show 31 - n + (n + 1) = 32 by omega]; rfl
      have hq : (0 : Int) < 2 ^ (31 - n) := by exact_mod_cast Nat.two_pow_pos (31 - n)
      have := In.field (c := 2 ^ (31 - n) - 1) (d := 2 ^ (n + 1)) (m := (2 ^ (31 - n) - 1) * 2 ^ (n + 1)) (31 - n) (n + 1) rfl rfl (by omega) (by omega) (by omega)
      rw [Int.sub_mul, hpw, Int.one_mul, ← ho] at this
      exact this
    refine (In.or hx hoo ?_).1
    apply Nat.eq_of_testBit_eq
    intro i
    rw [Nat.testBit_and, Nat.testBit_two_pow_sub_one, ← Nat.shiftLeft_eq, Nat.testBit_shiftLeft, Nat.zero_testBit]
    by_cases hi : i < n + 1
    · have : ¬ (n + 1 ≤ i) := by omega
      simp [this]
    · simp [hi]
theorem rimI_eq {w : Int} (h : W32 w) : rimI bitV w = valI w := by
  have h0 := h.1
  have h1 := h.2
  unfold rimI
  rw [(bitV_lit (x := w) (lo := 20) (n := 12) (d := 1048576) (M := 4096) h (by decide) (by decide) (by decide) (by decide))]
  have a0 : In (w / 1048576 % 4096) 4095 := by
    have := In.part (x := w / 1048576) (M := 4096) (d := 1) (m := 4095) 12 0 (by decide) (by decide) (by decide) (by decide)
    rwa [Int.mul_one] at this
  rw [show w / 1048576 % 4096 = sumI w by unfold sumI; omega]
  rw [rsg_eq 11 (by decide) (by unfold sumI; omega) (by decide) (by decide) (by decide)]
  rfl
theorem rimS_eq {w : Int} (h : W32 w) : rimS bitV w = valS w := by
  have h0 := h.1
  have h1 := h.2
  unfold rimS
  rw [(bitV_lit (x := w) (lo := 25) (n := 7) (d := 33554432) (M := 128) h (by decide) (by decide) (by decide) (by decide)), (bitV_lit (x := w) (lo := 7) (n := 5) (d := 128) (M := 32) h (by decide) (by decide) (by decide) (by decide))]
  have a0 : In (w / 33554432 % 128 * 32) 4064 := In.part 7 5 (by decide) (by decide) (by decide) (by decide)
  have a1 : In (w / 128 % 32) 31 := by
    have := In.part (x := w / 128) (M := 32) (d := 1) (m := 31) 5 0 (by decide) (by decide) (by decide) (by decide)
    rwa [Int.mul_one] at this
  have o1 := In.or a0 a1 (by decide)
  rw [a0.wrap, o1.1]
  rw [show w / 33554432 % 128 * 32 + w / 128 % 32 = sumS w by unfold sumS; omega]
  rw [rsg_eq 11 (by decide) (by unfold sumS; omega) (by decide) (by decide) (by decide)]
  rfl
theorem rimB_eq {w : Int} (h : W32 w) : rimB bitV w = valB w := by
  have h0 := h.1
  have h1 := h.2
  unfold rimB
  rw [(bitV_lit (x := w) (lo := 31) (n := 1) (d := 2147483648) (M := 2) h (by decide) (by decide) (by decide) (by decide)), (bitV_lit (x := w) (lo := 7) (n := 1) (d := 128) (M := 2) h (by decide) (by decide) (by decide) (by decide)), (bitV_lit (x := w) (lo := 25) (n := 6) (d := 33554432) (M := 64) h (by decide) (by decide) (by decide) (by decide)), (bitV_lit (x := w) (lo := 8) (n := 4) (d := 256) (M := 16) h (by decide) (by decide) (by decide) (by decide))]
  have a0 : In (w / 2147483648 % 2 * 4096) 4096 := In.part 1 12 (by decide) (by decide) (by decide) (by decide)
  have a1 : In (w / 128 % 2 * 2048) 2048 := In.part 1 11 (by decide) (by decide) (by decide) (by decide)
  have o1 := In.or a0 a1 (by decide)
  have a2 : In (w / 33554432 % 64 * 32) 2016 := In.part 6 5 (by decide) (by decide) (by decide) (by decide)
  have o2 := In.or o1.2 a2 (by decide)
  have a3 : In (w / 256 % 16 * 2) 30 := In.part 4 1 (by decide) (by decide) (by decide) (by decide)
  have o3 := In.or o2.2 a3 (by decide)
  rw [a0.wrap, a1.wrap, a2.wrap, a3.wrap, o1.1, o2.1, o3.1]
  rw [show w / 2147483648 % 2 * 4096 + w / 128 % 2 * 2048 + w / 33554432 % 64 * 32 + w / 256 % 16 * 2 = sumB w by unfold sumB; omega]
  rw [rsg_eq 12 (by decide) (by unfold sumB; omega) (by decide) (by decide) (by decide)]
  rfl
theorem rimU_eq {w : Int} (h : W32 w) : rimU bitV w = valU w := by
  have h0 := h.1
  have h1 := h.2
  unfold rimU
  rw [(bitV_lit (x := w) (lo := 12) (n := 20) (d := 4096) (M := 1048576) h (by decide) (by decide) (by decide) (by decide))]
  have a0 : In (w / 4096 % 1048576 * 4096) 4294963200 := In.part 20 12 (by decide) (by decide) (by decide) (by decide)
  rw [a0.wrap]
  rfl
theorem rimJ_eq {w : Int} (h : W32 w) : rimJ bitV w = valJ w := by
  have h0 := h.1
  have h1 := h.2
  unfold rimJ
  rw [(bitV_lit (x := w) (lo := 31) (n := 1) (d := 2147483648) (M := 2) h (by decide) (by decide) (by decide) (by decide)), (bitV_lit (x := w) (lo := 12) (n := 8) (d := 4096) (M := 256) h (by decide) (by decide) (by decide) (by decide)), (bitV_lit (x := w) (lo := 20) (n := 1) (d := 1048576) (M := 2) h (by decide) (by decide) (by decide) (by decide)), (bitV_lit (x := w) (lo := 21) (n := 10) (d := 2097152) (M := 1024) h (by decide) (by decide) (by decide) (by decide))]
  have a0 : In (w / 2147483648 % 2 * 1048576) 1048576 := In.part 1 20 (by decide) (by decide) (by decide) (by decide)
  have a1 : In (w / 4096 % 256 * 4096) 1044480 := In.part 8 12 (by decide) (by decide) (by decide) (by decide)
  have o1 := In.or a0 a1 (by decide)
  have a2 : In (w / 1048576 % 2 * 2048) 2048 := In.part 1 11 (by decide) (by decide) (by decide) (by decide)
  have o2 := In.or o1.2 a2 (by decide)
  have a3 : In (w / 2097152 % 1024 * 2) 2046 := In.part 10 1 (by decide) (by decide) (by decide) (by decide)
  have o3 := In.or o2.2 a3 (by decide)
  rw [a0.wrap, a1.wrap, a2.wrap, a3.wrap, o1.1, o2.1, o3.1]
  rw [show w / 2147483648 % 2 * 1048576 + w / 4096 % 256 * 4096 + w / 1048576 % 2 * 2048 + w / 2097152 % 1024 * 2 = sumJ w by unfold sumJ; omega]
  rw [rsg_eq 20 (by decide) (by unfold sumJ; omega) (by decide) (by decide) (by decide)]
  rfl
theorem rlyI_eq {x : Int} (h : W32 x) : rlyI bitV x = lsumI x := by
  have h0 := h.1
  have h1 := h.2
  unfold rlyI
  have b0 : bitV x 0 12 = x / 1 % 4096 := (bitV_lit (x := x) (lo := 0) (n := 12) (d := 1) (M := 4096) h (by decide) (by decide) (by decide) (by decide))
  have a0 : In (x / 1 % 4096 * 1048576) 4293918720 := In.part 12 20 (by decide) (by decide) (by decide) (by decide)
  rw [b0, a0.wrap]
  unfold lsumI
  simp only [Int.ediv_one]
theorem rlyS_eq {x : Int} (h : W32 x) : rlyS bitV x = lsumS x := by
  have h0 := h.1
  have h1 := h.2
  unfold rlyS
  have b0 : bitV (x.fdiv 32) 0 7 = x / 32 / 1 % 128 := by
    rw [Int.fdiv_eq_ediv_of_nonneg _ (by decide)]
    exact (bitV_lit (x := x / 32) (lo := 0) (n := 7) (d := 1) (M := 128) ⟨by omega, by omega⟩ (by decide) (by decide) (by decide) (by decide))
  have a0 : In (x / 32 / 1 % 128 * 33554432) 4261412864 := In.part 7 25 (by decide) (by decide) (by decide) (by decide)
  have b1 : bitV x 0 5 = x / 1 % 32 := (bitV_lit (x := x) (lo := 0) (n := 5) (d := 1) (M := 32) h (by decide) (by decide) (by decide) (by decide))
  have a1 : In (x / 1 % 32 * 128) 3968 := In.part 5 7 (by decide) (by decide) (by decide) (by decide)
  have o1 := In.or a0 a1 (by decide)
  rw [b0, b1, a0.wrap, a1.wrap, o1.1]
  unfold lsumS
  simp only [Int.ediv_one]
theorem rlyB_eq {x : Int} (h : W32 x) : rlyB bitV x = lsumB x := by
  have h0 := h.1
  have h1 := h.2
  unfold rlyB
  have b0 : bitV (x.fdiv 4096) 0 1 = x / 4096 / 1 % 2 := by
    rw [Int.fdiv_eq_ediv_of_nonneg _ (by decide)]
    exact (bitV_lit (x := x / 4096) (lo := 0) (n := 1) (d := 1) (M := 2) ⟨by omega, by omega⟩ (by decide) (by decide) (by decide) (by decide))
  have a0 : In (x / 4096 / 1 % 2 * 2147483648) 2147483648 := In.part 1 31 (by decide) (by decide) (by decide) (by decide)
  have b1 : bitV (x.fdiv 2048) 0 1 = x / 2048 / 1 % 2 := by
    rw [Int.fdiv_eq_ediv_of_nonneg _ (by decide)]
    exact (bitV_lit (x := x / 2048) (lo := 0) (n := 1) (d := 1) (M := 2) ⟨by omega, by omega⟩ (by decide) (by decide) (by decide) (by decide))
  have a1 : In (x / 2048 / 1 % 2 * 128) 128 := In.part 1 7 (by decide) (by decide) (by decide) (by decide)
  have o1 := In.or a0 a1 (by decide)
  have b2 : bitV (x.fdiv 32) 0 6 = x / 32 / 1 % 64 := by
    rw [Int.fdiv_eq_ediv_of_nonneg _ (by decide)]
    exact (bitV_lit (x := x / 32) (lo := 0) (n := 6) (d := 1) (M := 64) ⟨by omega, by omega⟩ (by decide) (by decide) (by decide) (by decide))
  have a2 : In (x / 32 / 1 % 64 * 33554432) 2113929216 := In.part 6 25 (by decide) (by decide) (by decide) (by decide)
  have o2 := In.or o1.2 a2 (by decide)
  have b3 : bitV (x.fdiv 2) 0 4 = x / 2 / 1 % 16 := by
    rw [Int.fdiv_eq_ediv_of_nonneg _ (by decide)]
    exact (bitV_lit (x := x / 2) (lo := 0) (n := 4) (d := 1) (M := 16) ⟨by omega, by omega⟩ (by decide) (by decide) (by decide) (by decide))
  have a3 : In (x / 2 / 1 % 16 * 256) 3840 := In.part 4 8 (by decide) (by decide) (by decide) (by decide)
  have o3 := In.or o2.2 a3 (by decide)
  rw [b0, b1, b2, b3, a0.wrap, a1.wrap, a2.wrap, a3.wrap, o1.1, o2.1, o3.1]
  unfold lsumB
  simp only [Int.ediv_one]
theorem rlyU_eq {x : Int} (h : W32 x) : rlyU bitV x = lsumU x := by
  have h0 := h.1
  have h1 := h.2
  unfold rlyU
  have b0 : bitV (x.fdiv 4096) 0 20 = x / 4096 / 1 % 1048576 := by
    rw [Int.fdiv_eq_ediv_of_nonneg _ (by decide)]
    exact (bitV_lit (x := x / 4096) (lo := 0) (n := 20) (d := 1) (M := 1048576) ⟨by omega, by omega⟩ (by decide) (by decide) (by decide) (by decide))
  have a0 : In (x / 4096 / 1 % 1048576 * 4096) 4294963200 := In.part 20 12 (by decide) (by decide) (by decide) (by decide)
  rw [b0, a0.wrap]
  unfold lsumU
  simp only [Int.ediv_one]
theorem rlyJ_eq {x : Int} (h : W32 x) : rlyJ bitV x = lsumJ x := by
  have h0 := h.1
  have h1 := h.2
  unfold rlyJ
  have b0 : bitV (x.fdiv 1048576) 0 1 = x / 1048576 / 1 % 2 := by
    rw [Int.fdiv_eq_ediv_of_nonneg _ (by decide)]
    exact (bitV_lit (x := x / 1048576) (lo := 0) (n := 1) (d := 1) (M := 2) ⟨by omega, by omega⟩ (by decide) (by decide) (by decide) (by decide))
  have a0 : In (x / 1048576 / 1 % 2 * 2147483648) 2147483648 := In.part 1 31 (by decide) (by decide) (by decide) (by decide)
  have b1 : bitV (x.fdiv 4096) 0 8 = x / 4096 / 1 % 256 := by
    rw [Int.fdiv_eq_ediv_of_nonneg _ (by decide)]
    exact (bitV_lit (x := x / 4096) (lo := 0) (n := 8) (d := 1) (M := 256) ⟨by omega, by omega⟩ (by decide) (by decide) (by decide) (by decide))
  have a1 : In (x / 4096 / 1 % 256 * 4096) 1044480 := In.part 8 12 (by decide) (by decide) (by decide) (by decide)
  have o1 := In.or a0 a1 (by decide)
  have b2 : bitV (x.fdiv 2048) 0 1 = x / 2048 / 1 % 2 := by
    rw [Int.fdiv_eq_ediv_of_nonneg _ (by decide)]
    exact (bitV_lit (x := x / 2048) (lo := 0) (n := 1) (d := 1) (M := 2) ⟨by omega, by omega⟩ (by decide) (by decide) (by decide) (by decide))
  have a2 : In (x / 2048 / 1 % 2 * 1048576) 1048576 := In.part 1 20 (by decide) (by decide) (by decide) (by decide)
  have o2 := In.or o1.2 a2 (by decide)
  have b3 : bitV (x.fdiv 2) 0 10 = x / 2 / 1 % 1024 := by
    rw [Int.fdiv_eq_ediv_of_nonneg _ (by decide)]
    exact (bitV_lit (x := x / 2) (lo := 0) (n := 10) (d := 1) (M := 1024) ⟨by omega, by omega⟩ (by decide) (by decide) (by decide) (by decide))
  have a3 : In (x / 2 / 1 % 1024 * 2097152) 2145386496 := In.part 10 21 (by decide) (by decide) (by decide) (by decide)
  have o3 := In.or o2.2 a3 (by decide)
  rw [b0, b1, b2, b3, a0.wrap, a1.wrap, a2.wrap, a3.wrap, o1.1, o2.1, o3.1]
  unfold lsumJ
  simp only [Int.ediv_one]
theorem rlyV_I {x : Int} (h : W32 x) : rlyV 73 x = (bif valI (lsumI x) != x then (0, false) else (lsumI x, true)) := by
  rw [show rlyV 73 x = rlpI bitV rimV x by simp [rlyV]]
  unfold rlpI
  have hl := (layI_eq h).2
  rw [rlyI_eq h, show rimV 73 (lsumI x) = rimI bitV (lsumI x) by simp [rimV], rimI_eq ⟨hl.lo, hl.hi⟩]
theorem layV_I {x : Int} (h : W32 x) : layV 73 x = (bif valI (lsumI x) != x then (0, false) else (lsumI x, true)) := by
  have ei : ∀ w, immV 73 w = immI bitV w := fun w => by simp [immV]
  have el : ∀ x, layW 73 x = layI bitV x := fun x => by simp [layW]
  have hl := (layI_eq h).2
  unfold layV
  rw [el, (layI_eq h).1, ei, immI_eq ⟨hl.lo, hl.hi⟩]
theorem rlyV_S {x : Int} (h : W32 x) : rlyV 83 x = (bif valS (lsumS x) != x then (0, false) else (lsumS x, true)) := by
  rw [show rlyV 83 x = rlpS bitV rimV x by simp [rlyV]]
  unfold rlpS
  have hl := (layS_eq h).2
  rw [rlyS_eq h, show rimV 83 (lsumS x) = rimS bitV (lsumS x) by simp [rimV], rimS_eq ⟨hl.lo, hl.hi⟩]
theorem layV_S {x : Int} (h : W32 x) : layV 83 x = (bif valS (lsumS x) != x then (0, false) else (lsumS x, true)) := by
  have ei : ∀ w, immV 83 w = immS bitV w := fun w => by simp [immV]
  have el : ∀ x, layW 83 x = layS bitV x := fun x => by simp [layW]
  have hl := (layS_eq h).2
  unfold layV
  rw [el, (layS_eq h).1, ei, immS_eq ⟨hl.lo, hl.hi⟩]
theorem rlyV_B {x : Int} (h : W32 x) : rlyV 66 x = (bif valB (lsumB x) != x then (0, false) else (lsumB x, true)) := by
  rw [show rlyV 66 x = rlpB bitV rimV x by simp [rlyV]]
  unfold rlpB
  have hl := (layB_eq h).2
  rw [rlyB_eq h, show rimV 66 (lsumB x) = rimB bitV (lsumB x) by simp [rimV], rimB_eq ⟨hl.lo, hl.hi⟩]
theorem layV_B {x : Int} (h : W32 x) : layV 66 x = (bif valB (lsumB x) != x then (0, false) else (lsumB x, true)) := by
  have ei : ∀ w, immV 66 w = immB bitV w := fun w => by simp [immV]
  have el : ∀ x, layW 66 x = layB bitV x := fun x => by simp [layW]
  have hl := (layB_eq h).2
  unfold layV
  rw [el, (layB_eq h).1, ei, immB_eq ⟨hl.lo, hl.hi⟩]
theorem rlyV_U {x : Int} (h : W32 x) : rlyV 85 x = (bif valU (lsumU x) != x then (0, false) else (lsumU x, true)) := by
  rw [show rlyV 85 x = rlpU bitV rimV x by simp [rlyV]]
  unfold rlpU
  have hl := (layU_eq h).2
  rw [rlyU_eq h, show rimV 85 (lsumU x) = rimU bitV (lsumU x) by simp [rimV], rimU_eq ⟨hl.lo, hl.hi⟩]
theorem layV_U {x : Int} (h : W32 x) : layV 85 x = (bif valU (lsumU x) != x then (0, false) else (lsumU x, true)) := by
  have ei : ∀ w, immV 85 w = immU bitV w := fun w => by simp [immV]
  have el : ∀ x, layW 85 x = layU bitV x := fun x => by simp [layW]
  have hl := (layU_eq h).2
  unfold layV
  rw [el, (layU_eq h).1, ei, immU_eq ⟨hl.lo, hl.hi⟩]
theorem rlyV_J {x : Int} (h : W32 x) : rlyV 74 x = (bif valJ (lsumJ x) != x then (0, false) else (lsumJ x, true)) := by
  rw [show rlyV 74 x = rlpJ bitV rimV x by simp [rlyV]]
  unfold rlpJ
  have hl := (layJ_eq h).2
  rw [rlyJ_eq h, show rimV 74 (lsumJ x) = rimJ bitV (lsumJ x) by simp [rimV], rimJ_eq ⟨hl.lo, hl.hi⟩]
theorem layV_J {x : Int} (h : W32 x) : layV 74 x = (bif valJ (lsumJ x) != x then (0, false) else (lsumJ x, true)) := by
  have ei : ∀ w, immV 74 w = immJ bitV w := fun w => by simp [immV]
  have el : ∀ x, layW 74 x = layJ bitV x := fun x => by simp [layW]
  have hl := (layJ_eq h).2
  unfold layV
  rw [el, (layJ_eq h).1, ei, immJ_eq ⟨hl.lo, hl.hi⟩]
end Go.Proofs.YtgkicojmgokinaaGreatDoor.Ab

namespace Go.Proofs.YtgkicojmgokinaaGreatDoor.Ab
open Go Go.RowKit
set_option linter.unusedVariables false
set_option linter.unusedSimpArgs false
set_option maxRecDepth 100000
end Go.Proofs.YtgkicojmgokinaaGreatDoor.Ab

namespace Go.Proofs.YtgkicojmgokinaaGreatDoor.Ab
open Go Go.RowKit
set_option linter.unusedVariables false
set_option linter.unusedSimpArgs false
set_option maxRecDepth 100000
end Go.Proofs.YtgkicojmgokinaaGreatDoor.Ab

namespace Go.Proofs.YtgkicojmgokinaaGreatDoor.Ab
open Go Go.RowKit
set_option linter.unusedVariables false
set_option linter.unusedSimpArgs false
set_option maxRecDepth 100000
theorem bs_cat (a b : List UInt8) : bs (a ++ b) = bs a ++ bs b := ByteArray.ext (by simp [bs])
def dg (n : Int) : ByteArray := hexs.extract n.toNat (IntKind.u32.wrap (n + 1)).toNat
def dgG (n : Int) : Bool := Nat.ble n.toNat (IntKind.u32.wrap (n + 1)).toNat && Nat.ble (IntKind.u32.wrap (n + 1)).toNat 16
def rhexT (w : Int) : List Int → ByteArray → Option Value
  | [], s => some (.string s)
  | sh :: r, s => bif dgG (bitV w sh 4) then (bif okLen s (dg (bitV w sh 4)) then rhexT w r (s ++ dg (bitV w sh 4)) else none) else none
theorem dg_all : ∀ n : Nat, n < 16 → dgG (n : Int) = true ∧ (dg (n : Int)).toList = [hd (n : Int)] := by decide +kernel
theorem dg_of {n : Int} (h : 0 ≤ n ∧ n < 16) : dgG n = true ∧ dg n = bs [hd n] := by
  obtain ⟨k, rfl⟩ := Int.eq_ofNat_of_zero_le h.1
  obtain ⟨h1, h2⟩ := dg_all k (by omega)
  refine ⟨h1, tl_eq (a := dg k) (b := bs [hd k]) ?_⟩
  rw [h2, show (bs [hd (k : Int)]).toList = [hd (k : Int)] from Lib.toList_data _]
  simp
theorem rhexT_eq (w : Int) : ∀ (L : List Int) (l : List UInt8), l.length + L.length ≤ 1000 → rhexT w L (bs l) = some (.string (bs (l ++ L.map fun s => hd (bitV w s 4))))
  | [], l, _ => by simp [rhexT]
  | sh :: L, l, h => by
    simp only [List.length_cons] at h
    obtain ⟨h1, h2⟩ := dg_of (bit4 w sh)
    unfold rhexT
    rw [h1, h2, show okLen (bs l) (bs [hd (bitV w sh 4)]) = true from okLen_of (by simp; omega), cond_true, cond_true, ← bs_cat, rhexT_eq w L (l ++ [hd (bitV w sh 4)]) (by simp; omega)]
    simp
section
variable (D : Int → Inst) (B : Int → Bool) (E : Inst → Nat) (Pt : Inst → ByteArray) (Hx : Int → ByteArray)
end
end Go.Proofs.YtgkicojmgokinaaGreatDoor.Ab
