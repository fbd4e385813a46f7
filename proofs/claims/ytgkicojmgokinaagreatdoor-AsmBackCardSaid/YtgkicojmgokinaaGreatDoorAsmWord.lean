/- The instruction of a word has just that word. Written by gen_word.py. -/
import Derived.Test.YtgkicojmgokinaaGreatDoorAsmBits
import Derived.Test.YtgkicojmgokinaaGreatDoorAsmDecode
import Derived.Test.YtgkicojmgokinaaGreatDoorAsmPrinted
namespace Go.Proofs.YtgkicojmgokinaaGreatDoor.Ab
open Go Go.RowKit
set_option linter.unusedVariables false
set_option linter.unusedSimpArgs false
set_option maxRecDepth 100000
/-- A word of 32 bits. -/
def W32 (w : Int) : Prop := 0 ≤ w ∧ w < 4294967296
theorem bitV_lit {x lo n d M : Int} (h : W32 x) (hd : (2 : Int) ^ lo.toNat = d) (hM : (2 : Int) ^ n.toNat = M) (h0 : 0 < d) (hn : n.toNat ≤ 32) : bitV x lo n = x / d % M := by
  unfold bitV
  rw [← hM, ← hd]
  exact and_mask n.toNat rfl hn (by rw [hd]; exact h0) h.1 h.2
theorem fl_lit {w d m : Int} (n : Nat) (h : W32 w) (hm : m = 2 ^ n - 1) (h0 : 0 < d) (hn : n ≤ 32) : Isa.fl w d m = w / d % 2 ^ n := by
  unfold Isa.fl
  exact and_mask n hm hn h0 h.1 h.2
theorem and_lit {x m : Int} (n : Nat) (h : W32 x) (hm : m = 2 ^ n - 1) (hn : n ≤ 32) : bits .and .u32 x m = x % 2 ^ n := by
  rw [hm]; exact bits_mask .u32 32 (by decide) wraps_u32 n hn x h.1 h.2
theorem sx {X K H : Int} (hK : K * (2 * H) = 4294967296) (hK0 : 0 < K) (hH : 0 < H) (h : 0 ≤ X ∧ X < 2 * H) : IntKind.u32.wrap ((IntKind.i32.wrap (IntKind.u32.wrap (X * K))).fdiv K) = if X < H then X else X + (4294967296 - 2 * H) := by
  have hb : X * K < 4294967296 := by
    rw [← hK, Int.mul_comm K]; exact Int.mul_lt_mul_of_pos_right h.2 hK0
  have ha : 0 ≤ X * K := Int.mul_nonneg h.1 (by omega)
  have hm : H * K = 2147483648 := by
    have : K * (2 * H) = 2 * (H * K) := by rw [Int.mul_comm K, Int.mul_assoc]
    omega
  have hle : 2 * H ≤ 4294967296 := by
    have : 2 * H * 1 ≤ 2 * H * K := Int.mul_le_mul_of_nonneg_left (by omega) (by omega)
    rw [Int.mul_comm K] at hK
    omega
  rw [Int.fdiv_eq_ediv_of_nonneg _ (by omega), IntKind.wrap_u32 (X * K), IntKind.wrap_i32, show X * K % 4294967296 = X * K by omega]
  by_cases hX : X < H
  · have : X * K < 2147483648 := by rw [← hm]; exact Int.mul_lt_mul_of_pos_right hX hK0
    rw [if_pos hX, show (X * K + 2147483648) % 4294967296 - 2147483648 = X * K by omega, Int.mul_ediv_cancel _ (by omega), IntKind.wrap_u32]
    omega
  · have : 2147483648 ≤ X * K := by rw [← hm]; exact Int.mul_le_mul_of_nonneg_right (by omega) (by omega)
    have e : (X * K + 2147483648) % 4294967296 - 2147483648 = (X - 2 * H) * K := by
      rw [Int.sub_mul, Int.mul_comm (2 * H), hK]; omega
    rw [if_neg hX, e, Int.mul_ediv_cancel _ (by omega), IntKind.wrap_u32]
    omega
theorem fl_all {w : Int} (h : W32 w) : Isa.fl w 1 127 = w / 1 % 128 ∧ Isa.fl w 4096 7 = w / 4096 % 8 ∧ Isa.fl w 33554432 127 = w / 33554432 % 128 ∧ Isa.fl w 128 31 = w / 128 % 32 ∧ Isa.fl w 32768 31 = w / 32768 % 32 ∧ Isa.fl w 1048576 31 = w / 1048576 % 32 ∧ Isa.fl w 268435456 15 = w / 268435456 % 16 ∧ Isa.fl w 1048576 255 = w / 1048576 % 256 ∧ Isa.fl w 1048576 4095 = w / 1048576 % 4096 ∧ Isa.fl w 67108864 1 = w / 67108864 % 2 ∧ Isa.fl w 33554432 1 = w / 33554432 % 2 :=
  ⟨fl_lit 7 h (by decide) (by decide) (by decide), fl_lit 3 h (by decide) (by decide) (by decide), fl_lit 7 h (by decide) (by decide) (by decide), fl_lit 5 h (by decide) (by decide) (by decide), fl_lit 5 h (by decide) (by decide) (by decide), fl_lit 5 h (by decide) (by decide) (by decide), fl_lit 4 h (by decide) (by decide) (by decide), fl_lit 8 h (by decide) (by decide) (by decide), fl_lit 12 h (by decide) (by decide) (by decide), fl_lit 1 h (by decide) (by decide) (by decide), fl_lit 1 h (by decide) (by decide) (by decide)⟩
def sumI (w : Int) : Int := w / 1048576 % 4096 * 1
def valI (w : Int) : Int := if sumI w < 2048 then sumI w else sumI w + 4294963200
theorem immI_eq {w : Int} (h : W32 w) : immI bitV w = valI w := by
  have h0 := h.1
  have h1 := h.2
  unfold immI
  rw [(bitV_lit (x := w) (lo := 20) (n := 12) (d := 1048576) (M := 4096) h (by decide) (by decide) (by decide) (by decide))]
  have a0 : In (w / 1048576 % 4096 * 1) 4095 := In.field 12 0 (by decide) (by decide) (by decide) (by omega) (by omega)
  have o0 := In.or (In.zero 0) a0 (by decide)
  rw [a0.wrap, o0.1]
  rw [show 0 + w / 1048576 % 4096 * 1 = sumI w by unfold sumI; omega]
  rw [sx (K := 1048576) (H := 2048) (by decide) (by decide) (by decide) (by unfold sumI; omega)]
  rfl
def sumS (w : Int) : Int := w / 33554432 % 128 * 32 + w / 128 % 32 * 1
def valS (w : Int) : Int := if sumS w < 2048 then sumS w else sumS w + 4294963200
theorem immS_eq {w : Int} (h : W32 w) : immS bitV w = valS w := by
  have h0 := h.1
  have h1 := h.2
  unfold immS
  rw [(bitV_lit (x := w) (lo := 25) (n := 7) (d := 33554432) (M := 128) h (by decide) (by decide) (by decide) (by decide)), (bitV_lit (x := w) (lo := 7) (n := 5) (d := 128) (M := 32) h (by decide) (by decide) (by decide) (by decide))]
  have a0 : In (w / 33554432 % 128 * 32) 4064 := In.field 7 5 (by decide) (by decide) (by decide) (by omega) (by omega)
  have o0 := In.or (In.zero 0) a0 (by decide)
  have a1 : In (w / 128 % 32 * 1) 31 := In.field 5 0 (by decide) (by decide) (by decide) (by omega) (by omega)
  have o1 := In.or o0.2 a1 (by decide)
  rw [a0.wrap, a1.wrap, o0.1, o1.1]
  rw [show 0 + w / 33554432 % 128 * 32 + w / 128 % 32 * 1 = sumS w by unfold sumS; omega]
  rw [sx (K := 1048576) (H := 2048) (by decide) (by decide) (by decide) (by unfold sumS; omega)]
  rfl
def sumB (w : Int) : Int := w / 2147483648 % 2 * 4096 + w / 128 % 2 * 2048 + w / 33554432 % 64 * 32 + w / 256 % 16 * 2
def valB (w : Int) : Int := if sumB w < 4096 then sumB w else sumB w + 4294959104
theorem immB_eq {w : Int} (h : W32 w) : immB bitV w = valB w := by
  have h0 := h.1
  have h1 := h.2
  unfold immB
  rw [(bitV_lit (x := w) (lo := 31) (n := 1) (d := 2147483648) (M := 2) h (by decide) (by decide) (by decide) (by decide)), (bitV_lit (x := w) (lo := 7) (n := 1) (d := 128) (M := 2) h (by decide) (by decide) (by decide) (by decide)), (bitV_lit (x := w) (lo := 25) (n := 6) (d := 33554432) (M := 64) h (by decide) (by decide) (by decide) (by decide)), (bitV_lit (x := w) (lo := 8) (n := 4) (d := 256) (M := 16) h (by decide) (by decide) (by decide) (by decide))]
  have a0 : In (w / 2147483648 % 2 * 4096) 4096 := In.field 1 12 (by decide) (by decide) (by decide) (by omega) (by omega)
  have o0 := In.or (In.zero 0) a0 (by decide)
  have a1 : In (w / 128 % 2 * 2048) 2048 := In.field 1 11 (by decide) (by decide) (by decide) (by omega) (by omega)
  have o1 := In.or o0.2 a1 (by decide)
  have a2 : In (w / 33554432 % 64 * 32) 2016 := In.field 6 5 (by decide) (by decide) (by decide) (by omega) (by omega)
  have o2 := In.or o1.2 a2 (by decide)
  have a3 : In (w / 256 % 16 * 2) 30 := In.field 4 1 (by decide) (by decide) (by decide) (by omega) (by omega)
  have o3 := In.or o2.2 a3 (by decide)
  rw [a0.wrap, a1.wrap, a2.wrap, a3.wrap, o0.1, o1.1, o2.1, o3.1]
  rw [show 0 + w / 2147483648 % 2 * 4096 + w / 128 % 2 * 2048 + w / 33554432 % 64 * 32 + w / 256 % 16 * 2 = sumB w by unfold sumB; omega]
  rw [sx (K := 524288) (H := 4096) (by decide) (by decide) (by decide) (by unfold sumB; omega)]
  rfl
def sumU (w : Int) : Int := w / 4096 % 1048576 * 4096
def valU (w : Int) : Int := sumU w
theorem immU_eq {w : Int} (h : W32 w) : immU bitV w = valU w := by
  have h0 := h.1
  have h1 := h.2
  unfold immU
  rw [(bitV_lit (x := w) (lo := 12) (n := 20) (d := 4096) (M := 1048576) h (by decide) (by decide) (by decide) (by decide))]
  have a0 : In (w / 4096 % 1048576 * 4096) 4294963200 := In.field 20 12 (by decide) (by decide) (by decide) (by omega) (by omega)
  have o0 := In.or (In.zero 0) a0 (by decide)
  rw [a0.wrap, o0.1]
  unfold valU sumU
  omega
def sumJ (w : Int) : Int := w / 2147483648 % 2 * 1048576 + w / 4096 % 256 * 4096 + w / 1048576 % 2 * 2048 + w / 2097152 % 1024 * 2
def valJ (w : Int) : Int := if sumJ w < 1048576 then sumJ w else sumJ w + 4292870144
theorem immJ_eq {w : Int} (h : W32 w) : immJ bitV w = valJ w := by
  have h0 := h.1
  have h1 := h.2
  unfold immJ
  rw [(bitV_lit (x := w) (lo := 31) (n := 1) (d := 2147483648) (M := 2) h (by decide) (by decide) (by decide) (by decide)), (bitV_lit (x := w) (lo := 12) (n := 8) (d := 4096) (M := 256) h (by decide) (by decide) (by decide) (by decide)), (bitV_lit (x := w) (lo := 20) (n := 1) (d := 1048576) (M := 2) h (by decide) (by decide) (by decide) (by decide)), (bitV_lit (x := w) (lo := 21) (n := 10) (d := 2097152) (M := 1024) h (by decide) (by decide) (by decide) (by decide))]
  have a0 : In (w / 2147483648 % 2 * 1048576) 1048576 := In.field 1 20 (by decide) (by decide) (by decide) (by omega) (by omega)
  have o0 := In.or (In.zero 0) a0 (by decide)
  have a1 : In (w / 4096 % 256 * 4096) 1044480 := In.field 8 12 (by decide) (by decide) (by decide) (by omega) (by omega)
  have o1 := In.or o0.2 a1 (by decide)
  have a2 : In (w / 1048576 % 2 * 2048) 2048 := In.field 1 11 (by decide) (by decide) (by decide) (by omega) (by omega)
  have o2 := In.or o1.2 a2 (by decide)
  have a3 : In (w / 2097152 % 1024 * 2) 2046 := In.field 10 1 (by decide) (by decide) (by decide) (by omega) (by omega)
  have o3 := In.or o2.2 a3 (by decide)
  rw [a0.wrap, a1.wrap, a2.wrap, a3.wrap, o0.1, o1.1, o2.1, o3.1]
  rw [show 0 + w / 2147483648 % 2 * 1048576 + w / 4096 % 256 * 4096 + w / 1048576 % 2 * 2048 + w / 2097152 % 1024 * 2 = sumJ w by unfold sumJ; omega]
  rw [sx (K := 2048) (H := 1048576) (by decide) (by decide) (by decide) (by unfold sumJ; omega)]
  rfl
def lsumI (x : Int) : Int := x / 1 % 4096 * 1048576
theorem layI_eq {x : Int} (h : W32 x) : layI bitV x = lsumI x ∧ In (lsumI x) 4293918720 := by
  have h0 := h.1
  have h1 := h.2
  unfold layI
  rw [(bitV_lit (x := x) (lo := 0) (n := 12) (d := 1) (M := 4096) h (by decide) (by decide) (by decide) (by decide))]
  have a0 : In (x / 1 % 4096 * 1048576) 4293918720 := In.field 12 20 (by decide) (by decide) (by decide) (by omega) (by omega)
  have o0 := In.or (In.zero 0) a0 (by decide)
  rw [a0.wrap, o0.1]
  have oo := o0.2
  have e : 0 + x / 1 % 4096 * 1048576 = lsumI x := by unfold lsumI; omega
  rw [e] at oo ⊢
  exact ⟨rfl, oo⟩
def lsumS (x : Int) : Int := x / 32 % 128 * 33554432 + x / 1 % 32 * 128
theorem layS_eq {x : Int} (h : W32 x) : layS bitV x = lsumS x ∧ In (lsumS x) 4261416832 := by
  have h0 := h.1
  have h1 := h.2
  unfold layS
  rw [(bitV_lit (x := x) (lo := 5) (n := 7) (d := 32) (M := 128) h (by decide) (by decide) (by decide) (by decide)), (bitV_lit (x := x) (lo := 0) (n := 5) (d := 1) (M := 32) h (by decide) (by decide) (by decide) (by decide))]
  have a0 : In (x / 32 % 128 * 33554432) 4261412864 := In.field 7 25 (by decide) (by decide) (by decide) (by omega) (by omega)
  have o0 := In.or (In.zero 0) a0 (by decide)
  have a1 : In (x / 1 % 32 * 128) 3968 := In.field 5 7 (by decide) (by decide) (by decide) (by omega) (by omega)
  have o1 := In.or o0.2 a1 (by decide)
  rw [a0.wrap, a1.wrap, o0.1, o1.1]
  have oo := o1.2
  have e : 0 + x / 32 % 128 * 33554432 + x / 1 % 32 * 128 = lsumS x := by unfold lsumS; omega
  rw [e] at oo ⊢
  exact ⟨rfl, oo⟩
def lsumB (x : Int) : Int := x / 4096 % 2 * 2147483648 + x / 2048 % 2 * 128 + x / 32 % 64 * 33554432 + x / 2 % 16 * 256
theorem layB_eq {x : Int} (h : W32 x) : layB bitV x = lsumB x ∧ In (lsumB x) 4261416832 := by
  have h0 := h.1
  have h1 := h.2
  unfold layB
  rw [(bitV_lit (x := x) (lo := 12) (n := 1) (d := 4096) (M := 2) h (by decide) (by decide) (by decide) (by decide)), (bitV_lit (x := x) (lo := 11) (n := 1) (d := 2048) (M := 2) h (by decide) (by decide) (by decide) (by decide)), (bitV_lit (x := x) (lo := 5) (n := 6) (d := 32) (M := 64) h (by decide) (by decide) (by decide) (by decide)), (bitV_lit (x := x) (lo := 1) (n := 4) (d := 2) (M := 16) h (by decide) (by decide) (by decide) (by decide))]
  have a0 : In (x / 4096 % 2 * 2147483648) 2147483648 := In.field 1 31 (by decide) (by decide) (by decide) (by omega) (by omega)
  have o0 := In.or (In.zero 0) a0 (by decide)
  have a1 : In (x / 2048 % 2 * 128) 128 := In.field 1 7 (by decide) (by decide) (by decide) (by omega) (by omega)
  have o1 := In.or o0.2 a1 (by decide)
  have a2 : In (x / 32 % 64 * 33554432) 2113929216 := In.field 6 25 (by decide) (by decide) (by decide) (by omega) (by omega)
  have o2 := In.or o1.2 a2 (by decide)
  have a3 : In (x / 2 % 16 * 256) 3840 := In.field 4 8 (by decide) (by decide) (by decide) (by omega) (by omega)
  have o3 := In.or o2.2 a3 (by decide)
  rw [a0.wrap, a1.wrap, a2.wrap, a3.wrap, o0.1, o1.1, o2.1, o3.1]
  have oo := o3.2
  have e : 0 + x / 4096 % 2 * 2147483648 + x / 2048 % 2 * 128 + x / 32 % 64 * 33554432 + x / 2 % 16 * 256 = lsumB x := by unfold lsumB; omega
  rw [e] at oo ⊢
  exact ⟨rfl, oo⟩
def lsumU (x : Int) : Int := x / 4096 % 1048576 * 4096
theorem layU_eq {x : Int} (h : W32 x) : layU bitV x = lsumU x ∧ In (lsumU x) 4294963200 := by
  have h0 := h.1
  have h1 := h.2
  unfold layU
  rw [(bitV_lit (x := x) (lo := 12) (n := 20) (d := 4096) (M := 1048576) h (by decide) (by decide) (by decide) (by decide))]
  have a0 : In (x / 4096 % 1048576 * 4096) 4294963200 := In.field 20 12 (by decide) (by decide) (by decide) (by omega) (by omega)
  have o0 := In.or (In.zero 0) a0 (by decide)
  rw [a0.wrap, o0.1]
  have oo := o0.2
  have e : 0 + x / 4096 % 1048576 * 4096 = lsumU x := by unfold lsumU; omega
  rw [e] at oo ⊢
  exact ⟨rfl, oo⟩
def lsumJ (x : Int) : Int := x / 1048576 % 2 * 2147483648 + x / 4096 % 256 * 4096 + x / 2048 % 2 * 1048576 + x / 2 % 1024 * 2097152
theorem layJ_eq {x : Int} (h : W32 x) : layJ bitV x = lsumJ x ∧ In (lsumJ x) 4294963200 := by
  have h0 := h.1
  have h1 := h.2
  unfold layJ
  rw [(bitV_lit (x := x) (lo := 20) (n := 1) (d := 1048576) (M := 2) h (by decide) (by decide) (by decide) (by decide)), (bitV_lit (x := x) (lo := 12) (n := 8) (d := 4096) (M := 256) h (by decide) (by decide) (by decide) (by decide)), (bitV_lit (x := x) (lo := 11) (n := 1) (d := 2048) (M := 2) h (by decide) (by decide) (by decide) (by decide)), (bitV_lit (x := x) (lo := 1) (n := 10) (d := 2) (M := 1024) h (by decide) (by decide) (by decide) (by decide))]
  have a0 : In (x / 1048576 % 2 * 2147483648) 2147483648 := In.field 1 31 (by decide) (by decide) (by decide) (by omega) (by omega)
  have o0 := In.or (In.zero 0) a0 (by decide)
  have a1 : In (x / 4096 % 256 * 4096) 1044480 := In.field 8 12 (by decide) (by decide) (by decide) (by omega) (by omega)
  have o1 := In.or o0.2 a1 (by decide)
  have a2 : In (x / 2048 % 2 * 1048576) 1048576 := In.field 1 20 (by decide) (by decide) (by decide) (by omega) (by omega)
  have o2 := In.or o1.2 a2 (by decide)
  have a3 : In (x / 2 % 1024 * 2097152) 2145386496 := In.field 10 21 (by decide) (by decide) (by decide) (by omega) (by omega)
  have o3 := In.or o2.2 a3 (by decide)
  rw [a0.wrap, a1.wrap, a2.wrap, a3.wrap, o0.1, o1.1, o2.1, o3.1]
  have oo := o3.2
  have e : 0 + x / 1048576 % 2 * 2147483648 + x / 4096 % 256 * 4096 + x / 2048 % 2 * 1048576 + x / 2 % 1024 * 2097152 = lsumJ x := by unfold lsumJ; omega
  rw [e] at oo ⊢
  exact ⟨rfl, oo⟩
def partI (w : Int) : Int := w / 1048576 % 4096 * 1048576
theorem lsumI_val {a : Int} (ha : 0 ≤ a ∧ a < 4096) : lsumI (if a * 1 < 2048 then a * 1 else a * 1 + 4294963200) = a * 1048576 := by
  unfold lsumI
  split
  · have qa : (a * 1) / 1 % 4096 = a := by omega
    rw [qa]
  · have qa : (a * 1 + 4294963200) / 1 % 4096 = a := by omega
    rw [qa]
theorem layI_imm {w : Int} (h : W32 w) : layV 73 (immV 73 w) = (partI w, true) ∧ In (partI w) 4293918720 := by
  have h0 := h.1
  have h1 := h.2
  have ei : ∀ w, immV 73 w = immI bitV w := fun w => by simp [immV]
  have el : ∀ x, layW 73 x = layI bitV x := fun x => by simp [layW]
  have hv : W32 (valI w) := by unfold W32 valI sumI; split <;> omega
  obtain ⟨l1, l2⟩ := layI_eq hv
  have e1 : lsumI (valI w) = partI w := lsumI_val (by omega)
  rw [e1] at l1 l2
  have hp : W32 (partI w) := ⟨l2.lo, l2.hi⟩
  have e2 : valI (partI w) = valI w := by
    have e3 : sumI (partI w) = sumI w := by unfold sumI partI; omega
    unfold valI; rw [e3]
  refine ⟨?_, l2⟩
  unfold layV
  rw [ei w, immI_eq h, el, l1, ei, immI_eq hp, e2, bne_self_eq_false]
  rfl
def partS (w : Int) : Int := w / 33554432 % 128 * 33554432 + w / 128 % 32 * 128
theorem lsumS_val {a b : Int} (ha : 0 ≤ a ∧ a < 128) (hb : 0 ≤ b ∧ b < 32) : lsumS (if a * 32 + b * 1 < 2048 then a * 32 + b * 1 else a * 32 + b * 1 + 4294963200) = a * 33554432 + b * 128 := by
  unfold lsumS
  split
  · have qa : (a * 32 + b * 1) / 32 % 128 = a := by omega
    have qb : (a * 32 + b * 1) / 1 % 32 = b := by omega
    rw [qa, qb]
  · have qa : (a * 32 + b * 1 + 4294963200) / 32 % 128 = a := by omega
    have qb : (a * 32 + b * 1 + 4294963200) / 1 % 32 = b := by omega
    rw [qa, qb]
theorem layS_imm {w : Int} (h : W32 w) : layV 83 (immV 83 w) = (partS w, true) ∧ In (partS w) 4261416832 := by
  have h0 := h.1
  have h1 := h.2
  have ei : ∀ w, immV 83 w = immS bitV w := fun w => by simp [immV]
  have el : ∀ x, layW 83 x = layS bitV x := fun x => by simp [layW]
  have hv : W32 (valS w) := by unfold W32 valS sumS; split <;> omega
  obtain ⟨l1, l2⟩ := layS_eq hv
  have e1 : lsumS (valS w) = partS w := lsumS_val (by omega) (by omega)
  rw [e1] at l1 l2
  have hp : W32 (partS w) := ⟨l2.lo, l2.hi⟩
  have e2 : valS (partS w) = valS w := by
    have e3 : sumS (partS w) = sumS w := by unfold sumS partS; omega
    unfold valS; rw [e3]
  refine ⟨?_, l2⟩
  unfold layV
  rw [ei w, immS_eq h, el, l1, ei, immS_eq hp, e2, bne_self_eq_false]
  rfl
def partB (w : Int) : Int := w / 2147483648 % 2 * 2147483648 + w / 128 % 2 * 128 + w / 33554432 % 64 * 33554432 + w / 256 % 16 * 256
theorem lsumB_val {a b c d : Int} (ha : 0 ≤ a ∧ a < 2) (hb : 0 ≤ b ∧ b < 2) (hc : 0 ≤ c ∧ c < 64) (hd : 0 ≤ d ∧ d < 16) : lsumB (if a * 4096 + b * 2048 + c * 32 + d * 2 < 4096 then a * 4096 + b * 2048 + c * 32 + d * 2 else a * 4096 + b * 2048 + c * 32 + d * 2 + 4294959104) = a * 2147483648 + b * 128 + c * 33554432 + d * 256 := by
  unfold lsumB
  split
  · have qa : (a * 4096 + b * 2048 + c * 32 + d * 2) / 4096 % 2 = a := by omega
    have qb : (a * 4096 + b * 2048 + c * 32 + d * 2) / 2048 % 2 = b := by omega
    have qc : (a * 4096 + b * 2048 + c * 32 + d * 2) / 32 % 64 = c := by omega
    have qd : (a * 4096 + b * 2048 + c * 32 + d * 2) / 2 % 16 = d := by omega
    rw [qa, qb, qc, qd]
  · have qa : (a * 4096 + b * 2048 + c * 32 + d * 2 + 4294959104) / 4096 % 2 = a := by omega
    have qb : (a * 4096 + b * 2048 + c * 32 + d * 2 + 4294959104) / 2048 % 2 = b := by omega
    have qc : (a * 4096 + b * 2048 + c * 32 + d * 2 + 4294959104) / 32 % 64 = c := by omega
    have qd : (a * 4096 + b * 2048 + c * 32 + d * 2 + 4294959104) / 2 % 16 = d := by omega
    rw [qa, qb, qc, qd]
theorem layB_imm {w : Int} (h : W32 w) : layV 66 (immV 66 w) = (partB w, true) ∧ In (partB w) 4261416832 := by
  have h0 := h.1
  have h1 := h.2
  have ei : ∀ w, immV 66 w = immB bitV w := fun w => by simp [immV]
  have el : ∀ x, layW 66 x = layB bitV x := fun x => by simp [layW]
  have hv : W32 (valB w) := by unfold W32 valB sumB; split <;> omega
  obtain ⟨l1, l2⟩ := layB_eq hv
  have e1 : lsumB (valB w) = partB w := lsumB_val (by omega) (by omega) (by omega) (by omega)
  rw [e1] at l1 l2
  have hp : W32 (partB w) := ⟨l2.lo, l2.hi⟩
  have e2 : valB (partB w) = valB w := by
    have e3 : sumB (partB w) = sumB w := by unfold sumB partB; omega
    unfold valB; rw [e3]
  refine ⟨?_, l2⟩
  unfold layV
  rw [ei w, immB_eq h, el, l1, ei, immB_eq hp, e2, bne_self_eq_false]
  rfl
def partU (w : Int) : Int := w / 4096 % 1048576 * 4096
theorem lsumU_val {a : Int} (ha : 0 ≤ a ∧ a < 1048576) : lsumU (a * 4096) = a * 4096 := by
  unfold lsumU
  have qa : (a * 4096) / 4096 % 1048576 = a := by omega
  rw [qa]
theorem layU_imm {w : Int} (h : W32 w) : layV 85 (immV 85 w) = (partU w, true) ∧ In (partU w) 4294963200 := by
  have h0 := h.1
  have h1 := h.2
  have ei : ∀ w, immV 85 w = immU bitV w := fun w => by simp [immV]
  have el : ∀ x, layW 85 x = layU bitV x := fun x => by simp [layW]
  have hv : W32 (valU w) := by unfold W32 valU sumU; omega
  obtain ⟨l1, l2⟩ := layU_eq hv
  have e1 : lsumU (valU w) = partU w := lsumU_val (by omega)
  rw [e1] at l1 l2
  have hp : W32 (partU w) := ⟨l2.lo, l2.hi⟩
  have e2 : valU (partU w) = valU w := by
    have e3 : sumU (partU w) = sumU w := by unfold sumU partU; omega
    unfold valU; rw [e3]
  refine ⟨?_, l2⟩
  unfold layV
  rw [ei w, immU_eq h, el, l1, ei, immU_eq hp, e2, bne_self_eq_false]
  rfl
def partJ (w : Int) : Int := w / 2147483648 % 2 * 2147483648 + w / 4096 % 256 * 4096 + w / 1048576 % 2 * 1048576 + w / 2097152 % 1024 * 2097152
theorem lsumJ_val {a b c d : Int} (ha : 0 ≤ a ∧ a < 2) (hb : 0 ≤ b ∧ b < 256) (hc : 0 ≤ c ∧ c < 2) (hd : 0 ≤ d ∧ d < 1024) : lsumJ (if a * 1048576 + b * 4096 + c * 2048 + d * 2 < 1048576 then a * 1048576 + b * 4096 + c * 2048 + d * 2 else a * 1048576 + b * 4096 + c * 2048 + d * 2 + 4292870144) = a * 2147483648 + b * 4096 + c * 1048576 + d * 2097152 := by
  unfold lsumJ
  split
  · have qa : (a * 1048576 + b * 4096 + c * 2048 + d * 2) / 1048576 % 2 = a := by omega
    have qb : (a * 1048576 + b * 4096 + c * 2048 + d * 2) / 4096 % 256 = b := by omega
    have qc : (a * 1048576 + b * 4096 + c * 2048 + d * 2) / 2048 % 2 = c := by omega
    have qd : (a * 1048576 + b * 4096 + c * 2048 + d * 2) / 2 % 1024 = d := by omega
    rw [qa, qb, qc, qd]
  · have qa : (a * 1048576 + b * 4096 + c * 2048 + d * 2 + 4292870144) / 1048576 % 2 = a := by omega
    have qb : (a * 1048576 + b * 4096 + c * 2048 + d * 2 + 4292870144) / 4096 % 256 = b := by omega
    have qc : (a * 1048576 + b * 4096 + c * 2048 + d * 2 + 4292870144) / 2048 % 2 = c := by omega
    have qd : (a * 1048576 + b * 4096 + c * 2048 + d * 2 + 4292870144) / 2 % 1024 = d := by omega
    rw [qa, qb, qc, qd]
theorem layJ_imm {w : Int} (h : W32 w) : layV 74 (immV 74 w) = (partJ w, true) ∧ In (partJ w) 4294963200 := by
  have h0 := h.1
  have h1 := h.2
  have ei : ∀ w, immV 74 w = immJ bitV w := fun w => by simp [immV]
  have el : ∀ x, layW 74 x = layJ bitV x := fun x => by simp [layW]
  have hv : W32 (valJ w) := by unfold W32 valJ sumJ; split <;> omega
  obtain ⟨l1, l2⟩ := layJ_eq hv
  have e1 : lsumJ (valJ w) = partJ w := lsumJ_val (by omega) (by omega) (by omega) (by omega)
  rw [e1] at l1 l2
  have hp : W32 (partJ w) := ⟨l2.lo, l2.hi⟩
  have e2 : valJ (partJ w) = valJ w := by
    have e3 : sumJ (partJ w) = sumJ w := by unfold sumJ partJ; omega
    unfold valJ; rw [e3]
  refine ⟨?_, l2⟩
  unfold layV
  rw [ei w, immJ_eq h, el, l1, ei, immJ_eq hp, e2, bne_self_eq_false]
  rfl
/-! ### Encode, where all is as it should be -/
theorem ck_skip {f c : Bool} {k : Option Value} (h : (f && c) = false) : ck f c k = k := by
  cases f <;> cases c <;> first | rfl | cases h
theorem rng_skip {n : Int} {k : Option Value} (h : 0 ≤ n ∧ n ≤ 31) : rng n k = k := by
  unfold rng
  rw [decide_eq_false (show ¬ n < 0 by omega), decide_eq_false (show ¬ n > 31 by omega)]
  rfl
def f7x (fm : Nat) (f7 : Int) (aq rl : Bool) : Int := bif isA fm then (bif aq then (bif rl then bits .or .u32 (bits .or .u32 (f7 * 4) 2) 1 else bits .or .u32 (f7 * 4) 2) else (bif rl then bits .or .u32 (f7 * 4) 1 else f7 * 4)) else f7
def encF (J : Int → Int → Int → Int → Int → Int → Int) (fm : Nat) (opc f3 f7 rd rs1 rs2 csr : Int) (aq rl : Bool) (wi : Int) : Option Value :=
  bif isN fm then some (encOk opc) else some (encOk (bits .or .u32 (bits .or .u32 wi (IntKind.u32.wrap (IntKind.u32.wrap csr * 1048576))) (J opc (IntKind.u32.wrap rd) f3 (IntKind.u32.wrap rs1) (IntKind.u32.wrap rs2) (f7x fm f7 aq rl))))
theorem encK_fin {Ly : Int → Int → Int × Bool} {J : Int → Int → Int → Int → Int → Int → Int} {fm : Nat} {a b c d : Bool} {opc f3 f7 rd rs1 rs2 csr imm : Int} {aq rl : Bool} {wi : Int} (h1 : 0 ≤ rd ∧ rd ≤ 31) (h2 : 0 ≤ rs1 ∧ rs1 ≤ 31) (h3 : 0 ≤ rs2 ∧ rs2 ≤ 31) (h4 : 0 ≤ csr ∧ csr ≤ 4095)
    (hi : d = true → Ly (fm : Int) imm = (wi, true)) (hi0 : d = false → wi = 0) (z1 : (!a && rd != 0) = false) (z2 : (!b && rs1 != 0) = false) (z3 : (!c && rs2 != 0) = false) (z4 : (!d && imm != 0) = false) (z5 : (!isC fm && csr != 0) = false) (z6 : (!isA fm && aq) = false) (z7 : (!isA fm && rl) = false) :
    encK Ly J fm a b c d opc f3 f7 rd rs1 rs2 csr imm aq rl = encF J fm opc f3 f7 rd rs1 rs2 csr aq rl wi := by
  have t : ∀ w, encT J fm a b c d opc f3 f7 rd rs1 rs2 csr imm aq rl w = encF J fm opc f3 f7 rd rs1 rs2 csr aq rl w := by
    intro w
    unfold encT
    rw [ck_skip z1, ck_skip z2, ck_skip z3, ck_skip z4, ck_skip z5, ck_skip z6, ck_skip z7]
    unfold encF f7x
    cases isN fm <;> cases isA fm <;> cases aq <;> cases rl <;> rfl
  unfold encK
  rw [rng_skip h1, rng_skip h2, rng_skip h3, decide_eq_false (show ¬ csr < 0 by omega), decide_eq_false (show ¬ csr > 4095 by omega)]
  cases d with
  | true => rw [hi rfl]; exact t wi
  | false => rw [hi0 rfl]; exact t 0
theorem join_sum {a b c d e f : Int} (ha : 0 ≤ a ∧ a < 128) (hb : 0 ≤ b ∧ b < 32) (hc : 0 ≤ c ∧ c < 8) (hd : 0 ≤ d ∧ d < 32) (he : 0 ≤ e ∧ e < 32) (hf : 0 ≤ f ∧ f < 128) : joinV a b c d e f = a + b * 128 + c * 4096 + d * 32768 + e * 1048576 + f * 33554432 := by
  unfold joinV
  rw [and_lit (x := a) 7 ⟨by omega, by omega⟩ (by decide) (by decide), and_lit (x := b) 5 ⟨by omega, by omega⟩ (by decide) (by decide), and_lit (x := c) 3 ⟨by omega, by omega⟩ (by decide) (by decide), and_lit (x := d) 5 ⟨by omega, by omega⟩ (by decide) (by decide), and_lit (x := e) 5 ⟨by omega, by omega⟩ (by decide) (by decide), and_lit (x := f) 7 ⟨by omega, by omega⟩ (by decide) (by decide)]
  rw [show a % 2 ^ 7 = a by omega, show b % 2 ^ 5 = b by omega, show c % 2 ^ 3 = c by omega, show d % 2 ^ 5 = d by omega, show e % 2 ^ 5 = e by omega, show f % 2 ^ 7 = f by omega]
  have a0 : In (a * 1) 127 := In.field 7 0 (by decide) (by decide) (by decide) (by omega) (by omega)
  have a1 : In (b * 128) 3968 := In.field 5 7 (by decide) (by decide) (by decide) (by omega) (by omega)
  have a2 : In (c * 4096) 28672 := In.field 3 12 (by decide) (by decide) (by decide) (by omega) (by omega)
  have a3 : In (d * 32768) 1015808 := In.field 5 15 (by decide) (by decide) (by decide) (by omega) (by omega)
  have a4 : In (e * 1048576) 32505856 := In.field 5 20 (by decide) (by decide) (by decide) (by omega) (by omega)
  have a5 : In (f * 33554432) 4261412864 := In.field 7 25 (by decide) (by decide) (by decide) (by omega) (by omega)
  have o0 := In.or (In.zero 0) a0 (by decide)
  have o1 := In.or o0.2 a1 (by decide)
  have o2 := In.or o1.2 a2 (by decide)
  have o3 := In.or o2.2 a3 (by decide)
  have o4 := In.or o3.2 a4 (by decide)
  have o5 := In.or o4.2 a5 (by decide)
  rw [a0.wrap, a1.wrap, a2.wrap, a3.wrap, a4.wrap, a5.wrap, o0.1, o1.1, o2.1, o3.1, o4.1, o5.1]
  omega
theorem u32_id {x : Int} (h : 0 ≤ x ∧ x < 4294967296) : IntKind.u32.wrap x = x := by rw [IntKind.wrap_u32]; omega
theorem i64_id {x : Int} (h : 0 ≤ x ∧ x < 4294967296) : IntKind.i64.wrap x = x := by rw [IntKind.wrap_i64]; omega
theorem f7x_A {fm : Nat} {f7 : Int} {aq rl : Bool} (hA : isA fm = true) (h : 0 ≤ f7 ∧ f7 < 32) : f7x fm f7 aq rl = f7 * 4 + (bif aq then 2 else 0) + (bif rl then 1 else 0) := by
  have a0 : In (f7 * 4) 124 := In.field 5 2 (by decide) (by decide) (by decide) (by omega) (by omega)
  have a1 : In 2 2 := ⟨by decide, by decide, by decide⟩
  have a2 : In 1 1 := ⟨by decide, by decide, by decide⟩
  have o1 := In.or a0 a1 (by decide)
  have o2 := In.or a0 a2 (by decide)
  have o3 := In.or o1.2 a2 (by decide)
  unfold f7x
  rw [hA, cond_true]
  cases aq <;> cases rl <;> simp only [cond_true, cond_false]
  · omega
  · rw [o2.1]; omega
  · rw [o1.1]; omega
  · rw [o1.1, o3.1]
/-- What is or-ed at the end, where the parts do not meet. -/
theorem word_sum {wi c j : Int} {mi mc mj : Nat} (hi : In wi mi) (hc : In c mc) (hj : In j mj) (h1 : mi &&& mc = 0) (h2 : (mi ||| mc) &&& mj = 0) : bits .or .u32 (bits .or .u32 wi c) j = wi + c + j := by
  have o1 := In.or hi hc h1
  have o2 := In.or o1.2 hj h2
  rw [o1.1, o2.1]
theorem In.part {x M d : Int} {m : Nat} (n k : Nat) (hM : M = 2 ^ n) (hd : d = 2 ^ k) (hm : m = (2 ^ n - 1) * 2 ^ k) (h : n + k ≤ 32) : In (x % M * d) m := by
  have hp : (0 : Int) < 2 ^ n := by exact_mod_cast Nat.two_pow_pos n
  rw [hM]
  exact In.field n k hd hm h (Int.emod_nonneg _ (by omega)) (Int.emod_lt_of_pos _ hp)
theorem bif2 {x : Int} (h : 0 ≤ x ∧ x < 2) : (bif x == 1 then (2 : Int) else 0) = x * 2 := by
  have : x = 0 ∨ x = 1 := by omega
  rcases this with rfl | rfl <;> rfl
theorem bif1 {x : Int} (h : 0 ≤ x ∧ x < 2) : (bif x == 1 then (1 : Int) else 0) = x := by
  have : x = 0 ∨ x = 1 := by omega
  rcases this with rfl | rfl <;> rfl
theorem fl5 {w d : Int} (h : W32 w) (h0 : 0 < d) : Isa.reg w d = w / d % 32 ∧ IntKind.u32.wrap (Isa.reg w d) = w / d % 32 := by
  have e : Isa.fl w d 31 = w / d % 32 := fl_lit 5 h (by decide) h0 (by decide)
  have hb : 0 ≤ w / d % 32 ∧ w / d % 32 < 32 := ⟨Int.emod_nonneg _ (by decide), Int.emod_lt_of_pos _ (by decide)⟩
  have e2 : Isa.reg w d = w / d % 32 := by unfold Isa.reg; rw [e]; exact i64_id (by omega)
  exact ⟨e2, by rw [e2]; exact u32_id (by omega)⟩
theorem enc_f0 {opc f3 f7 w : Int} (h : W32 w) (hf : Isa.fitsB 0 opc f3 f7 w = true) (h3 : f3 = 0) (h7 : f7 = 0) : encK (rlayF layV) joinV 0 true false false true opc f3 f7 (Isa.reg w 128) (0) (0) 0 (immV 85 w) false false = some (encOk w) := by
  have hw0 := h.1
  have hw1 := h.2
  obtain ⟨e0, e3, e7, erd, ers1, ers2, e28, ez8, ecs, eaq, erl⟩ := fl_all h
  simp only [Isa.fitsB, Bool.and_eq_true, beq_iff_eq, e0, e3, e7, erd, ers1, ers2, e28] at hf
  obtain ⟨r1, r1u⟩ := fl5 (d := 128) h (by decide)
  obtain ⟨r2, r2u⟩ := fl5 (d := 32768) h (by decide)
  obtain ⟨r3, r3u⟩ := fl5 (d := 1048576) h (by decide)
  obtain ⟨l1, l2⟩ := layU_imm h
  have lw := l2
  rw [encK_fin (wi := partU w) (by rw [r1]; omega) (by omega) (by omega) (by omega) (fun _ => by rw [show rlayF layV (0 : Nat) (immV 85 w) = layV 85 (immV 85 w) by simp [rlayF]]; exact l1) (fun h => by cases h) rfl rfl rfl rfl rfl rfl rfl]
  unfold encF
  rw [show isN 0 = false from rfl, cond_false]
  rw [show IntKind.u32.wrap (IntKind.u32.wrap 0 * 1048576) = 0 from rfl]
  rw [r1u]
  rw [show IntKind.u32.wrap 0 = 0 from rfl]
  rw [show f7x 0 f7 false false = f7 from rfl]
  clear e0 e3 e7 erd ers1 ers2 e28 ez8 ecs eaq erl r1 r1u r2 r2u r3 r3u
  subst h3 h7
  rw [join_sum (a := opc) (b := (w / 128 % 32)) (c := 0) (d := 0) (e := 0) (f := 0) (by omega) (by omega) (by omega) (by omega) (by omega) (by omega)]
  have bd0 : 0 ≤ opc ∧ opc < 128 := by omega
  have a0 : In (opc * 1) 127 := In.field 7 0 (by decide) (by decide) (by decide) bd0.1 bd0.2
  have o0 := In.or (In.zero 0) a0 (by decide)
  have a1 : In ((w / 128 % 32) * 128) 3968 := In.part 5 7 (by decide) (by decide) (by decide) (by decide)
  have o1 := In.or o0.2 a1 (by decide)
  rw [show opc + (w / 128 % 32) * 128 + 0 * 4096 + 0 * 32768 + 0 * 1048576 + 0 * 33554432 = 0 + opc * 1 + (w / 128 % 32) * 128 by clear h hw0 hw1 hf; omega]
  rw [word_sum lw (In.zero 0) o1.2 (by decide) (by decide)]
  unfold partU
  clear a1 o1 a0 o0 lw
  congr 2
  omega
theorem enc_f1 {opc f3 f7 w : Int} (h : W32 w) (hf : Isa.fitsB 1 opc f3 f7 w = true) (h3 : f3 = 0) (h7 : f7 = 0) : encK (rlayF layV) joinV 1 true false false true opc f3 f7 (Isa.reg w 128) (0) (0) 0 (immV 74 w) false false = some (encOk w) := by
  have hw0 := h.1
  have hw1 := h.2
  obtain ⟨e0, e3, e7, erd, ers1, ers2, e28, ez8, ecs, eaq, erl⟩ := fl_all h
  simp only [Isa.fitsB, Bool.and_eq_true, beq_iff_eq, e0, e3, e7, erd, ers1, ers2, e28] at hf
  obtain ⟨r1, r1u⟩ := fl5 (d := 128) h (by decide)
  obtain ⟨r2, r2u⟩ := fl5 (d := 32768) h (by decide)
  obtain ⟨r3, r3u⟩ := fl5 (d := 1048576) h (by decide)
  obtain ⟨l1, l2⟩ := layJ_imm h
  have lw := l2
  rw [encK_fin (wi := partJ w) (by rw [r1]; omega) (by omega) (by omega) (by omega) (fun _ => by rw [show rlayF layV (1 : Nat) (immV 74 w) = layV 74 (immV 74 w) by simp [rlayF]]; exact l1) (fun h => by cases h) rfl rfl rfl rfl rfl rfl rfl]
  unfold encF
  rw [show isN 1 = false from rfl, cond_false]
  rw [show IntKind.u32.wrap (IntKind.u32.wrap 0 * 1048576) = 0 from rfl]
  rw [r1u]
  rw [show IntKind.u32.wrap 0 = 0 from rfl]
  rw [show f7x 1 f7 false false = f7 from rfl]
  clear e0 e3 e7 erd ers1 ers2 e28 ez8 ecs eaq erl r1 r1u r2 r2u r3 r3u
  subst h3 h7
  rw [join_sum (a := opc) (b := (w / 128 % 32)) (c := 0) (d := 0) (e := 0) (f := 0) (by omega) (by omega) (by omega) (by omega) (by omega) (by omega)]
  have bd0 : 0 ≤ opc ∧ opc < 128 := by omega
  have a0 : In (opc * 1) 127 := In.field 7 0 (by decide) (by decide) (by decide) bd0.1 bd0.2
  have o0 := In.or (In.zero 0) a0 (by decide)
  have a1 : In ((w / 128 % 32) * 128) 3968 := In.part 5 7 (by decide) (by decide) (by decide) (by decide)
  have o1 := In.or o0.2 a1 (by decide)
  rw [show opc + (w / 128 % 32) * 128 + 0 * 4096 + 0 * 32768 + 0 * 1048576 + 0 * 33554432 = 0 + opc * 1 + (w / 128 % 32) * 128 by clear h hw0 hw1 hf; omega]
  rw [word_sum lw (In.zero 0) o1.2 (by decide) (by decide)]
  unfold partJ
  clear a1 o1 a0 o0 lw
  congr 2
  omega
theorem enc_f2 {opc f3 f7 w : Int} (h : W32 w) (hf : Isa.fitsB 2 opc f3 f7 w = true) (h7 : f7 = 0) : encK (rlayF layV) joinV 2 true true false true opc f3 f7 (Isa.reg w 128) (Isa.reg w 32768) (0) 0 (immV 73 w) false false = some (encOk w) := by
  have hw0 := h.1
  have hw1 := h.2
  obtain ⟨e0, e3, e7, erd, ers1, ers2, e28, ez8, ecs, eaq, erl⟩ := fl_all h
  simp only [Isa.fitsB, Bool.and_eq_true, beq_iff_eq, e0, e3, e7, erd, ers1, ers2, e28] at hf
  obtain ⟨r1, r1u⟩ := fl5 (d := 128) h (by decide)
  obtain ⟨r2, r2u⟩ := fl5 (d := 32768) h (by decide)
  obtain ⟨r3, r3u⟩ := fl5 (d := 1048576) h (by decide)
  obtain ⟨l1, l2⟩ := layI_imm h
  have lw := l2
  rw [encK_fin (wi := partI w) (by rw [r1]; omega) (by rw [r2]; omega) (by omega) (by omega) (fun _ => by rw [show rlayF layV (2 : Nat) (immV 73 w) = layV 73 (immV 73 w) by simp [rlayF]]; exact l1) (fun h => by cases h) rfl rfl rfl rfl rfl rfl rfl]
  unfold encF
  rw [show isN 2 = false from rfl, cond_false]
  rw [show IntKind.u32.wrap (IntKind.u32.wrap 0 * 1048576) = 0 from rfl]
  rw [r1u, r2u]
  rw [show IntKind.u32.wrap 0 = 0 from rfl]
  rw [show f7x 2 f7 false false = f7 from rfl]
  clear e0 e3 e7 erd ers1 ers2 e28 ez8 ecs eaq erl r1 r1u r2 r2u r3 r3u
  subst h7
  rw [join_sum (a := opc) (b := (w / 128 % 32)) (c := f3) (d := (w / 32768 % 32)) (e := 0) (f := 0) (by omega) (by omega) (by omega) (by omega) (by omega) (by omega)]
  have bd0 : 0 ≤ opc ∧ opc < 128 := by omega
  have bd2 : 0 ≤ f3 ∧ f3 < 8 := by omega
  have a0 : In (opc * 1) 127 := In.field 7 0 (by decide) (by decide) (by decide) bd0.1 bd0.2
  have o0 := In.or (In.zero 0) a0 (by decide)
  have a1 : In ((w / 128 % 32) * 128) 3968 := In.part 5 7 (by decide) (by decide) (by decide) (by decide)
  have o1 := In.or o0.2 a1 (by decide)
  have a2 : In (f3 * 4096) 28672 := In.field 3 12 (by decide) (by decide) (by decide) bd2.1 bd2.2
  have o2 := In.or o1.2 a2 (by decide)
  have a3 : In ((w / 32768 % 32) * 32768) 1015808 := In.part 5 15 (by decide) (by decide) (by decide) (by decide)
  have o3 := In.or o2.2 a3 (by decide)
  rw [show opc + (w / 128 % 32) * 128 + f3 * 4096 + (w / 32768 % 32) * 32768 + 0 * 1048576 + 0 * 33554432 = 0 + opc * 1 + (w / 128 % 32) * 128 + f3 * 4096 + (w / 32768 % 32) * 32768 by clear h hw0 hw1 hf; omega]
  rw [word_sum lw (In.zero 0) o3.2 (by decide) (by decide)]
  unfold partI
  clear a3 o3 a2 o2 a1 o1 a0 o0 lw
  congr 2
  omega
theorem enc_f3 {opc f3 f7 w : Int} (h : W32 w) (hf : Isa.fitsB 3 opc f3 f7 w = true) (h7 : f7 = 0) : encK (rlayF layV) joinV 3 false true true true opc f3 f7 (0) (Isa.reg w 32768) (Isa.reg w 1048576) 0 (immV 66 w) false false = some (encOk w) := by
  have hw0 := h.1
  have hw1 := h.2
  obtain ⟨e0, e3, e7, erd, ers1, ers2, e28, ez8, ecs, eaq, erl⟩ := fl_all h
  simp only [Isa.fitsB, Bool.and_eq_true, beq_iff_eq, e0, e3, e7, erd, ers1, ers2, e28] at hf
  obtain ⟨r1, r1u⟩ := fl5 (d := 128) h (by decide)
  obtain ⟨r2, r2u⟩ := fl5 (d := 32768) h (by decide)
  obtain ⟨r3, r3u⟩ := fl5 (d := 1048576) h (by decide)
  obtain ⟨l1, l2⟩ := layB_imm h
  have lw := l2
  rw [encK_fin (wi := partB w) (by omega) (by rw [r2]; omega) (by rw [r3]; omega) (by omega) (fun _ => by rw [show rlayF layV (3 : Nat) (immV 66 w) = layV 66 (immV 66 w) by simp [rlayF]]; exact l1) (fun h => by cases h) rfl rfl rfl rfl rfl rfl rfl]
  unfold encF
  rw [show isN 3 = false from rfl, cond_false]
  rw [show IntKind.u32.wrap (IntKind.u32.wrap 0 * 1048576) = 0 from rfl]
  rw [r2u, r3u]
  rw [show IntKind.u32.wrap 0 = 0 from rfl]
  rw [show f7x 3 f7 false false = f7 from rfl]
  clear e0 e3 e7 erd ers1 ers2 e28 ez8 ecs eaq erl r1 r1u r2 r2u r3 r3u
  subst h7
  rw [join_sum (a := opc) (b := 0) (c := f3) (d := (w / 32768 % 32)) (e := (w / 1048576 % 32)) (f := 0) (by omega) (by omega) (by omega) (by omega) (by omega) (by omega)]
  have bd0 : 0 ≤ opc ∧ opc < 128 := by omega
  have bd2 : 0 ≤ f3 ∧ f3 < 8 := by omega
  have a0 : In (opc * 1) 127 := In.field 7 0 (by decide) (by decide) (by decide) bd0.1 bd0.2
  have o0 := In.or (In.zero 0) a0 (by decide)
  have a1 : In (f3 * 4096) 28672 := In.field 3 12 (by decide) (by decide) (by decide) bd2.1 bd2.2
  have o1 := In.or o0.2 a1 (by decide)
  have a2 : In ((w / 32768 % 32) * 32768) 1015808 := In.part 5 15 (by decide) (by decide) (by decide) (by decide)
  have o2 := In.or o1.2 a2 (by decide)
  have a3 : In ((w / 1048576 % 32) * 1048576) 32505856 := In.part 5 20 (by decide) (by decide) (by decide) (by decide)
  have o3 := In.or o2.2 a3 (by decide)
  rw [show opc + 0 * 128 + f3 * 4096 + (w / 32768 % 32) * 32768 + (w / 1048576 % 32) * 1048576 + 0 * 33554432 = 0 + opc * 1 + f3 * 4096 + (w / 32768 % 32) * 32768 + (w / 1048576 % 32) * 1048576 by clear h hw0 hw1 hf; omega]
  rw [word_sum lw (In.zero 0) o3.2 (by decide) (by decide)]
  unfold partB
  clear a3 o3 a2 o2 a1 o1 a0 o0 lw
  congr 2
  omega
theorem enc_f4 {opc f3 f7 w : Int} (h : W32 w) (hf : Isa.fitsB 4 opc f3 f7 w = true) (h7 : f7 = 0) : encK (rlayF layV) joinV 4 false true true true opc f3 f7 (0) (Isa.reg w 32768) (Isa.reg w 1048576) 0 (immV 83 w) false false = some (encOk w) := by
  have hw0 := h.1
  have hw1 := h.2
  obtain ⟨e0, e3, e7, erd, ers1, ers2, e28, ez8, ecs, eaq, erl⟩ := fl_all h
  simp only [Isa.fitsB, Bool.and_eq_true, beq_iff_eq, e0, e3, e7, erd, ers1, ers2, e28] at hf
  obtain ⟨r1, r1u⟩ := fl5 (d := 128) h (by decide)
  obtain ⟨r2, r2u⟩ := fl5 (d := 32768) h (by decide)
  obtain ⟨r3, r3u⟩ := fl5 (d := 1048576) h (by decide)
  obtain ⟨l1, l2⟩ := layS_imm h
  have lw := l2
  rw [encK_fin (wi := partS w) (by omega) (by rw [r2]; omega) (by rw [r3]; omega) (by omega) (fun _ => by rw [show rlayF layV (4 : Nat) (immV 83 w) = layV 83 (immV 83 w) by simp [rlayF]]; exact l1) (fun h => by cases h) rfl rfl rfl rfl rfl rfl rfl]
  unfold encF
  rw [show isN 4 = false from rfl, cond_false]
  rw [show IntKind.u32.wrap (IntKind.u32.wrap 0 * 1048576) = 0 from rfl]
  rw [r2u, r3u]
  rw [show IntKind.u32.wrap 0 = 0 from rfl]
  rw [show f7x 4 f7 false false = f7 from rfl]
  clear e0 e3 e7 erd ers1 ers2 e28 ez8 ecs eaq erl r1 r1u r2 r2u r3 r3u
  subst h7
  rw [join_sum (a := opc) (b := 0) (c := f3) (d := (w / 32768 % 32)) (e := (w / 1048576 % 32)) (f := 0) (by omega) (by omega) (by omega) (by omega) (by omega) (by omega)]
  have bd0 : 0 ≤ opc ∧ opc < 128 := by omega
  have bd2 : 0 ≤ f3 ∧ f3 < 8 := by omega
  have a0 : In (opc * 1) 127 := In.field 7 0 (by decide) (by decide) (by decide) bd0.1 bd0.2
  have o0 := In.or (In.zero 0) a0 (by decide)
  have a1 : In (f3 * 4096) 28672 := In.field 3 12 (by decide) (by decide) (by decide) bd2.1 bd2.2
  have o1 := In.or o0.2 a1 (by decide)
  have a2 : In ((w / 32768 % 32) * 32768) 1015808 := In.part 5 15 (by decide) (by decide) (by decide) (by decide)
  have o2 := In.or o1.2 a2 (by decide)
  have a3 : In ((w / 1048576 % 32) * 1048576) 32505856 := In.part 5 20 (by decide) (by decide) (by decide) (by decide)
  have o3 := In.or o2.2 a3 (by decide)
  rw [show opc + 0 * 128 + f3 * 4096 + (w / 32768 % 32) * 32768 + (w / 1048576 % 32) * 1048576 + 0 * 33554432 = 0 + opc * 1 + f3 * 4096 + (w / 32768 % 32) * 32768 + (w / 1048576 % 32) * 1048576 by clear h hw0 hw1 hf; omega]
  rw [word_sum lw (In.zero 0) o3.2 (by decide) (by decide)]
  unfold partS
  clear a3 o3 a2 o2 a1 o1 a0 o0 lw
  congr 2
  omega
theorem enc_f5 {opc f3 f7 w : Int} (h : W32 w) (hf : Isa.fitsB 5 opc f3 f7 w = true)  : encK (rlayF layV) joinV 5 true true false true opc f3 f7 (Isa.reg w 128) (Isa.reg w 32768) (0) 0 (Isa.fl w 1048576 31) false false = some (encOk w) := by
  have hw0 := h.1
  have hw1 := h.2
  obtain ⟨e0, e3, e7, erd, ers1, ers2, e28, ez8, ecs, eaq, erl⟩ := fl_all h
  simp only [Isa.fitsB, Bool.and_eq_true, beq_iff_eq, e0, e3, e7, erd, ers1, ers2, e28] at hf
  obtain ⟨r1, r1u⟩ := fl5 (d := 128) h (by decide)
  obtain ⟨r2, r2u⟩ := fl5 (d := 32768) h (by decide)
  obtain ⟨r3, r3u⟩ := fl5 (d := 1048576) h (by decide)
  have lw : In (w / 1048576 % 32 * 1048576) 32505856 := In.field 5 20 (by decide) (by decide) (by decide) (by omega) (by omega)
  rw [encK_fin (wi := w / 1048576 % 32 * 1048576) (by rw [r1]; omega) (by rw [r2]; omega) (by omega) (by omega) (fun _ => by
      rw [ers2]
      show (IntKind.u32.wrap (w / 1048576 % 32 * 1048576), decide (w / 1048576 % 32 < 32)) = _
      rw [lw.wrap, decide_eq_true (by omega)]) (fun h => by cases h) rfl rfl rfl rfl rfl rfl rfl]
  unfold encF
  rw [show isN 5 = false from rfl, cond_false]
  rw [show IntKind.u32.wrap (IntKind.u32.wrap 0 * 1048576) = 0 from rfl]
  rw [r1u, r2u]
  rw [show IntKind.u32.wrap 0 = 0 from rfl]
  rw [show f7x 5 f7 false false = f7 from rfl]
  clear e0 e3 e7 erd ers1 ers2 e28 ez8 ecs eaq erl r1 r1u r2 r2u r3 r3u
  rw [join_sum (a := opc) (b := (w / 128 % 32)) (c := f3) (d := (w / 32768 % 32)) (e := 0) (f := f7) (by omega) (by omega) (by omega) (by omega) (by omega) (by omega)]
  have bd0 : 0 ≤ opc ∧ opc < 128 := by omega
  have bd2 : 0 ≤ f3 ∧ f3 < 8 := by omega
  have bd5 : 0 ≤ f7 ∧ f7 < 128 := by omega
  have a0 : In (opc * 1) 127 := In.field 7 0 (by decide) (by decide) (by decide) bd0.1 bd0.2
  have o0 := In.or (In.zero 0) a0 (by decide)
  have a1 : In ((w / 128 % 32) * 128) 3968 := In.part 5 7 (by decide) (by decide) (by decide) (by decide)
  have o1 := In.or o0.2 a1 (by decide)
  have a2 : In (f3 * 4096) 28672 := In.field 3 12 (by decide) (by decide) (by decide) bd2.1 bd2.2
  have o2 := In.or o1.2 a2 (by decide)
  have a3 : In ((w / 32768 % 32) * 32768) 1015808 := In.part 5 15 (by decide) (by decide) (by decide) (by decide)
  have o3 := In.or o2.2 a3 (by decide)
  have a4 : In (f7 * 33554432) 4261412864 := In.field 7 25 (by decide) (by decide) (by decide) bd5.1 bd5.2
  have o4 := In.or o3.2 a4 (by decide)
  rw [show opc + (w / 128 % 32) * 128 + f3 * 4096 + (w / 32768 % 32) * 32768 + 0 * 1048576 + f7 * 33554432 = 0 + opc * 1 + (w / 128 % 32) * 128 + f3 * 4096 + (w / 32768 % 32) * 32768 + f7 * 33554432 by clear h hw0 hw1 hf; omega]
  rw [word_sum lw (In.zero 0) o4.2 (by decide) (by decide)]
  clear a4 o4 a3 o3 a2 o2 a1 o1 a0 o0 lw
  congr 2
  omega
theorem enc_f6 {opc f3 f7 w : Int} (h : W32 w) (hf : Isa.fitsB 6 opc f3 f7 w = true)  : encK (rlayF layV) joinV 6 true true true false opc f3 f7 (Isa.reg w 128) (Isa.reg w 32768) (Isa.reg w 1048576) 0 0 false false = some (encOk w) := by
  have hw0 := h.1
  have hw1 := h.2
  obtain ⟨e0, e3, e7, erd, ers1, ers2, e28, ez8, ecs, eaq, erl⟩ := fl_all h
  simp only [Isa.fitsB, Bool.and_eq_true, beq_iff_eq, e0, e3, e7, erd, ers1, ers2, e28] at hf
  obtain ⟨r1, r1u⟩ := fl5 (d := 128) h (by decide)
  obtain ⟨r2, r2u⟩ := fl5 (d := 32768) h (by decide)
  obtain ⟨r3, r3u⟩ := fl5 (d := 1048576) h (by decide)
  have lw : In 0 0 := In.zero 0
  rw [encK_fin (wi := 0) (by rw [r1]; omega) (by rw [r2]; omega) (by rw [r3]; omega) (by omega) (fun h => by cases h) (fun _ => rfl) rfl rfl rfl rfl rfl rfl rfl]
  unfold encF
  rw [show isN 6 = false from rfl, cond_false]
  rw [show IntKind.u32.wrap (IntKind.u32.wrap 0 * 1048576) = 0 from rfl]
  rw [r1u, r2u, r3u]
  rw [show f7x 6 f7 false false = f7 from rfl]
  clear e0 e3 e7 erd ers1 ers2 e28 ez8 ecs eaq erl r1 r1u r2 r2u r3 r3u
  rw [join_sum (a := opc) (b := (w / 128 % 32)) (c := f3) (d := (w / 32768 % 32)) (e := (w / 1048576 % 32)) (f := f7) (by omega) (by omega) (by omega) (by omega) (by omega) (by omega)]
  have bd0 : 0 ≤ opc ∧ opc < 128 := by omega
  have bd2 : 0 ≤ f3 ∧ f3 < 8 := by omega
  have bd5 : 0 ≤ f7 ∧ f7 < 128 := by omega
  have a0 : In (opc * 1) 127 := In.field 7 0 (by decide) (by decide) (by decide) bd0.1 bd0.2
  have o0 := In.or (In.zero 0) a0 (by decide)
  have a1 : In ((w / 128 % 32) * 128) 3968 := In.part 5 7 (by decide) (by decide) (by decide) (by decide)
  have o1 := In.or o0.2 a1 (by decide)
  have a2 : In (f3 * 4096) 28672 := In.field 3 12 (by decide) (by decide) (by decide) bd2.1 bd2.2
  have o2 := In.or o1.2 a2 (by decide)
  have a3 : In ((w / 32768 % 32) * 32768) 1015808 := In.part 5 15 (by decide) (by decide) (by decide) (by decide)
  have o3 := In.or o2.2 a3 (by decide)
  have a4 : In ((w / 1048576 % 32) * 1048576) 32505856 := In.part 5 20 (by decide) (by decide) (by decide) (by decide)
  have o4 := In.or o3.2 a4 (by decide)
  have a5 : In (f7 * 33554432) 4261412864 := In.field 7 25 (by decide) (by decide) (by decide) bd5.1 bd5.2
  have o5 := In.or o4.2 a5 (by decide)
  rw [show opc + (w / 128 % 32) * 128 + f3 * 4096 + (w / 32768 % 32) * 32768 + (w / 1048576 % 32) * 1048576 + f7 * 33554432 = 0 + opc * 1 + (w / 128 % 32) * 128 + f3 * 4096 + (w / 32768 % 32) * 32768 + (w / 1048576 % 32) * 1048576 + f7 * 33554432 by clear h hw0 hw1 hf; omega]
  rw [word_sum lw (In.zero 0) o5.2 (by decide) (by decide)]
  clear a5 o5 a4 o4 a3 o3 a2 o2 a1 o1 a0 o0 lw
  congr 2
  omega
theorem enc_f7 {opc f3 f7 w : Int} (h : W32 w) (hf : Isa.fitsB 7 opc f3 f7 w = true) (h7 : f7 = 0) : encK (rlayF layV) joinV 7 false false false true opc f3 f7 (0) (0) (0) 0 (Isa.fl w 1048576 255) false false = some (encOk w) := by
  have hw0 := h.1
  have hw1 := h.2
  obtain ⟨e0, e3, e7, erd, ers1, ers2, e28, ez8, ecs, eaq, erl⟩ := fl_all h
  simp only [Isa.fitsB, Bool.and_eq_true, beq_iff_eq, e0, e3, e7, erd, ers1, ers2, e28] at hf
  obtain ⟨r1, r1u⟩ := fl5 (d := 128) h (by decide)
  obtain ⟨r2, r2u⟩ := fl5 (d := 32768) h (by decide)
  obtain ⟨r3, r3u⟩ := fl5 (d := 1048576) h (by decide)
  have lw : In (w / 1048576 % 256 * 1048576) 267386880 := In.field 8 20 (by decide) (by decide) (by decide) (by omega) (by omega)
  rw [encK_fin (wi := w / 1048576 % 256 * 1048576) (by omega) (by omega) (by omega) (by omega) (fun _ => by
      rw [ez8]
      show (IntKind.u32.wrap (w / 1048576 % 256 * 1048576), decide (w / 1048576 % 256 < 256)) = _
      rw [lw.wrap, decide_eq_true (by omega)]) (fun h => by cases h) rfl rfl rfl rfl rfl rfl rfl]
  unfold encF
  rw [show isN 7 = false from rfl, cond_false]
  rw [show IntKind.u32.wrap (IntKind.u32.wrap 0 * 1048576) = 0 from rfl]
  rw [show IntKind.u32.wrap 0 = 0 from rfl]
  rw [show f7x 7 f7 false false = f7 from rfl]
  clear e0 e3 e7 erd ers1 ers2 e28 ez8 ecs eaq erl r1 r1u r2 r2u r3 r3u
  subst h7
  rw [join_sum (a := opc) (b := 0) (c := f3) (d := 0) (e := 0) (f := 0) (by omega) (by omega) (by omega) (by omega) (by omega) (by omega)]
  have bd0 : 0 ≤ opc ∧ opc < 128 := by omega
  have bd2 : 0 ≤ f3 ∧ f3 < 8 := by omega
  have a0 : In (opc * 1) 127 := In.field 7 0 (by decide) (by decide) (by decide) bd0.1 bd0.2
  have o0 := In.or (In.zero 0) a0 (by decide)
  have a1 : In (f3 * 4096) 28672 := In.field 3 12 (by decide) (by decide) (by decide) bd2.1 bd2.2
  have o1 := In.or o0.2 a1 (by decide)
  rw [show opc + 0 * 128 + f3 * 4096 + 0 * 32768 + 0 * 1048576 + 0 * 33554432 = 0 + opc * 1 + f3 * 4096 by clear h hw0 hw1 hf; omega]
  rw [word_sum lw (In.zero 0) o1.2 (by decide) (by decide)]
  clear a1 o1 a0 o0 lw
  congr 2
  omega
theorem enc_f9 {opc f3 f7 w : Int} (h : W32 w) (hf : Isa.fitsB 9 opc f3 f7 w = true)  : encK (rlayF layV) joinV 9 false true true false opc f3 f7 (0) (Isa.reg w 32768) (Isa.reg w 1048576) 0 0 false false = some (encOk w) := by
  have hw0 := h.1
  have hw1 := h.2
  obtain ⟨e0, e3, e7, erd, ers1, ers2, e28, ez8, ecs, eaq, erl⟩ := fl_all h
  simp only [Isa.fitsB, Bool.and_eq_true, beq_iff_eq, e0, e3, e7, erd, ers1, ers2, e28] at hf
  obtain ⟨r1, r1u⟩ := fl5 (d := 128) h (by decide)
  obtain ⟨r2, r2u⟩ := fl5 (d := 32768) h (by decide)
  obtain ⟨r3, r3u⟩ := fl5 (d := 1048576) h (by decide)
  have lw : In 0 0 := In.zero 0
  rw [encK_fin (wi := 0) (by omega) (by rw [r2]; omega) (by rw [r3]; omega) (by omega) (fun h => by cases h) (fun _ => rfl) rfl rfl rfl rfl rfl rfl rfl]
  unfold encF
  rw [show isN 9 = false from rfl, cond_false]
  rw [show IntKind.u32.wrap (IntKind.u32.wrap 0 * 1048576) = 0 from rfl]
  rw [r2u, r3u]
  rw [show IntKind.u32.wrap 0 = 0 from rfl]
  rw [show f7x 9 f7 false false = f7 from rfl]
  clear e0 e3 e7 erd ers1 ers2 e28 ez8 ecs eaq erl r1 r1u r2 r2u r3 r3u
  rw [join_sum (a := opc) (b := 0) (c := f3) (d := (w / 32768 % 32)) (e := (w / 1048576 % 32)) (f := f7) (by omega) (by omega) (by omega) (by omega) (by omega) (by omega)]
  have bd0 : 0 ≤ opc ∧ opc < 128 := by omega
  have bd2 : 0 ≤ f3 ∧ f3 < 8 := by omega
  have bd5 : 0 ≤ f7 ∧ f7 < 128 := by omega
  have a0 : In (opc * 1) 127 := In.field 7 0 (by decide) (by decide) (by decide) bd0.1 bd0.2
  have o0 := In.or (In.zero 0) a0 (by decide)
  have a1 : In (f3 * 4096) 28672 := In.field 3 12 (by decide) (by decide) (by decide) bd2.1 bd2.2
  have o1 := In.or o0.2 a1 (by decide)
  have a2 : In ((w / 32768 % 32) * 32768) 1015808 := In.part 5 15 (by decide) (by decide) (by decide) (by decide)
  have o2 := In.or o1.2 a2 (by decide)
  have a3 : In ((w / 1048576 % 32) * 1048576) 32505856 := In.part 5 20 (by decide) (by decide) (by decide) (by decide)
  have o3 := In.or o2.2 a3 (by decide)
  have a4 : In (f7 * 33554432) 4261412864 := In.field 7 25 (by decide) (by decide) (by decide) bd5.1 bd5.2
  have o4 := In.or o3.2 a4 (by decide)
  rw [show opc + 0 * 128 + f3 * 4096 + (w / 32768 % 32) * 32768 + (w / 1048576 % 32) * 1048576 + f7 * 33554432 = 0 + opc * 1 + f3 * 4096 + (w / 32768 % 32) * 32768 + (w / 1048576 % 32) * 1048576 + f7 * 33554432 by clear h hw0 hw1 hf; omega]
  rw [word_sum lw (In.zero 0) o4.2 (by decide) (by decide)]
  clear a4 o4 a3 o3 a2 o2 a1 o1 a0 o0 lw
  congr 2
  omega
theorem enc_f10 {opc f3 f7 w : Int} (h : W32 w) (hf : Isa.fitsB 10 opc f3 f7 w = true) (h7 : f7 = 0) : encK (rlayF layV) joinV 10 true true false false opc f3 f7 (Isa.reg w 128) (Isa.reg w 32768) (0) (IntKind.i64.wrap (Isa.fl w 1048576 4095)) 0 false false = some (encOk w) := by
  have hw0 := h.1
  have hw1 := h.2
  obtain ⟨e0, e3, e7, erd, ers1, ers2, e28, ez8, ecs, eaq, erl⟩ := fl_all h
  simp only [Isa.fitsB, Bool.and_eq_true, beq_iff_eq, e0, e3, e7, erd, ers1, ers2, e28] at hf
  obtain ⟨r1, r1u⟩ := fl5 (d := 128) h (by decide)
  obtain ⟨r2, r2u⟩ := fl5 (d := 32768) h (by decide)
  obtain ⟨r3, r3u⟩ := fl5 (d := 1048576) h (by decide)
  have lw : In 0 0 := In.zero 0
  have ec : IntKind.i64.wrap (Isa.fl w 1048576 4095) = w / 1048576 % 4096 := by rw [ecs]; exact i64_id (by omega)
  rw [encK_fin (wi := 0) (by rw [r1]; omega) (by rw [r2]; omega) (by omega) (by rw [ec]; omega) (fun h => by cases h) (fun _ => rfl) rfl rfl rfl rfl rfl rfl rfl]
  unfold encF
  rw [show isN 10 = false from rfl, cond_false]
  have lc : In (w / 1048576 % 4096 * 1048576) 4293918720 := In.field 12 20 (by decide) (by decide) (by decide) (by omega) (by omega)
  rw [ec, u32_id (x := w / 1048576 % 4096) (by omega), lc.wrap]
  rw [r1u, r2u]
  rw [show IntKind.u32.wrap 0 = 0 from rfl]
  rw [show f7x 10 f7 false false = f7 from rfl]
  clear e0 e3 e7 erd ers1 ers2 e28 ez8 ecs eaq erl r1 r1u r2 r2u r3 r3u
  subst h7
  rw [join_sum (a := opc) (b := (w / 128 % 32)) (c := f3) (d := (w / 32768 % 32)) (e := 0) (f := 0) (by omega) (by omega) (by omega) (by omega) (by omega) (by omega)]
  have bd0 : 0 ≤ opc ∧ opc < 128 := by omega
  have bd2 : 0 ≤ f3 ∧ f3 < 8 := by omega
  have a0 : In (opc * 1) 127 := In.field 7 0 (by decide) (by decide) (by decide) bd0.1 bd0.2
  have o0 := In.or (In.zero 0) a0 (by decide)
  have a1 : In ((w / 128 % 32) * 128) 3968 := In.part 5 7 (by decide) (by decide) (by decide) (by decide)
  have o1 := In.or o0.2 a1 (by decide)
  have a2 : In (f3 * 4096) 28672 := In.field 3 12 (by decide) (by decide) (by decide) bd2.1 bd2.2
  have o2 := In.or o1.2 a2 (by decide)
  have a3 : In ((w / 32768 % 32) * 32768) 1015808 := In.part 5 15 (by decide) (by decide) (by decide) (by decide)
  have o3 := In.or o2.2 a3 (by decide)
  rw [show opc + (w / 128 % 32) * 128 + f3 * 4096 + (w / 32768 % 32) * 32768 + 0 * 1048576 + 0 * 33554432 = 0 + opc * 1 + (w / 128 % 32) * 128 + f3 * 4096 + (w / 32768 % 32) * 32768 by clear h hw0 hw1 hf; omega]
  rw [word_sum lw lc o3.2 (by decide) (by decide)]
  clear a3 o3 a2 o2 a1 o1 a0 o0 lw
  congr 2
  omega
theorem enc_f11 {opc f3 f7 w : Int} (h : W32 w) (hf : Isa.fitsB 11 opc f3 f7 w = true) (h7 : f7 = 0) : encK (rlayF layV) joinV 11 true false false true opc f3 f7 (Isa.reg w 128) (0) (0) (IntKind.i64.wrap (Isa.fl w 1048576 4095)) (Isa.fl w 32768 31) false false = some (encOk w) := by
  have hw0 := h.1
  have hw1 := h.2
  obtain ⟨e0, e3, e7, erd, ers1, ers2, e28, ez8, ecs, eaq, erl⟩ := fl_all h
  simp only [Isa.fitsB, Bool.and_eq_true, beq_iff_eq, e0, e3, e7, erd, ers1, ers2, e28] at hf
  obtain ⟨r1, r1u⟩ := fl5 (d := 128) h (by decide)
  obtain ⟨r2, r2u⟩ := fl5 (d := 32768) h (by decide)
  obtain ⟨r3, r3u⟩ := fl5 (d := 1048576) h (by decide)
  have lw : In (w / 32768 % 32 * 32768) 1015808 := In.field 5 15 (by decide) (by decide) (by decide) (by omega) (by omega)
  have ec : IntKind.i64.wrap (Isa.fl w 1048576 4095) = w / 1048576 % 4096 := by rw [ecs]; exact i64_id (by omega)
  rw [encK_fin (wi := w / 32768 % 32 * 32768) (by rw [r1]; omega) (by omega) (by omega) (by rw [ec]; omega) (fun _ => by
      rw [ers1]
      show (IntKind.u32.wrap (w / 32768 % 32 * 32768), decide (w / 32768 % 32 < 32)) = _
      rw [lw.wrap, decide_eq_true (by omega)]) (fun h => by cases h) rfl rfl rfl rfl rfl rfl rfl]
  unfold encF
  rw [show isN 11 = false from rfl, cond_false]
  have lc : In (w / 1048576 % 4096 * 1048576) 4293918720 := In.field 12 20 (by decide) (by decide) (by decide) (by omega) (by omega)
  rw [ec, u32_id (x := w / 1048576 % 4096) (by omega), lc.wrap]
  rw [r1u]
  rw [show IntKind.u32.wrap 0 = 0 from rfl]
  rw [show f7x 11 f7 false false = f7 from rfl]
  clear e0 e3 e7 erd ers1 ers2 e28 ez8 ecs eaq erl r1 r1u r2 r2u r3 r3u
  subst h7
  rw [join_sum (a := opc) (b := (w / 128 % 32)) (c := f3) (d := 0) (e := 0) (f := 0) (by omega) (by omega) (by omega) (by omega) (by omega) (by omega)]
  have bd0 : 0 ≤ opc ∧ opc < 128 := by omega
  have bd2 : 0 ≤ f3 ∧ f3 < 8 := by omega
  have a0 : In (opc * 1) 127 := In.field 7 0 (by decide) (by decide) (by decide) bd0.1 bd0.2
  have o0 := In.or (In.zero 0) a0 (by decide)
  have a1 : In ((w / 128 % 32) * 128) 3968 := In.part 5 7 (by decide) (by decide) (by decide) (by decide)
  have o1 := In.or o0.2 a1 (by decide)
  have a2 : In (f3 * 4096) 28672 := In.field 3 12 (by decide) (by decide) (by decide) bd2.1 bd2.2
  have o2 := In.or o1.2 a2 (by decide)
  rw [show opc + (w / 128 % 32) * 128 + f3 * 4096 + 0 * 32768 + 0 * 1048576 + 0 * 33554432 = 0 + opc * 1 + (w / 128 % 32) * 128 + f3 * 4096 by clear h hw0 hw1 hf; omega]
  rw [word_sum lw lc o2.2 (by decide) (by decide)]
  clear a2 o2 a1 o1 a0 o0 lw
  congr 2
  omega
theorem enc_f12 {opc f3 f7 w : Int} (h : W32 w) (hf : Isa.fitsB 12 opc f3 f7 w = true) (h7 : 0 ≤ f7 ∧ f7 < 32) : encK (rlayF layV) joinV 12 true true false false opc f3 f7 (Isa.reg w 128) (Isa.reg w 32768) (0) 0 0 (Isa.fl w 67108864 1 == 1) (Isa.fl w 33554432 1 == 1) = some (encOk w) := by
  have hw0 := h.1
  have hw1 := h.2
  obtain ⟨e0, e3, e7, erd, ers1, ers2, e28, ez8, ecs, eaq, erl⟩ := fl_all h
  simp only [Isa.fitsB, Bool.and_eq_true, beq_iff_eq, e0, e3, e7, erd, ers1, ers2, e28] at hf
  rw [Int.fdiv_eq_ediv_of_nonneg _ (by decide)] at hf
  obtain ⟨r1, r1u⟩ := fl5 (d := 128) h (by decide)
  obtain ⟨r2, r2u⟩ := fl5 (d := 32768) h (by decide)
  obtain ⟨r3, r3u⟩ := fl5 (d := 1048576) h (by decide)
  have lw : In 0 0 := In.zero 0
  rw [encK_fin (wi := 0) (by rw [r1]; omega) (by rw [r2]; omega) (by omega) (by omega) (fun h => by cases h) (fun _ => rfl) rfl rfl rfl rfl rfl rfl rfl]
  unfold encF
  rw [show isN 12 = false from rfl, cond_false]
  rw [show IntKind.u32.wrap (IntKind.u32.wrap 0 * 1048576) = 0 from rfl]
  rw [r1u, r2u]
  rw [show IntKind.u32.wrap 0 = 0 from rfl]
  rw [f7x_A (fm := 12) rfl h7, eaq, erl, bif2 (x := w / 67108864 % 2) (by omega), bif1 (x := w / 33554432 % 2) (by omega)]
  clear e0 e3 e7 erd ers1 ers2 e28 ez8 ecs eaq erl r1 r1u r2 r2u r3 r3u
  rw [join_sum (a := opc) (b := (w / 128 % 32)) (c := f3) (d := (w / 32768 % 32)) (e := 0) (f := (f7 * 4 + w / 67108864 % 2 * 2 + w / 33554432 % 2)) (by omega) (by omega) (by omega) (by omega) (by omega) (by omega)]
  have bd0 : 0 ≤ opc ∧ opc < 128 := by omega
  have bd2 : 0 ≤ f3 ∧ f3 < 8 := by omega
  have bd5 : 0 ≤ (f7 * 4 + w / 67108864 % 2 * 2 + w / 33554432 % 2) ∧ (f7 * 4 + w / 67108864 % 2 * 2 + w / 33554432 % 2) < 128 := by omega
  have a0 : In (opc * 1) 127 := In.field 7 0 (by decide) (by decide) (by decide) bd0.1 bd0.2
  have o0 := In.or (In.zero 0) a0 (by decide)
  have a1 : In ((w / 128 % 32) * 128) 3968 := In.part 5 7 (by decide) (by decide) (by decide) (by decide)
  have o1 := In.or o0.2 a1 (by decide)
  have a2 : In (f3 * 4096) 28672 := In.field 3 12 (by decide) (by decide) (by decide) bd2.1 bd2.2
  have o2 := In.or o1.2 a2 (by decide)
  have a3 : In ((w / 32768 % 32) * 32768) 1015808 := In.part 5 15 (by decide) (by decide) (by decide) (by decide)
  have o3 := In.or o2.2 a3 (by decide)
  have a4 : In ((f7 * 4 + w / 67108864 % 2 * 2 + w / 33554432 % 2) * 33554432) 4261412864 := In.field 7 25 (by decide) (by decide) (by decide) bd5.1 bd5.2
  have o4 := In.or o3.2 a4 (by decide)
  rw [show opc + (w / 128 % 32) * 128 + f3 * 4096 + (w / 32768 % 32) * 32768 + 0 * 1048576 + (f7 * 4 + w / 67108864 % 2 * 2 + w / 33554432 % 2) * 33554432 = 0 + opc * 1 + (w / 128 % 32) * 128 + f3 * 4096 + (w / 32768 % 32) * 32768 + (f7 * 4 + w / 67108864 % 2 * 2 + w / 33554432 % 2) * 33554432 by clear h hw0 hw1 hf; omega]
  rw [word_sum lw (In.zero 0) o4.2 (by decide) (by decide)]
  clear a4 o4 a3 o3 a2 o2 a1 o1 a0 o0 lw
  congr 2
  omega
theorem enc_f13 {opc f3 f7 w : Int} (h : W32 w) (hf : Isa.fitsB 13 opc f3 f7 w = true) (h7 : 0 ≤ f7 ∧ f7 < 32) : encK (rlayF layV) joinV 13 true true true false opc f3 f7 (Isa.reg w 128) (Isa.reg w 32768) (Isa.reg w 1048576) 0 0 (Isa.fl w 67108864 1 == 1) (Isa.fl w 33554432 1 == 1) = some (encOk w) := by
  have hw0 := h.1
  have hw1 := h.2
  obtain ⟨e0, e3, e7, erd, ers1, ers2, e28, ez8, ecs, eaq, erl⟩ := fl_all h
  simp only [Isa.fitsB, Bool.and_eq_true, beq_iff_eq, e0, e3, e7, erd, ers1, ers2, e28] at hf
  rw [Int.fdiv_eq_ediv_of_nonneg _ (by decide)] at hf
  obtain ⟨r1, r1u⟩ := fl5 (d := 128) h (by decide)
  obtain ⟨r2, r2u⟩ := fl5 (d := 32768) h (by decide)
  obtain ⟨r3, r3u⟩ := fl5 (d := 1048576) h (by decide)
  have lw : In 0 0 := In.zero 0
  rw [encK_fin (wi := 0) (by rw [r1]; omega) (by rw [r2]; omega) (by rw [r3]; omega) (by omega) (fun h => by cases h) (fun _ => rfl) rfl rfl rfl rfl rfl rfl rfl]
  unfold encF
  rw [show isN 13 = false from rfl, cond_false]
  rw [show IntKind.u32.wrap (IntKind.u32.wrap 0 * 1048576) = 0 from rfl]
  rw [r1u, r2u, r3u]
  rw [f7x_A (fm := 13) rfl h7, eaq, erl, bif2 (x := w / 67108864 % 2) (by omega), bif1 (x := w / 33554432 % 2) (by omega)]
  clear e0 e3 e7 erd ers1 ers2 e28 ez8 ecs eaq erl r1 r1u r2 r2u r3 r3u
  rw [join_sum (a := opc) (b := (w / 128 % 32)) (c := f3) (d := (w / 32768 % 32)) (e := (w / 1048576 % 32)) (f := (f7 * 4 + w / 67108864 % 2 * 2 + w / 33554432 % 2)) (by omega) (by omega) (by omega) (by omega) (by omega) (by omega)]
  have bd0 : 0 ≤ opc ∧ opc < 128 := by omega
  have bd2 : 0 ≤ f3 ∧ f3 < 8 := by omega
  have bd5 : 0 ≤ (f7 * 4 + w / 67108864 % 2 * 2 + w / 33554432 % 2) ∧ (f7 * 4 + w / 67108864 % 2 * 2 + w / 33554432 % 2) < 128 := by omega
  have a0 : In (opc * 1) 127 := In.field 7 0 (by decide) (by decide) (by decide) bd0.1 bd0.2
  have o0 := In.or (In.zero 0) a0 (by decide)
  have a1 : In ((w / 128 % 32) * 128) 3968 := In.part 5 7 (by decide) (by decide) (by decide) (by decide)
  have o1 := In.or o0.2 a1 (by decide)
  have a2 : In (f3 * 4096) 28672 := In.field 3 12 (by decide) (by decide) (by decide) bd2.1 bd2.2
  have o2 := In.or o1.2 a2 (by decide)
  have a3 : In ((w / 32768 % 32) * 32768) 1015808 := In.part 5 15 (by decide) (by decide) (by decide) (by decide)
  have o3 := In.or o2.2 a3 (by decide)
  have a4 : In ((w / 1048576 % 32) * 1048576) 32505856 := In.part 5 20 (by decide) (by decide) (by decide) (by decide)
  have o4 := In.or o3.2 a4 (by decide)
  have a5 : In ((f7 * 4 + w / 67108864 % 2 * 2 + w / 33554432 % 2) * 33554432) 4261412864 := In.field 7 25 (by decide) (by decide) (by decide) bd5.1 bd5.2
  have o5 := In.or o4.2 a5 (by decide)
  rw [show opc + (w / 128 % 32) * 128 + f3 * 4096 + (w / 32768 % 32) * 32768 + (w / 1048576 % 32) * 1048576 + (f7 * 4 + w / 67108864 % 2 * 2 + w / 33554432 % 2) * 33554432 = 0 + opc * 1 + (w / 128 % 32) * 128 + f3 * 4096 + (w / 32768 % 32) * 32768 + (w / 1048576 % 32) * 1048576 + (f7 * 4 + w / 67108864 % 2 * 2 + w / 33554432 % 2) * 33554432 by clear h hw0 hw1 hf; omega]
  rw [word_sum lw (In.zero 0) o5.2 (by decide) (by decide)]
  clear a5 o5 a4 o4 a3 o3 a2 o2 a1 o1 a0 o0 lw
  congr 2
  omega
theorem enc_f8 {opc f3 f7 w : Int} (hf : Isa.fitsB 8 opc f3 f7 w = true) : encK (rlayF layV) joinV 8 false false false false opc f3 f7 0 0 0 0 0 false false = some (encOk w) := by
  simp only [Isa.fitsB, beq_iff_eq] at hf
  rw [hf]; rfl
/-! ### The table -/
def rowZ (r : Isa.Row) : Bool := isOp r.op && (Nat.beq (formF r.op) r.form.toNat && (decide (0 ≤ r.form) && (decide (r.form ≤ 13) && (opcL.getD (r.op - 1).toNat 0 == r.opc && (f3L.getD (r.op - 1).toNat 0 == r.f3 && (f7L.getD (r.op - 1).toNat 0 == r.f7 &&
  ((bif r.form == 0 || r.form == 1 then r.f3 == 0 else true) && ((bif r.form == 0 || r.form == 1 || r.form == 2 || r.form == 3 || r.form == 4 || r.form == 7 || r.form == 10 || r.form == 11 then r.f7 == 0 else true) && (bif r.form == 12 || r.form == 13 then decide (0 ≤ r.f7) && decide (r.f7 < 32) else true)))))))))
theorem rowZ_all : Isa.table.all rowZ = true := by decide
theorem decL_true {w : Int} : ∀ {l : List Isa.Row}, (Isa.decL l w).2 = true → ∃ r ∈ l, Isa.fitsB r.form r.opc r.f3 r.f7 w = true ∧ Isa.decL l w = (Isa.decI r.form r.op w, true)
  | [], h => by cases h
  | r :: l, h => by
    cases hb : Isa.fitsB r.form r.opc r.f3 r.f7 w with
    | true => exact ⟨r, List.mem_cons_self .., hb, by simp only [Isa.decL, hb, cond_true]⟩
    | false =>
      simp only [Isa.decL, hb, cond_false] at h ⊢
      obtain ⟨r', h1, h2, h3⟩ := decL_true h
      exact ⟨r', List.mem_cons_of_mem _ h1, h2, h3⟩
/-- The instruction that a word decodes to has that word. -/
theorem enc_dec {w : Int} (h : W32 w) (hd : (Isa.dec w).2 = true) : encV (Isa.dec w).1 = encOk w := by
  obtain ⟨r, hr, hf, e⟩ := decL_true (l := Isa.table) hd
  have hz := List.all_eq_true.1 rowZ_all r hr
  have e' : Isa.dec w = (Isa.decI r.form r.op w, true) := e
  rw [e']
  obtain ⟨op, form, opc, f3, f7, kind⟩ := r
  simp only [rowZ, Bool.and_eq_true, decide_eq_true_eq, beq_iff_eq] at hz
  obtain ⟨z1, z2, z3, z4, z5, z6, z7, z8, z9, z10⟩ := hz
  have z2 := Nat.eq_of_beq_eq_true z2
  simp only at hf ⊢
  have fin : ∀ {i : Inst}, i.op = op → encK (rlayF layV) joinV form.toNat (usesF form).1 (usesF form).2.1 (usesF form).2.2.1 (usesF form).2.2.2 opc f3 f7 i.rd i.rs1 i.rs2 i.csr i.imm i.aq i.rl = some (encOk w) → encV i = encOk w := by
    intro i hi hk
    have ef : ((formF op : Nat) : Int) = form := by rw [z2]; omega
    unfold encV
    rw [hi, z1, cond_true, ef, z2, z5, z6, z7, hk]
  have hforms : form = 0 ∨ form = 1 ∨ form = 2 ∨ form = 3 ∨ form = 4 ∨ form = 5 ∨ form = 6 ∨ form = 7 ∨ form = 8 ∨ form = 9 ∨ form = 10 ∨ form = 11 ∨ form = 12 ∨ form = 13 := by omega
  rcases hforms with rfl | rfl | rfl | rfl | rfl | rfl | rfl | rfl | rfl | rfl | rfl | rfl | rfl | rfl
  · exact fin rfl (enc_f0 h hf (by simpa using z8) (by simpa using z9))
  · exact fin rfl (enc_f1 h hf (by simpa using z8) (by simpa using z9))
  · exact fin rfl (enc_f2 h hf (by simpa using z9))
  · exact fin rfl (enc_f3 h hf (by simpa using z9))
  · exact fin rfl (enc_f4 h hf (by simpa using z9))
  · exact fin rfl (enc_f5 h hf)
  · exact fin rfl (enc_f6 h hf)
  · exact fin rfl (enc_f7 h hf (by simpa using z9))
  · exact fin rfl (enc_f8 hf)
  · exact fin rfl (enc_f9 h hf)
  · exact fin rfl (enc_f10 h hf (by simpa using z9))
  · exact fin rfl (enc_f11 h hf (by simpa using z9))
  · exact fin rfl (enc_f12 h hf (by simpa using z10))
  · exact fin rfl (enc_f13 h hf (by simpa using z10))
end Go.Proofs.YtgkicojmgokinaaGreatDoor.Ab
