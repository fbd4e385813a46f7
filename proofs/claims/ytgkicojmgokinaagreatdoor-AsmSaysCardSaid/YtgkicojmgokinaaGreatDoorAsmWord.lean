/- Trimmed: AsmWord -/
import Derived.Test.YtgkicojmgokinaaGreatDoorAsmBits
import Derived.Test.YtgkicojmgokinaaGreatDoorAsmDecode
import Derived.Test.YtgkicojmgokinaaGreatDoorAsmPrinted
namespace Go.Proofs.YtgkicojmgokinaaGreatDoor.Ab
open Go Go.RowKit
set_option linter.unusedVariables false
set_option linter.unusedSimpArgs false
set_option maxRecDepth 100000
def W32 (w : Int) : Prop := 0 ≤ w ∧ w < 4294967296
theorem bitV_lit {x lo n d M : Int} (h : W32 x) (hd : (2 : Int) ^ lo.toNat = d) (hM : (2 : Int) ^ n.toNat = M) (h0 : 0 < d) (hn : n.toNat ≤ 32) : bitV x lo n = x / d % M := by
  unfold bitV
  rw [← hM, ← hd]
  exact and_mask n.toNat rfl hn (by rw [hd]; exact h0) h.1 h.2
theorem and_lit {x m : Int} (n : Nat) (h : W32 x) (hm : m = 2 ^ n - 1) (hn : n ≤ 32) : bits .and .u32 x m = x % 2 ^ n := by
  rw [hm]; exact bits_mask .u32 32 (by decide) wraps_u32 n hn x h.1 h.2
theorem sx {X K H : Int} (hK : K * (2 * H) = 4294967296) (hK0 : 0 < K) (hH : 0 < H) (h : 0 ≤ X ∧ X < 2 * H) : IntKind.u32.wrap ((IntKind.i32.wrap (IntKind.u32.wrap (X * K))).fdiv K) = if X < H then X else X + (4294967296 - 2 * H) := by
  have hb : X * K < 4294967296 := by
    rw [← hK, Int.mul_comm K]; exact Int.mul_lt_mul_of_pos_right h.2 hK0
  have ha : 0 ≤ X * K := Int.mul_nonneg h.1 (by omega)
  have hm : H * K = 2147483648 := by
    have : K * (2 * H) = 2 * (H * K) := by rw [Int.mul_comm K, Int.mul_assoc]
    omega
  have hle : 2 * H ≤ 4294967296 := by
    have : 2 * H * 1 ≤ 2 * H * K := Int.mul_le_mul_of_nonneg_left (by omega) (by omega)
    rw [Int.mul_comm K] at hK
    omega
  rw [Int.fdiv_eq_ediv_of_nonneg _ (by omega), IntKind.wrap_u32 (X * K), IntKind.wrap_i32, show X * K % 4294967296 = X * K by omega]
  by_cases hX : X < H
  · have : X * K < 2147483648 := by rw [← hm]; exact Int.mul_lt_mul_of_pos_right hX hK0
    rw [if_pos hX, show (X * K + 2147483648) % 4294967296 - 2147483648 = X * K by omega, Int.mul_ediv_cancel _ (by omega), IntKind.wrap_u32]
    omega
  · have : 2147483648 ≤ X * K := by rw [← hm]; exact Int.mul_le_mul_of_nonneg_right (by omega) (by omega)
    have e : (X * K + 2147483648) % 4294967296 - 2147483648 = (X - 2 * H) * K := by
      rw [Int.sub_mul, Int.mul_comm (2 * H), hK]; omega
    rw [if_neg hX, e, Int.mul_ediv_cancel _ (by omega), IntKind.wrap_u32]
    omega
def sumI (w : Int) : Int := w / 1048576 % 4096 * 1
def valI (w : Int) : Int := if sumI w < 2048 then sumI w else sumI w + 4294963200
theorem immI_eq {w : Int} (h : W32 w) : immI bitV w = valI w := by
  have h0 := h.1
  have h1 := h.2
  unfold immI
  rw [(bitV_lit (x := w) (lo := 20) (n := 12) (d := 1048576) (M := 4096) h (by decide) (by decide) (by decide) (by decide))]
  have a0 : In (w / 1048576 % 4096 * 1) 4095 := In.field 12 0 (by decide) (by decide) (by decide) (by omega) (by omega)
  have o0 := In.or (In.zero 0) a0 (by decide)
  rw [a0.wrap, o0.1]
  rw [show 0 + w / 1048576 % 4096 * 1 = sumI w by unfold sumI; omega]
  rw [sx (K := 1048576) (H := 2048) (by decide) (by decide) (by decide) (by unfold sumI; omega)]
  rfl
def sumS (w : Int) : Int := w / 33554432 % 128 * 32 + w / 128 % 32 * 1
def valS (w : Int) : Int := if sumS w < 2048 then sumS w else sumS w + 4294963200
theorem immS_eq {w : Int} (h : W32 w) : immS bitV w = valS w := by
  have h0 := h.1
  have h1 := h.2
  unfold immS
  rw [(bitV_lit (x := w) (lo := 25) (n := 7) (d := 33554432) (M := 128) h (by decide) (by decide) (by decide) (by decide)), (bitV_lit (x := w) (lo := 7) (n := 5) (d := 128) (M := 32) h (by decide) (by decide) (by decide) (by decide))]
  have a0 : In (w / 33554432 % 128 * 32) 4064 := In.field 7 5 (by decide) (by decide) (by decide) (by omega) (by omega)
  have o0 := In.or (In.zero 0) a0 (by decide)
  have a1 : In (w / 128 % 32 * 1) 31 := In.field 5 0 (by decide) (by decide) (by decide) (by omega) (by omega)
  have o1 := In.or o0.2 a1 (by decide)
  rw [a0.wrap, a1.wrap, o0.1, o1.1]
  rw [show 0 + w / 33554432 % 128 * 32 + w / 128 % 32 * 1 = sumS w by unfold sumS; omega]
  rw [sx (K := 1048576) (H := 2048) (by decide) (by decide) (by decide) (by unfold sumS; omega)]
  rfl
def sumB (w : Int) : Int := w / 2147483648 % 2 * 4096 + w / 128 % 2 * 2048 + w / 33554432 % 64 * 32 + w / 256 % 16 * 2
def valB (w : Int) : Int := if sumB w < 4096 then sumB w else sumB w + 4294959104
theorem immB_eq {w : Int} (h : W32 w) : immB bitV w = valB w := by
  have h0 := h.1
  have h1 := h.2
  unfold immB
  rw [(bitV_lit (x := w) (lo := 31) (n := 1) (d := 2147483648) (M := 2) h (by decide) (by decide) (by decide) (by decide)), (bitV_lit (x := w) (lo := 7) (n := 1) (d := 128) (M := 2) h (by decide) (by decide) (by decide) (by decide)), (bitV_lit (x := w) (lo := 25) (n := 6) (d := 33554432) (M := 64) h (by decide) (by decide) (by decide) (by decide)), (bitV_lit (x := w) (lo := 8) (n := 4) (d := 256) (M := 16) h (by decide) (by decide) (by decide) (by decide))]
  have a0 : In (w / 2147483648 % 2 * 4096) 4096 := In.field 1 12 (by decide) (by decide) (by decide) (by omega) (by omega)
  have o0 := In.or (In.zero 0) a0 (by decide)
  have a1 : In (w / 128 % 2 * 2048) 2048 := In.field 1 11 (by decide) (by decide) (by decide) (by omega) (by omega)
  have o1 := In.or o0.2 a1 (by decide)
  have a2 : In (w / 33554432 % 64 * 32) 2016 := In.field 6 5 (by decide) (by decide) (by decide) (by omega) (by omega)
  have o2 := In.or o1.2 a2 (by decide)
  have a3 : In (w / 256 % 16 * 2) 30 := In.field 4 1 (by decide) (by decide) (by decide) (by omega) (by omega)
  have o3 := In.or o2.2 a3 (by decide)
  rw [a0.wrap, a1.wrap, a2.wrap, a3.wrap, o0.1, o1.1, o2.1, o3.1]
  rw [show 0 + w / 2147483648 % 2 * 4096 + w / 128 % 2 * 2048 + w / 33554432 % 64 * 32 + w / 256 % 16 * 2 = sumB w by unfold sumB; omega]
  rw [sx (K := 524288) (H := 4096) (by decide) (by decide) (by decide) (by unfold sumB; omega)]
  rfl
def sumU (w : Int) : Int := w / 4096 % 1048576 * 4096
def valU (w : Int) : Int := sumU w
theorem immU_eq {w : Int} (h : W32 w) : immU bitV w = valU w := by
  have h0 := h.1
  have h1 := h.2
  unfold immU
  rw [(bitV_lit (x := w) (lo := 12) (n := 20) (d := 4096) (M := 1048576) h (by decide) (by decide) (by decide) (by decide))]
  have a0 : In (w / 4096 % 1048576 * 4096) 4294963200 := In.field 20 12 (by decide) (by decide) (by decide) (by omega) (by omega)
  have o0 := In.or (In.zero 0) a0 (by decide)
  rw [a0.wrap, o0.1]
  unfold valU sumU
  omega
def sumJ (w : Int) : Int := w / 2147483648 % 2 * 1048576 + w / 4096 % 256 * 4096 + w / 1048576 % 2 * 2048 + w / 2097152 % 1024 * 2
def valJ (w : Int) : Int := if sumJ w < 1048576 then sumJ w else sumJ w + 4292870144
theorem immJ_eq {w : Int} (h : W32 w) : immJ bitV w = valJ w := by
  have h0 := h.1
  have h1 := h.2
  unfold immJ
  rw [(bitV_lit (x := w) (lo := 31) (n := 1) (d := 2147483648) (M := 2) h (by decide) (by decide) (by decide) (by decide)), (bitV_lit (x := w) (lo := 12) (n := 8) (d := 4096) (M := 256) h (by decide) (by decide) (by decide) (by decide)), (bitV_lit (x := w) (lo := 20) (n := 1) (d := 1048576) (M := 2) h (by decide) (by decide) (by decide) (by decide)), (bitV_lit (x := w) (lo := 21) (n := 10) (d := 2097152) (M := 1024) h (by decide) (by decide) (by decide) (by decide))]
  have a0 : In (w / 2147483648 % 2 * 1048576) 1048576 := In.field 1 20 (by decide) (by decide) (by decide) (by omega) (by omega)
  have o0 := In.or (In.zero 0) a0 (by decide)
  have a1 : In (w / 4096 % 256 * 4096) 1044480 := In.field 8 12 (by decide) (by decide) (by decide) (by omega) (by omega)
  have o1 := In.or o0.2 a1 (by decide)
  have a2 : In (w / 1048576 % 2 * 2048) 2048 := In.field 1 11 (by decide) (by decide) (by decide) (by omega) (by omega)
  have o2 := In.or o1.2 a2 (by decide)
  have a3 : In (w / 2097152 % 1024 * 2) 2046 := In.field 10 1 (by decide) (by decide) (by decide) (by omega) (by omega)
  have o3 := In.or o2.2 a3 (by decide)
  rw [a0.wrap, a1.wrap, a2.wrap, a3.wrap, o0.1, o1.1, o2.1, o3.1]
  rw [show 0 + w / 2147483648 % 2 * 1048576 + w / 4096 % 256 * 4096 + w / 1048576 % 2 * 2048 + w / 2097152 % 1024 * 2 = sumJ w by unfold sumJ; omega]
  rw [sx (K := 2048) (H := 1048576) (by decide) (by decide) (by decide) (by unfold sumJ; omega)]
  rfl
def lsumI (x : Int) : Int := x / 1 % 4096 * 1048576
theorem layI_eq {x : Int} (h : W32 x) : layI bitV x = lsumI x ∧ In (lsumI x) 4293918720 := by
  have h0 := h.1
  have h1 := h.2
  unfold layI
  rw [(bitV_lit (x := x) (lo := 0) (n := 12) (d := 1) (M := 4096) h (by decide) (by decide) (by decide) (by decide))]
  have a0 : In (x / 1 % 4096 * 1048576) 4293918720 := In.field 12 20 (by decide) (by decide) (by decide) (by omega) (by omega)
  have o0 := In.or (In.zero 0) a0 (by decide)
  rw [a0.wrap, o0.1]
  have oo := o0.2
  have e : 0 + x / 1 % 4096 * 1048576 = lsumI x := by unfold lsumI; omega
  rw [e] at oo ⊢
  exact ⟨rfl, oo⟩
def lsumS (x : Int) : Int := x / 32 % 128 * 33554432 + x / 1 % 32 * 128
theorem layS_eq {x : Int} (h : W32 x) : layS bitV x = lsumS x ∧ In (lsumS x) 4261416832 := by
  have h0 := h.1
  have h1 := h.2
  unfold layS
  rw [(bitV_lit (x := x) (lo := 5) (n := 7) (d := 32) (M := 128) h (by decide) (by decide) (by decide) (by decide)), (bitV_lit (x := x) (lo := 0) (n := 5) (d := 1) (M := 32) h (by decide) (by decide) (by decide) (by decide))]
  have a0 : In (x / 32 % 128 * 33554432) 4261412864 := In.field 7 25 (by decide) (by decide) (by decide) (by omega) (by omega)
  have o0 := In.or (In.zero 0) a0 (by decide)
  have a1 : In (x / 1 % 32 * 128) 3968 := In.field 5 7 (by decide) (by decide) (by decide) (by omega) (by omega)
  have o1 := In.or o0.2 a1 (by decide)
  rw [a0.wrap, a1.wrap, o0.1, o1.1]
  have oo := o1.2
  have e : 0 + x / 32 % 128 * 33554432 + x / 1 % 32 * 128 = lsumS x := by unfold lsumS; omega
  rw [e] at oo ⊢
  exact ⟨rfl, oo⟩
def lsumB (x : Int) : Int := x / 4096 % 2 * 2147483648 + x / 2048 % 2 * 128 + x / 32 % 64 * 33554432 + x / 2 % 16 * 256
theorem layB_eq {x : Int} (h : W32 x) : layB bitV x = lsumB x ∧ In (lsumB x) 4261416832 := by
  have h0 := h.1
  have h1 := h.2
  unfold layB
  rw [(bitV_lit (x := x) (lo := 12) (n := 1) (d := 4096) (M := 2) h (by decide) (by decide) (by decide) (by decide)), (bitV_lit (x := x) (lo := 11) (n := 1) (d := 2048) (M := 2) h (by decide) (by decide) (by decide) (by decide)), (bitV_lit (x := x) (lo := 5) (n := 6) (d := 32) (M := 64) h (by decide) (by decide) (by decide) (by decide)), (bitV_lit (x := x) (lo := 1) (n := 4) (d := 2) (M := 16) h (by decide) (by decide) (by decide) (by decide))]
  have a0 : In (x / 4096 % 2 * 2147483648) 2147483648 := In.field 1 31 (by decide) (by decide) (by decide) (by omega) (by omega)
  have o0 := In.or (In.zero 0) a0 (by decide)
  have a1 : In (x / 2048 % 2 * 128) 128 := In.field 1 7 (by decide) (by decide) (by decide) (by omega) (by omega)
  have o1 := In.or o0.2 a1 (by decide)
  have a2 : In (x / 32 % 64 * 33554432) 2113929216 := In.field 6 25 (by decide) (by decide) (by decide) (by omega) (by omega)
  have o2 := In.or o1.2 a2 (by decide)
  have a3 : In (x / 2 % 16 * 256) 3840 := In.field 4 8 (by decide) (by decide) (by decide) (by omega) (by omega)
  have o3 := In.or o2.2 a3 (by decide)
  rw [a0.wrap, a1.wrap, a2.wrap, a3.wrap, o0.1, o1.1, o2.1, o3.1]
  have oo := o3.2
  have e : 0 + x / 4096 % 2 * 2147483648 + x / 2048 % 2 * 128 + x / 32 % 64 * 33554432 + x / 2 % 16 * 256 = lsumB x := by unfold lsumB; omega
  rw [e] at oo ⊢
  exact ⟨rfl, oo⟩
def lsumU (x : Int) : Int := x / 4096 % 1048576 * 4096
theorem layU_eq {x : Int} (h : W32 x) : layU bitV x = lsumU x ∧ In (lsumU x) 4294963200 := by
  have h0 := h.1
  have h1 := h.2
  unfold layU
  rw [(bitV_lit (x := x) (lo := 12) (n := 20) (d := 4096) (M := 1048576) h (by decide) (by decide) (by decide) (by decide))]
  have a0 : In (x / 4096 % 1048576 * 4096) 4294963200 := In.field 20 12 (by decide) (by decide) (by decide) (by omega) (by omega)
  have o0 := In.or (In.zero 0) a0 (by decide)
  rw [a0.wrap, o0.1]
  have oo := o0.2
  have e : 0 + x / 4096 % 1048576 * 4096 = lsumU x := by unfold lsumU; omega
  rw [e] at oo ⊢
  exact ⟨rfl, oo⟩
def lsumJ (x : Int) : Int := x / 1048576 % 2 * 2147483648 + x / 4096 % 256 * 4096 + x / 2048 % 2 * 1048576 + x / 2 % 1024 * 2097152
theorem layJ_eq {x : Int} (h : W32 x) : layJ bitV x = lsumJ x ∧ In (lsumJ x) 4294963200 := by
  have h0 := h.1
  have h1 := h.2
  unfold layJ
  rw [(bitV_lit (x := x) (lo := 20) (n := 1) (d := 1048576) (M := 2) h (by decide) (by decide) (by decide) (by decide)), (bitV_lit (x := x) (lo := 12) (n := 8) (d := 4096) (M := 256) h (by decide) (by decide) (by decide) (by decide)), (bitV_lit (x := x) (lo := 11) (n := 1) (d := 2048) (M := 2) h (by decide) (by decide) (by decide) (by decide)), (bitV_lit (x := x) (lo := 1) (n := 10) (d := 2) (M := 1024) h (by decide) (by decide) (by decide) (by decide))]
  have a0 : In (x / 1048576 % 2 * 2147483648) 2147483648 := In.field 1 31 (by decide) (by decide) (by decide) (by omega) (by omega)
  have o0 := In.or (In.zero 0) a0 (by decide)
  have a1 : In (x / 4096 % 256 * 4096) 1044480 := In.field 8 12 (by decide) (by decide) (by decide) (by omega) (by omega)
  have o1 := In.or o0.2 a1 (by decide)
  have a2 : In (x / 2048 % 2 * 1048576) 1048576 := In.field 1 20 (by decide) (by decide) (by decide) (by omega) (by omega)
  have o2 := In.or o1.2 a2 (by decide)
  have a3 : In (x / 2 % 1024 * 2097152) 2145386496 := In.field 10 21 (by decide) (by decide) (by decide) (by omega) (by omega)
  have o3 := In.or o2.2 a3 (by decide)
  rw [a0.wrap, a1.wrap, a2.wrap, a3.wrap, o0.1, o1.1, o2.1, o3.1]
  have oo := o3.2
  have e : 0 + x / 1048576 % 2 * 2147483648 + x / 4096 % 256 * 4096 + x / 2048 % 2 * 1048576 + x / 2 % 1024 * 2097152 = lsumJ x := by unfold lsumJ; omega
  rw [e] at oo ⊢
  exact ⟨rfl, oo⟩
theorem u32_id {x : Int} (h : 0 ≤ x ∧ x < 4294967296) : IntKind.u32.wrap x = x := by rw [IntKind.wrap_u32]; omega
theorem i64_id {x : Int} (h : 0 ≤ x ∧ x < 4294967296) : IntKind.i64.wrap x = x := by rw [IntKind.wrap_i64]; omega
theorem In.part {x M d : Int} {m : Nat} (n k : Nat) (hM : M = 2 ^ n) (hd : d = 2 ^ k) (hm : m = (2 ^ n - 1) * 2 ^ k) (h : n + k ≤ 32) : In (x % M * d) m := by
  have hp : (0 : Int) < 2 ^ n := by exact_mod_cast Nat.two_pow_pos n
  rw [hM]
  exact In.field n k hd hm h (Int.emod_nonneg _ (by omega)) (Int.emod_lt_of_pos _ hp)
end Go.Proofs.YtgkicojmgokinaaGreatDoor.Ab
