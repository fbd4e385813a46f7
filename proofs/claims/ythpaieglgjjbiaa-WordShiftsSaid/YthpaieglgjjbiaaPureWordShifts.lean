/- Words shifted by places counted round 32; there and back what is left is there; with its sign a word is halved, down: for every word and every number of places. -/
import Derived.Test.YthpaieglgjjbiaaQWordShiftsx2
import Derived.Test.YthpaieglgjjbiaaBv
set_option linter.unusedSimpArgs false
namespace Go.Proofs.Ythpaieglgjjbiaa.Pure
open Go.RowKit Go.Proofs.Ythpaieglgjjbiaa.QWordShifts Go.Proofs.YthpaieglgjjbiaaW.PrintWords Go.Proofs.YthpaieglgjjbiaaW.PrintLast Go.Proofs.YthpaieglgjjbiaaW.PrintMore Go.Proofs.Ythpaieglgjjbiaa.Bv
namespace WordShiftsP
theorem mask_eq (n : Int) : word_mask.f n = some (U (maskB n)) := by
  unfold word_mask.f maskB
  by_cases h : n ≥ 32
  · rw [if_pos h, if_pos h]; rfl
  · rw [if_neg h, if_neg h, shl_U, mod_U]
    have e1 : BitVec.ofInt 32 1 = 1#32 := rfl
    have e2 : (mx n 0).toNat = n.toNat := by unfold mx; split <;> omega
    congr 2
    rw [e2, e1, Bv.ofInt_sub, ofInt_U, e1]
def bitsB (w : BitVec 32) (lo n : Int) : BitVec 32 := if lo < 0 then 0#32 else (w >>> lo.toNat) &&& maskB n
theorem bitsB_bit (w : BitVec 32) (lo n : Int) (i : Nat) : (bitsB w lo n).getLsbD i = (decide (0 ≤ lo) && (decide ((i : Int) < n) && w.getLsbD (lo.toNat + i))) := by
  unfold bitsB
  by_cases h : lo < 0
  · rw [if_pos h]; have : ¬ 0 ≤ lo := by omega
    simp [this]
  · rw [if_neg h, BitVec.getLsbD_and, maskB_bit, BitVec.getLsbD_ushiftRight]
    have h0 : 0 ≤ lo := by omega
    by_cases hi : i < 32
    · simp [hi, h0, Bool.and_comm]
    · rw [BitVec.getLsbD_of_ge w (lo.toNat + i) (by omega)]; simp
theorem bits_eq (w : BitVec 32) (lo n : Int) : word_Bits.f (U w) lo n = some (U (bitsB w lo n)) := by
  have h0 : (0 : Int) = U 0#32 := rfl
  unfold word_Bits.f
  by_cases h1 : lo < 0
  · rw [if_pos h1]; unfold bitsB; rw [if_pos h1]; rfl
  rw [if_neg h1]
  by_cases h2 : lo ≥ 32
  · rw [if_pos h2]; unfold bitsB; rw [if_neg h1, BitVec.ushiftRight_eq_zero (by omega)]; simp; rfl
  rw [if_neg h2]
  by_cases h3 : n < 1
  · rw [if_pos h3]
    have : bitsB w lo n = 0#32 := by
      apply BitVec.eq_of_getLsbD_eq; intro i hi; rw [bitsB_bit]
      have : ¬ (i : Int) < n := by omega
      simp [this]
    rw [this]; rfl
  rw [if_neg h3, if_pos (by omega)]
  simp only [mask_eq, Option.bind_some, shr_U, and_U, ofInt_U]
  unfold bitsB; rw [if_neg h1]
theorem left_eq (w : BitVec 32) (n : Int) : word_Left.f (U w) n = some (U (w <<< (n % 32).toNat)) := by
  unfold word_Left.f
  rw [and31, if_pos (by omega), shl_U, ofInt_U]
theorem right_eq (w : BitVec 32) (n : Int) : word_Right.f (U w) n false = some (U (w >>> (n % 32).toNat)) := by
  unfold word_Right.f
  rw [if_neg (by decide), and31, if_pos (by omega), shr_U]
theorem sar_eq (w : BitVec 32) (n : Int) : word_Right.f (U w) n true = some (U (w.sshiftRight (n % 32).toNat)) := by
  unfold word_Right.f
  rw [if_pos rfl, and31, if_pos (by omega), wrap32_U, sar_U _ _ (by omega)]
def signB (w : BitVec 32) (n : Int) : BitVec 32 := if n < 1 then 0#32 else if n ≥ 32 then w else (w <<< (32 - n).toNat).sshiftRight (32 - n).toNat
theorem sign_eq (w : BitVec 32) (n : Int) : word_Sign.f (U w) n = some (U (signB w n)) := by
  unfold word_Sign.f signB
  by_cases h1 : n < 1
  · rw [if_pos h1, if_pos h1]; rfl
  rw [if_neg h1, if_neg h1]
  by_cases h2 : n ≥ 32
  · rw [if_pos h2, if_pos h2]
  rw [if_neg h2, if_neg h2]
  have e : wrap64 (32 - n) = 32 - n := by unfold wrap64; omega
  rw [e, if_pos (by omega), shl_U, ofInt_U, wrap32_U, sar_U _ _ (by omega)]
theorem signB_bit (w : BitVec 32) (n : Int) (h1 : 1 ≤ n) (h2 : n ≤ 32) (i : Nat) (hi : i < 32) : (signB w n).getLsbD i = w.getLsbD (if (i : Int) < n then i else (n - 1).toNat) := by
  unfold signB
  rw [if_neg (by omega)]
  by_cases h : n ≥ 32
  · rw [if_pos h, if_pos (by omega)]
  rw [if_neg h, BitVec.getLsbD_sshiftRight, BitVec.msb_eq_getLsbD_last, BitVec.getLsbD_shiftLeft, BitVec.getLsbD_shiftLeft]
  obtain ⟨m, hm⟩ : ∃ m : Nat, (32 - n).toNat = m := ⟨_, rfl⟩
  rw [hm]
  by_cases c : (i : Int) < n
  · have a1 : m + i < 32 := by omega
    have a2 : m + i - m = i := by omega
    have a3 : ¬ m + i < m := by omega
    have a4 : ¬ 32 ≤ i := by omega
    rw [if_pos c, if_pos a1, decide_eq_true a1, decide_eq_false a3, decide_eq_false a4, a2]
    simp
  · have a1 : ¬ m + i < 32 := by omega
    have a2 : (n - 1).toNat = 32 - 1 - m := by omega
    have a3 : ¬ 32 - 1 < m := by omega
    have a4 : ¬ 32 ≤ i := by omega
    rw [if_neg c, if_neg a1, decide_eq_false a3, decide_eq_false a4, a2]
    simp
theorem less_eq (a b : BitVec 32) : word_Less.f (U a) (U b) false = some (decide (a < b)) := by
  unfold word_Less.f
  rw [if_neg (by decide)]
  congr 1; exact decide_eq_decide.2 (lt_U a b)
theorem lessS_eq (a b : BitVec 32) : word_Less.f (U a) (U b) true = some (decide (a.toInt < b.toInt)) := by
  unfold word_Less.f
  rw [if_pos rfl, wrap32_U, wrap32_U]

theorem first_true : corrallaw1_first.f 50 = some true := by decide +kernel
theorem mod_mod (n : Int) : n % 32 % 32 = n % 32 := by omega
/-- There and back. -/
theorem back (w : BitVec 32) (k : Int) (h0 : 0 < k) (h1 : k < 32) : w <<< (k % 32).toNat >>> (k % 32).toNat = bitsB w 0 (32 - k) := by
  apply BitVec.eq_of_getLsbD_eq; intro i hi
  have e : k % 32 = k := by omega
  rw [e, bitsB_bit, BitVec.getLsbD_ushiftRight, BitVec.getLsbD_shiftLeft]
  obtain ⟨m, hm⟩ : ∃ m : Nat, k.toNat = m := ⟨_, rfl⟩
  rw [hm]
  have a1 : ¬ m + i < m := by omega
  have a2 : m + i - m = i := by omega
  by_cases c : (i : Int) < 32 - k
  · have : m + i < 32 := by omega
    rw [decide_eq_true this, decide_eq_false a1, a2, decide_eq_true c]
    simp
  · have : ¬ m + i < 32 := by omega
    rw [decide_eq_false this, decide_eq_false c]
    simp
theorem backS (w : BitVec 32) (k : Int) (h0 : 0 < k) (h1 : k < 32) : (w <<< (k % 32).toNat).sshiftRight (k % 32).toNat = signB w (32 - k) := by
  have e : k % 32 = k := by omega
  have e2 : 32 - (32 - k) = k := by omega
  unfold signB
  rw [if_neg (by omega), if_neg (by omega), e, e2]
theorem half (w : BitVec 32) : w.sshiftRight 1 + w.sshiftRight 1 + (w &&& 1#32) = w := by
  have h1 : (w &&& 1#32).toNat = w.toNat % 2 := by
    rw [BitVec.toNat_and]; exact Nat.and_one_is_mod _
  have h2 : (w.sshiftRight 1).toInt = w.toInt / 2 := by
    rw [BitVec.toInt_sshiftRight, Int.shiftRight_eq_div_pow]; rfl
  apply BitVec.eq_of_toNat_eq
  rw [BitVec.toNat_add, BitVec.toNat_add, h1]
  have l1 := w.isLt
  have l2 := (w.sshiftRight 1).isLt
  rw [BitVec.toInt_eq_toNat_cond, BitVec.toInt_eq_toNat_cond] at h2
  split at h2 <;> split at h2 <;> omega
theorem half_less (w : BitVec 32) : decide ((w.sshiftRight 1).toInt < (0#32).toInt) = decide (w.toInt < (0#32).toInt) := by
  have h2 : (w.sshiftRight 1).toInt = w.toInt / 2 := by
    rw [BitVec.toInt_sshiftRight, Int.shiftRight_eq_div_pow]; rfl
  have z : (0#32).toInt = 0 := by decide
  rw [h2, z]
  exact decide_eq_decide.2 (by omega)
theorem j1_eq (w : BitVec 32) (k : Nat) : corrallaw1_WordShifts.j1 (k + 1) (U w) true false = some true := by
  have z : (0 : Int) = U 0#32 := rfl
  have e1 : BitVec.ofInt 32 1 = 1#32 := rfl
  have e : ((1 : Int) % 32).toNat = 1 := by decide
  simp only [corrallaw1_WordShifts.j1, sar_eq, Option.bind_some, e]
  rw [if_neg (by decide), if_pos trivial, mod_U, and_U, BitVec.ofInt_add, ofInt_U, ofInt_U, e1, BitVec.ofInt_add, ofInt_U, half, if_pos rfl, z, lessS_eq, lessS_eq]
  simp only [Option.bind_some, half_less, beq_self_eq_true]
theorem j0_eq (w : BitVec 32) (n : Int) (k : Nat) (h0 : 0 ≤ n) (h1 : n < 32) : corrallaw1_WordShifts.j0 (k + 2) (U w) true n false = some true := by
  simp only [corrallaw1_WordShifts.j0]
  rw [if_neg (by decide)]
  by_cases h : n > 0
  · have e : wrap64 (32 - n) = 32 - n := by unfold wrap64; omega
    rw [if_pos h, e]
    simp only [left_eq, right_eq, sar_eq, bits_eq, sign_eq, Option.bind_some, back w n h h1, backS w n h h1, if_true, bne_self_eq_false]
    exact j1_eq w k
  · rw [if_neg h]; exact j1_eq w k
theorem main (w : BitVec 32) (n : Int) : corrallaw1_WordShifts.f 50 (U w) n = some true := by
  unfold corrallaw1_WordShifts.f
  rw [first_true, and31]
  simp only [Option.bind_some, if_true, left_eq, right_eq, sar_eq, mod_mod, bne_self_eq_false]
  exact j0_eq w (n % 32) 48 (by omega) (by omega)
end WordShiftsP
theorem WordShifts : corrallaw1_WordShifts.Pure := by
  intro a0 a1 h0 _
  obtain ⟨w, rfl⟩ := wf_u32 h0
  exact ⟨50, WordShiftsP.main w a1⟩

end Go.Proofs.Ythpaieglgjjbiaa.Pure
