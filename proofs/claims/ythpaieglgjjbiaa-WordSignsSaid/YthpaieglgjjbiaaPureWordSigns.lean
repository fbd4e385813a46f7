/- Words: extended once is extended; the bits below stay, those above are all one; less with signs is less of words turned by half; shifted right with signs is divided, down: for every two words and every number of bits. -/
import Derived.Test.YthpaieglgjjbiaaQWordSignsx2
import Derived.Test.YthpaieglgjjbiaaBv
set_option linter.unusedSimpArgs false
namespace Go.Proofs.Ythpaieglgjjbiaa.Pure
open Go.RowKit Go.Proofs.Ythpaieglgjjbiaa.QWordSigns Go.Proofs.YthpaieglgjjbiaaW.PrintWords Go.Proofs.YthpaieglgjjbiaaW.PrintLast Go.Proofs.YthpaieglgjjbiaaW.PrintMore Go.Proofs.Ythpaieglgjjbiaa.Bv
namespace WordSignsP
theorem mask_eq (n : Int) : word_mask.f n = some (U (maskB n)) := by
  unfold word_mask.f maskB
  by_cases h : n ≥ 32
  · rw [if_pos h, if_pos h]; rfl
  · rw [if_neg h, if_neg h, shl_U, mod_U]
    have e1 : BitVec.ofInt 32 1 = 1#32 := rfl
    have e2 : (mx n 0).toNat = n.toNat := by unfold mx; split <;> omega
    congr 2
    rw [e2, e1, Bv.ofInt_sub, ofInt_U, e1]
def bitsB (w : BitVec 32) (lo n : Int) : BitVec 32 := if lo < 0 then 0#32 else (w >>> lo.toNat) &&& maskB n
theorem bitsB_bit (w : BitVec 32) (lo n : Int) (i : Nat) : (bitsB w lo n).getLsbD i = (decide (0 ≤ lo) && (decide ((i : Int) < n) && w.getLsbD (lo.toNat + i))) := by
  unfold bitsB
  by_cases h : lo < 0
  · rw [if_pos h]; have : ¬ 0 ≤ lo := by omega
    simp [this]
  · rw [if_neg h, BitVec.getLsbD_and, maskB_bit, BitVec.getLsbD_ushiftRight]
    have h0 : 0 ≤ lo := by omega
    by_cases hi : i < 32
    · simp [hi, h0, Bool.and_comm]
    · rw [BitVec.getLsbD_of_ge w (lo.toNat + i) (by omega)]; simp
theorem bits_eq (w : BitVec 32) (lo n : Int) : word_Bits.f (U w) lo n = some (U (bitsB w lo n)) := by
  have h0 : (0 : Int) = U 0#32 := rfl
  unfold word_Bits.f
  by_cases h1 : lo < 0
  · rw [if_pos h1]; unfold bitsB; rw [if_pos h1]; rfl
  rw [if_neg h1]
  by_cases h2 : lo ≥ 32
  · rw [if_pos h2]; unfold bitsB; rw [if_neg h1, BitVec.ushiftRight_eq_zero (by omega)]; simp; rfl
  rw [if_neg h2]
  by_cases h3 : n < 1
  · rw [if_pos h3]
    have : bitsB w lo n = 0#32 := by
      apply BitVec.eq_of_getLsbD_eq; intro i hi; rw [bitsB_bit]
      have : ¬ (i : Int) < n := by omega
      simp [this]
    rw [this]; rfl
  rw [if_neg h3, if_pos (by omega)]
  simp only [mask_eq, Option.bind_some, shr_U, and_U, ofInt_U]
  unfold bitsB; rw [if_neg h1]
theorem left_eq (w : BitVec 32) (n : Int) : word_Left.f (U w) n = some (U (w <<< (n % 32).toNat)) := by
  unfold word_Left.f
  rw [and31, if_pos (by omega), shl_U, ofInt_U]
theorem right_eq (w : BitVec 32) (n : Int) : word_Right.f (U w) n false = some (U (w >>> (n % 32).toNat)) := by
  unfold word_Right.f
  rw [if_neg (by decide), and31, if_pos (by omega), shr_U]
theorem sar_eq (w : BitVec 32) (n : Int) : word_Right.f (U w) n true = some (U (w.sshiftRight (n % 32).toNat)) := by
  unfold word_Right.f
  rw [if_pos rfl, and31, if_pos (by omega), wrap32_U, sar_U _ _ (by omega)]
def signB (w : BitVec 32) (n : Int) : BitVec 32 := if n < 1 then 0#32 else if n ≥ 32 then w else (w <<< (32 - n).toNat).sshiftRight (32 - n).toNat
theorem sign_eq (w : BitVec 32) (n : Int) : word_Sign.f (U w) n = some (U (signB w n)) := by
  unfold word_Sign.f signB
  by_cases h1 : n < 1
  · rw [if_pos h1, if_pos h1]; rfl
  rw [if_neg h1, if_neg h1]
  by_cases h2 : n ≥ 32
  · rw [if_pos h2, if_pos h2]
  rw [if_neg h2, if_neg h2]
  have e : wrap64 (32 - n) = 32 - n := by unfold wrap64; omega
  rw [e, if_pos (by omega), shl_U, ofInt_U, wrap32_U, sar_U _ _ (by omega)]
theorem signB_bit (w : BitVec 32) (n : Int) (h1 : 1 ≤ n) (h2 : n ≤ 32) (i : Nat) (hi : i < 32) : (signB w n).getLsbD i = w.getLsbD (if (i : Int) < n then i else (n - 1).toNat) := by
  unfold signB
  rw [if_neg (by omega)]
  by_cases h : n ≥ 32
  · rw [if_pos h, if_pos (by omega)]
  rw [if_neg h, BitVec.getLsbD_sshiftRight, BitVec.msb_eq_getLsbD_last, BitVec.getLsbD_shiftLeft, BitVec.getLsbD_shiftLeft]
  obtain ⟨m, hm⟩ : ∃ m : Nat, (32 - n).toNat = m := ⟨_, rfl⟩
  rw [hm]
  by_cases c : (i : Int) < n
  · have a1 : m + i < 32 := by omega
    have a2 : m + i - m = i := by omega
    have a3 : ¬ m + i < m := by omega
    have a4 : ¬ 32 ≤ i := by omega
    rw [if_pos c, if_pos a1, decide_eq_true a1, decide_eq_false a3, decide_eq_false a4, a2]
    simp
  · have a1 : ¬ m + i < 32 := by omega
    have a2 : (n - 1).toNat = 32 - 1 - m := by omega
    have a3 : ¬ 32 - 1 < m := by omega
    have a4 : ¬ 32 ≤ i := by omega
    rw [if_neg c, if_neg a1, decide_eq_false a3, decide_eq_false a4, a2]
    simp
theorem less_eq (a b : BitVec 32) : word_Less.f (U a) (U b) false = some (decide (a < b)) := by
  unfold word_Less.f
  rw [if_neg (by decide)]
  congr 1; exact decide_eq_decide.2 (lt_U a b)
theorem lessS_eq (a b : BitVec 32) : word_Less.f (U a) (U b) true = some (decide (a.toInt < b.toInt)) := by
  unfold word_Less.f
  rw [if_pos rfl, wrap32_U, wrap32_U]

theorem first_true : corrallaw1_first.f 60 = some true := by decide +kernel
theorem sign_again (w : BitVec 32) (n : Int) (h1 : 1 ≤ n) (h2 : n ≤ 32) : signB (signB w n) n = signB w n := by
  apply BitVec.eq_of_getLsbD_eq; intro i hi
  rw [signB_bit _ n h1 h2 i hi]
  by_cases c : (i : Int) < n
  · rw [if_pos c]
  · rw [if_neg c, signB_bit _ n h1 h2 i hi, signB_bit _ n h1 h2 _ (by omega), if_neg c, if_pos (by omega)]
theorem sign_top (w : BitVec 32) (n i : Int) (h1 : 1 ≤ n) (hi : n ≤ i) (h32 : i < 32) : bitsB (signB w n) i 1 = bitsB (signB w n) (n - 1) 1 := by
  apply BitVec.eq_of_getLsbD_eq; intro j hj
  rw [bitsB_bit, bitsB_bit]
  by_cases c : j = 0
  · subst c
    have a1 : 0 ≤ i := by omega
    have a2 : 0 ≤ n - 1 := by omega
    rw [decide_eq_true a1, decide_eq_true a2, signB_bit _ n h1 (by omega) _ (by omega), signB_bit _ n h1 (by omega) _ (by omega), if_neg (by omega), if_pos (by omega)]
    simp
  · have : ¬ (j : Int) < 1 := by omega
    rw [decide_eq_false this]; simp
theorem sign_low (w : BitVec 32) (n : Int) (h1 : 1 ≤ n) (h2 : n ≤ 32) : bitsB (signB w n) 0 n = bitsB w 0 n := by
  apply BitVec.eq_of_getLsbD_eq; intro j hj
  rw [bitsB_bit, bitsB_bit]
  by_cases c : (j : Int) < n
  · rw [signB_bit _ n h1 h2 _ (by omega), if_pos (by omega)]
  · rw [decide_eq_false c]; simp
theorem xor_half (a : BitVec 32) : a ^^^ 2147483648#32 = a + 2147483648#32 := by
  have hb : (2147483648#32) = BitVec.twoPow 32 31 := by decide
  have key : ∀ b : BitVec 32, b.getLsbD 31 = false → b ^^^ 2147483648#32 = b + 2147483648#32 := by
    intro b h
    have hand : b &&& 2147483648#32 = 0#32 := by
      apply BitVec.eq_of_getLsbD_eq; intro i hi
      rw [BitVec.getLsbD_and, hb, BitVec.getLsbD_twoPow]
      by_cases c : 31 = i
      · subst c; rw [h]; rfl
      · simp [c]
    rw [BitVec.add_eq_or_of_and_eq_zero _ _ hand]
    apply BitVec.eq_of_getLsbD_eq; intro i hi
    rw [BitVec.getLsbD_xor, BitVec.getLsbD_or, hb, BitVec.getLsbD_twoPow]
    by_cases c : 31 = i
    · subst c; rw [h]; rfl
    · simp [c]
  by_cases h : a.getLsbD 31 = false
  · exact key a h
  · have h : a.getLsbD 31 = true := by simpa using h
    have hx : (a ^^^ 2147483648#32).getLsbD 31 = false := by
      rw [BitVec.getLsbD_xor, h, hb, BitVec.getLsbD_twoPow]; rfl
    have e1 := key _ hx
    have e2 : (a ^^^ 2147483648#32) ^^^ 2147483648#32 = a := by simp [BitVec.xor_assoc]
    rw [e2] at e1
    have e3 : (2147483648#32) + 2147483648#32 = 0#32 := by decide
    rw [e1, BitVec.add_assoc, e3, BitVec.add_zero, ← e1]
theorem half_nat (a : BitVec 32) : ((a + 2147483648#32).toNat : Int) = a.toInt + 2147483648 := by
  rw [BitVec.toNat_add, BitVec.toInt_eq_toNat_cond]
  have := a.isLt
  have e : (2147483648#32).toNat = 2147483648 := rfl
  rw [e]; split <;> omega
theorem less_half (a b : BitVec 32) : decide (a.toInt < b.toInt) = decide (a ^^^ 2147483648#32 < b ^^^ 2147483648#32) := by
  rw [xor_half, xor_half]
  apply decide_eq_decide.2
  rw [BitVec.lt_def]
  have h1 := half_nat a
  have h2 := half_nat b
  omega
theorem sar_half (a : BitVec 32) (k : Nat) (hk : k ≤ 31) : a.sshiftRight k = ((a ^^^ 2147483648#32) >>> k) - (2147483648#32 >>> k) := by
  rw [xor_half, eq_comm, BitVec.sub_eq_iff_eq_add]
  apply BitVec.eq_of_toNat_eq
  have h1 := half_nat a
  have h2 : (a.sshiftRight k).toInt = a.toInt / 2 ^ k := by
    rw [BitVec.toInt_sshiftRight, Int.shiftRight_eq_div_pow]; simp
  have hq : (2147483648 : Nat) = 2 ^ k * 2 ^ (31 - k) := by
    rw [← Nat.pow_add, show k + (31 - k) = 31 by omega]
  have hp : 0 < 2 ^ k := Nat.two_pow_pos k
  have e : (2147483648#32).toNat = 2147483648 := rfl
  have hd : 2147483648 / 2 ^ k = 2 ^ (31 - k) := by
    rw [hq]; exact Nat.mul_div_cancel_left _ hp
  have hle : 2 ^ (31 - k) ≤ 2 ^ 31 := Nat.pow_le_pow_right (by decide) (by omega)
  have h3 : (a.toInt + 2147483648) / 2 ^ k = a.toInt / 2 ^ k + 2 ^ (31 - k) := by
    have e31 : (2147483648 : Int) = 2 ^ 31 := by decide
    have : (2 : Int) ^ 31 = 2 ^ k * 2 ^ (31 - k) := by rw [← Int.pow_add, show k + (31 - k) = 31 by omega]
    rw [e31, this, Int.add_mul_ediv_left]
    exact Int.ne_of_gt (by exact_mod_cast hp)
  have h4 : (((a + 2147483648#32).toNat / 2 ^ k : Nat) : Int) = a.toInt / 2 ^ k + 2 ^ (31 - k) := by
    rw [Int.natCast_ediv, h1, ← h3]; simp
  rw [BitVec.toNat_ushiftRight, Nat.shiftRight_eq_div_pow, BitVec.toNat_add (a.sshiftRight k), BitVec.toNat_ushiftRight, Nat.shiftRight_eq_div_pow, e, hd]
  have hl := (a.sshiftRight k).isLt
  have h5 : (((2 ^ (31 - k) : Nat)) : Int) = 2 ^ (31 - k) := by simp
  rw [← h5] at h4
  rw [BitVec.toInt_eq_toNat_cond] at h2
  rw [← h2] at h4
  generalize 2 ^ (31 - k) = Q at *
  generalize (a + 2147483648#32).toNat / 2 ^ k = R at *
  split at h4 <;> omega
theorem left_mul (w : BitVec 32) (k : Nat) : w <<< k = w * (1#32 <<< k) := by
  rw [BitVec.shiftLeft_eq_mul_twoPow, BitVec.twoPow_eq]
theorem last (a b : BitVec 32) (n : Int) (h1 : 1 ≤ n) (h2 : n ≤ 32) (k : Nat) (t : Int) :
    corrallaw1_WordSigns.l0 (k + 1) (U a) (U b) n true (U (signB a n)) t 32 = some true := by
  have e1 : BitVec.ofInt 32 1 = 1#32 := rfl
  have eh : BitVec.ofInt 32 2147483648 = 2147483648#32 := rfl
  have ehu : (2147483648 : Int) = U 2147483648#32 := rfl
  have eu : IntKind.u64.wrap (n % 16) = n % 16 := by
    simp [IntKind.wrap, IntKind.bits, IntKind.signed]; omega
  have em : n % 16 % 32 = n % 16 := by omega
  simp only [corrallaw1_WordSigns.l0]
  rw [if_neg (by decide)]
  simp only [if_true, sign_eq, sign_again a n h1 h2, bits_eq, sign_low a n h1 h2, Option.bind_some, lessS_eq, xor_U, ofInt_U, eh, less_eq, less_half, beq_self_eq_true, and15, sar_eq, right_eq, em, left_eq, eu]
  rw [ehu, right_eq]
  simp only [Option.bind_some, em]
  rw [mod_U, Bv.ofInt_sub, ofInt_U, ofInt_U, ← sar_half a _ (by omega), if_pos rfl, if_pos (by omega), shl_U, e1, mod_U, BitVec.ofInt_mul, ofInt_U, ofInt_U, left_mul]
  simp
theorem loop (a b : BitVec 32) (n : Int) (h1 : 1 ≤ n) (h2 : n ≤ 32) (d : Nat) : ∀ (k : Nat) (i : Int), n ≤ i → i + d = 32 → d + 1 ≤ k →
    corrallaw1_WordSigns.l0 k (U a) (U b) n true (U (signB a n)) (U (bitsB (signB a n) (n - 1) 1)) i = some true := by
  induction d with
  | zero =>
    intro k i hn hi hk
    obtain ⟨k, rfl⟩ : ∃ m, k = m + 1 := ⟨k - 1, by omega⟩
    obtain rfl : i = 32 := by omega
    exact last a b n h1 h2 k _
  | succ d ih =>
    intro k i hn hi hk
    obtain ⟨k, rfl⟩ : ∃ m, k = m + 1 := ⟨k - 1, by omega⟩
    have e : wrap64 (i + 1) = i + 1 := by unfold wrap64; omega
    simp only [corrallaw1_WordSigns.l0]
    rw [if_pos (by omega), bits_eq, sign_top a n i h1 hn (by omega)]
    simp only [Option.bind_some, if_true, e]
    exact ih k (i + 1) (by omega) (by omega) (by omega)
theorem main (a b : BitVec 32) (n : Int) : corrallaw1_WordSigns.f 60 (U a) (U b) n = some true := by
  have e : wrap64 (n % 32 + 1) = n % 32 + 1 := by unfold wrap64; omega
  have e2 : wrap64 (n % 32 + 1 - 1) = n % 32 + 1 - 1 := by unfold wrap64; omega
  unfold corrallaw1_WordSigns.f
  rw [first_true, and31, e, e2]
  simp only [Option.bind_some, if_true, sign_eq, bits_eq]
  exact loop a b (n % 32 + 1) (by omega) (by omega) (31 - n % 32).toNat 60 _ (by omega) (by omega) (by omega)
end WordSignsP
theorem WordSigns : corrallaw1_WordSigns.Pure := by
  intro a0 a1 a2 h0 h1 _
  obtain ⟨a, rfl⟩ := wf_u32 h0
  obtain ⟨b, rfl⟩ := wf_u32 h1
  exact ⟨60, WordSignsP.main a b a2⟩

end Go.Proofs.Ythpaieglgjjbiaa.Pure
